import Derived.Test.YtiblnpnfaadmcaaGreatAmLem
import Derived.Test.YtiblnpnfaadmcaaGreatAmDig
import Derived.Test.YtiblnpnfaadmcaaGreatTLimb
import Derived.Test.YtiblnpnfaadmcaaGreatAmL
import Derived.Test.YtiblnpnfaadmcaaGreatAmRow
/- Steps whose indices are natural numbers, made for simp with omega. -/
set_option linter.unusedVariables false
set_option maxRecDepth 10000
set_option linter.unusedSimpArgs false
namespace Go.Proofs.YtiblnpnfaadmcaaGreat.Am
open Go

section
variable {a b c i j : Nat}
theorem i_add (h : a + b ≤ 9223372036854775807) : opBin .add (.int .i64 (a : Int)) (.int .i64 (b : Int)) = some (.int .i64 ((a + b : Nat) : Int)) := by
 rw [zy7w (by omega) (by omega)]; rfl
theorem i_sub (h : b ≤ a) (h2 : a ≤ 9223372036854775807) : opBin .sub (.int .i64 (a : Int)) (.int .i64 (b : Int)) = some (.int .i64 ((a - b : Nat) : Int)) := by
 rw [zy7z (by omega) (by omega)]; congr 2; omega
theorem i_mul (h : a * b ≤ 9223372036854775807) : opBin .mul (.int .i64 (a : Int)) (.int .i64 (b : Int)) = some (.int .i64 ((a * b : Nat) : Int)) := by
 have : ((a * b : Nat) : Int) = (a : Int) * b := Int.natCast_mul a b
 rw [int_mul (by omega) (by omega), this]

theorem i_add1 (h : a + 1 ≤ 9223372036854775807) : opBin .add (.int .i64 (a : Int)) (.int .i64 1) = some (.int .i64 ((a + 1 : Nat) : Int)) := i_add (b := 1) h
theorem i_add2 (h : a + 2 ≤ 9223372036854775807) : opBin .add (.int .i64 (a : Int)) (.int .i64 2) = some (.int .i64 ((a + 2 : Nat) : Int)) := i_add (b := 2) h
theorem i_add3 (h : a + 3 ≤ 9223372036854775807) : opBin .add (.int .i64 (a : Int)) (.int .i64 3) = some (.int .i64 ((a + 3 : Nat) : Int)) := i_add (b := 3) h
theorem i_add8 (h : a + 8 ≤ 9223372036854775807) : opBin .add (.int .i64 (a : Int)) (.int .i64 8) = some (.int .i64 ((a + 8 : Nat) : Int)) := i_add (b := 8) h
theorem i_sub1 (h : 1 ≤ a) (h2 : a ≤ 9223372036854775807) : opBin .sub (.int .i64 (a : Int)) (.int .i64 1) = some (.int .i64 ((a - 1 : Nat) : Int)) := i_sub (b := 1) h h2
theorem i_sub2 (h : 2 ≤ a) (h2 : a ≤ 9223372036854775807) : opBin .sub (.int .i64 (a : Int)) (.int .i64 2) = some (.int .i64 ((a - 2 : Nat) : Int)) := i_sub (b := 2) h h2
theorem i_mul2 (h : a * 2 ≤ 9223372036854775807) : opBin .mul (.int .i64 (a : Int)) (.int .i64 2) = some (.int .i64 ((a * 2 : Nat) : Int)) := i_mul (b := 2) h
theorem i_mul4 (h : a * 4 ≤ 9223372036854775807) : opBin .mul (.int .i64 (a : Int)) (.int .i64 4) = some (.int .i64 ((a * 4 : Nat) : Int)) := i_mul (b := 4) h
theorem i_mul8 (h : a * 8 ≤ 9223372036854775807) : opBin .mul (.int .i64 (a : Int)) (.int .i64 8) = some (.int .i64 ((a * 8 : Nat) : Int)) := i_mul (b := 8) h
theorem i_lmul2 (h : 2 * a ≤ 9223372036854775807) : opBin .mul (.int .i64 2) (.int .i64 (a : Int)) = some (.int .i64 ((2 * a : Nat) : Int)) := i_mul (a := 2) h
theorem i_lmul4 (h : 4 * a ≤ 9223372036854775807) : opBin .mul (.int .i64 4) (.int .i64 (a : Int)) = some (.int .i64 ((4 * a : Nat) : Int)) := i_mul (a := 4) h
theorem i_lmul8 (h : 8 * a ≤ 9223372036854775807) : opBin .mul (.int .i64 8) (.int .i64 (a : Int)) = some (.int .i64 ((8 * a : Nat) : Int)) := i_mul (a := 8) h
theorem i_lmul32 (h : 32 * a ≤ 9223372036854775807) : opBin .mul (.int .i64 32) (.int .i64 (a : Int)) = some (.int .i64 ((32 * a : Nat) : Int)) := i_mul (a := 32) h
theorem i_quo2 (h2 : a ≤ 9223372036854775807) : opBin .quo (.int .i64 (a : Int)) (.int .i64 2) = some (.int .i64 ((a / 2 : Nat) : Int)) := zy7x (x := (a : Int)) (y := (2 : Int)) (by omega) (by omega) (by omega)
theorem i_rem2 : opBin .rem (.int .i64 (a : Int)) (.int .i64 2) = some (.int .i64 ((a % 2 : Nat) : Int)) := zy7y (x := (a : Int)) (y := (2 : Int)) (by omega) (by omega)
theorem i_quo4 (h2 : a ≤ 9223372036854775807) : opBin .quo (.int .i64 (a : Int)) (.int .i64 4) = some (.int .i64 ((a / 4 : Nat) : Int)) := zy7x (x := (a : Int)) (y := (4 : Int)) (by omega) (by omega) (by omega)
theorem i_rem4 : opBin .rem (.int .i64 (a : Int)) (.int .i64 4) = some (.int .i64 ((a % 4 : Nat) : Int)) := zy7y (x := (a : Int)) (y := (4 : Int)) (by omega) (by omega)
theorem i_quo8 (h2 : a ≤ 9223372036854775807) : opBin .quo (.int .i64 (a : Int)) (.int .i64 8) = some (.int .i64 ((a / 8 : Nat) : Int)) := zy7x (x := (a : Int)) (y := (8 : Int)) (by omega) (by omega) (by omega)
theorem i_rem8 : opBin .rem (.int .i64 (a : Int)) (.int .i64 8) = some (.int .i64 ((a % 8 : Nat) : Int)) := zy7y (x := (a : Int)) (y := (8 : Int)) (by omega) (by omega)
theorem i_quo32 (h2 : a ≤ 9223372036854775807) : opBin .quo (.int .i64 (a : Int)) (.int .i64 32) = some (.int .i64 ((a / 32 : Nat) : Int)) := zy7x (x := (a : Int)) (y := (32 : Int)) (by omega) (by omega) (by omega)
theorem i_rem32 : opBin .rem (.int .i64 (a : Int)) (.int .i64 32) = some (.int .i64 ((a % 32 : Nat) : Int)) := zy7y (x := (a : Int)) (y := (32 : Int)) (by omega) (by omega)

theorem v_add (h : a + b < 18446744073709551616) : opBin .add (nat .u64 a) (nat .u64 b) = some (nat .u64 (a + b)) := by rw [u_add, Nat.mod_eq_of_lt h]
theorem v_mul (h : a * b < 18446744073709551616) : opBin .mul (nat .u64 a) (nat .u64 b) = some (nat .u64 (a * b)) := by rw [u_mul, Nat.mod_eq_of_lt h]
theorem v_sub (h : b ≤ a) (h2 : a < 18446744073709551616) : opBin .sub (nat .u64 a) (nat .u64 b) = some (nat .u64 (a - b)) := by
 rw [u_sub (by omega)]; congr 2; omega
theorem v_conv {k : IntKind} (h : a < 18446744073709551616) : zyd0 .u64 (nat k a) = some (nat .u64 a) := by rw [conv_uu, Nat.mod_eq_of_lt h]
theorem i_conv (h : a < 18446744073709551616) : zyd0 .u64 (.int .i64 (a : Int)) = some (nat .u64 a) := v_conv (k := .i64) h

theorem nsidx_rs {sz id off n : Nat} {k : IntKind} (h : i < n) : zydh sz (.rs sz id off n) (.int k (i : Int)) = some (.rp id (off + i * sz)) := zyg9 (by omega) (by omega)
theorem nsidx_is {sz n : Nat} {f : Bool} {cs : List AV} {k : IntKind} (h : i < n) : zydh sz (.is n f cs) (.int k (i : Int)) = some (.ip (cs.drop (i * sz))) := zyg8 (by omega) (by omega)
theorem zycb {l : List Nat} {k : IntKind} (h : i < l.length) : zydh 1 (nats l) (.int k (i : Int)) = some (.ip ((nl .u64 l).drop i)) := sidx_nats (by omega) (by omega)
theorem nstri {l : List Nat} {k : IntKind} (hb : ∀ x ∈ l, x < 256) (h : i < l.length) : zydo (str l) (.int k (i : Int)) = some (nat .u8 (l.getD i 0)) := zyh5 hb (by omega) (by omega)

theorem ld_rp {h : Heap} {ag : Option Nat} {id off : Nat} : zyd4 h ag (.rp id off) = (live h id).bind fun cs => zyem (cs.drop off) ag := Eq.trans rfl rfl

def stc (h : Heap) (n id off : Nat) (v : AV) (cs : List AV) : Option Heap := if v.cells.length = n ∧ v.cells.all AV.cell ∧ off + n ≤ cs.length then some (h.set id (some (zygd cs off v.cells))) else none
theorem st_rp {h : Heap} {n id off : Nat} {v : AV} : zydm h n (.rp id off) v = (live h id).bind (stc h n id off v) := Eq.trans rfl rfl
theorem stc_nl {h : Heap} {k : IntKind} {l : List Nat} {id off : Nat} (ho : off < l.length) : stc h 1 id off (nat k a) (nl k l) = some (h.set id (some (nl k (l.set off a)))) := by
 have e : (nat k a).cells = [nat k a] := rfl
 simp only [stc, e, zygf ho, zyc6]
 rw [if_pos]
 refine ⟨rfl, by simp [AV.cell, nat], by omega⟩

theorem live_0 {x : Option (List AV)} {l : Heap} : live (x :: l) 0 = x := by cases x <;> rfl
theorem live_1 {x y : Option (List AV)} {l : Heap} : live (x :: y :: l) 1 = y := by cases y <;> rfl
theorem live_2 {x y z : Option (List AV)} {l : Heap} : live (x :: y :: z :: l) 2 = z := by cases z <;> rfl

theorem nmks {h : Heap} {k : IntKind} {n : Nat} (h1 : n ≤ c) (h3 : c ≤ 4294967296) : opMks h 1 [nat k 0] (.int .i64 (n : Int)) (.int .i64 (c : Int)) = some (.rs 1 h.length 0 n, h ++ [some (nl k (List.replicate n 0))]) := by
 rw [zybk (by omega) (by omega) (by omega), Int.toNat_natCast]
theorem nmks0 {h : Heap} {k : IntKind} (h3 : c ≤ 4294967296) : opMks h 1 [nat k 0] (.int .i64 0) (.int .i64 (c : Int)) = some (.rs 1 h.length 0 0, h ++ [some (nl k (List.replicate 0 0))]) := nmks (n := 0) (by omega) h3
theorem nmm : opMm true [.int .i64 (a : Int), .int .i64 (b : Int)] = some (.int .i64 ((max a b : Nat) : Int)) := by
 have : opMm true [.int .i64 (a : Int), .int .i64 (b : Int)] = some (.int .i64 (if (b : Int) > a then (b : Int) else a)) := rfl
 rw [this]
 congr 2
 split <;> omega
end

theorem h_app {x : Option (List AV)} {l : Heap} {y : Heap} : (x :: l) ++ y = x :: (l ++ y) := Eq.trans rfl rfl
theorem h_set0 {x y : Option (List AV)} {l : Heap} : (x :: l).set 0 y = y :: l := Eq.trans rfl rfl
theorem h_set1 {x y z : Option (List AV)} {l : Heap} : (x :: z :: l).set 1 y = x :: y :: l := Eq.trans rfl rfl


@[congr] theorem bind_cg {α β : Type} {x y : Option α} {f : α → Option β} (h : x = y) : x.bind f = y.bind f := by rw [h]
section
variable {R : Type} {A B : Option R} {x y : AV}
@[congr] theorem condK_cg (h : x = y) : condK x A B = condK y A B := by rw [h]
@[congr] theorem guardK_cg {b : Bool} (h : x = y) : zy6i x b A B = zy6i y b A B := by rw [h]
theorem cond_y {p : Prop} [Decidable p] (h : p) : condK (.bool (decide p)) A B = A := by rw [zy3c, if_pos h]
theorem cond_n {p : Prop} [Decidable p] (h : ¬ p) : condK (.bool (decide p)) A B = B := by rw [zy3c, if_neg h]
theorem guard_ty {p : Prop} [Decidable p] (h : p) : zy6i (.bool (decide p)) true A B = A := by rw [zy6k, if_pos h]
theorem guard_tn {p : Prop} [Decidable p] (h : ¬ p) : zy6i (.bool (decide p)) true A B = B := by rw [zy6k, if_neg h]
theorem guard_fy {p : Prop} [Decidable p] (h : p) : zy6i (.bool (decide p)) false A B = B := by rw [zy6j, if_pos h]
theorem guard_fn {p : Prop} [Decidable p] (h : ¬ p) : zy6i (.bool (decide p)) false A B = A := by rw [zy6j, if_neg h]
theorem zy6o : zy6i (.bool true) true A B = A := Eq.trans rfl rfl
theorem zy6n : zy6i (.bool false) true A B = B := Eq.trans rfl rfl
theorem zy6m : zy6i (.bool true) false A B = B := Eq.trans rfl rfl
theorem zy6l : zy6i (.bool false) false A B = A := Eq.trans rfl rfl
end
set_option linter.defProp false in
def Wd := And.intro @zy9y <| And.intro @zya2 <| And.intro @zya1 <| And.intro @len_str <| And.intro @zy13 <| And.intro @i_add <| And.intro @i_sub <| And.intro @i_mul <| And.intro @i_add1 <| And.intro @i_add2 <| And.intro @i_add3 <| And.intro @i_add8 <| And.intro @i_sub1 <| And.intro @i_sub2 <| And.intro @i_mul2 <| And.intro @i_mul4 <| And.intro @i_mul8 <| And.intro @i_lmul2 <| And.intro @i_lmul4 <| And.intro @i_lmul8 <| And.intro @i_lmul32 <| And.intro @i_quo2 <| And.intro @i_rem2 <| And.intro @i_quo4 <| And.intro @i_rem4 <| And.intro @i_quo8 <| And.intro @i_rem8 <| And.intro @i_quo32 <| And.intro @i_rem32 <| And.intro @zy11 <| And.intro @zy10 <| And.intro @zy0z <| And.intro @zy0y <| And.intro @zy0x <| And.intro @zy12 <| And.intro @nat_lss <| And.intro @nat_leq <| And.intro @zybq <| And.intro @zybp <| And.intro @zybo <| And.intro @zybr <| And.intro @v_add <| And.intro @v_sub <| And.intro @v_mul <| And.intro @v_conv <| And.intro @i_conv <| And.intro @u_quo <| And.intro @u_rem <| And.intro @u_shr <| And.intro @u_shl <| And.intro @nsidx_rs <| And.intro @nsidx_is <| And.intro @zycb <| And.intro @nstri <| And.intro @ld_rp <| And.intro @load_ip <| And.intro @rd_nl <| And.intro @st_rp <| And.intro @stc_nl <| And.intro @live_0 <| And.intro @live_1 <| And.intro @live_2 <| And.intro @nmks <| And.intro @nmks0 <| And.intro @nmm <| And.intro @zyc6 <| And.intro @h_app <| And.intro @h_set0 <| And.intro @h_set1 <| And.intro @cond_y <| And.intro @cond_n <| And.intro @cond_t <| And.intro @zy3d <| And.intro @guard_ty <| And.intro @guard_tn <| And.intro @guard_fy <| And.intro @guard_fn <| And.intro @zy6o <| And.intro @zy6n <| And.intro @zy6m <| And.intro @zy6l <| And.intro @ext0 <| And.intro @ext1 <| And.intro @ext2 <| And.intro @frz_nat <| And.intro @zy63 <| And.intro @zy64 <| And.intro @bslc_0 <| And.intro @bslc_1 <| And.intro @bslc_2 <| And.intro @Int.toNat_natCast <| And.intro @List.nil_append.{0} <| And.intro @List.length_nil.{0} <| And.intro @List.length_cons.{0} <| And.intro @Nat.zero_add <| And.intro @Nat.mul_one <| And.intro @List.length_set.{0} <| And.intro @ne_eq.{1} <| And.intro @eq_self.{1} <| And.intro @not_true_eq_false <| And.intro @not_false_eq_true <| And.intro @decide_true <| And.intro @decide_false <| @Decidable.not_not
end Go.Proofs.YtiblnpnfaadmcaaGreat.Am
/- More on digits. No program in sight. -/
set_option linter.unusedVariables false
set_option linter.unusedSimpArgs false
namespace Go.Proofs.YtiblnpnfaadmcaaGreat.Am

variable {B : Nat}

theorem Dg.l32 {l : List Nat} (h : Dg 4294967296 l) (i : Nat) : l.getD i 0 < 4294967296 := h.getD (by decide)
theorem Dg.l64 {l : List Nat} (h : Dg 18446744073709551616 l) (i : Nat) : l.getD i 0 < 18446744073709551616 := h.getD (by decide)

theorem zy6f {l : List Nat} (h : Dg B l) (j : Nat) : l.getD j 0 = val B l / B ^ j % B := by
 induction l generalizing j with
 | nil => simp [val]
 | cons x l ih =>
  have hx := h.head
  cases j with
  | zero => rw [zyhw, Nat.pow_zero, Nat.div_one, Nat.add_mul_mod_self_left, Nat.mod_eq_of_lt hx]; rfl
  | succ j =>
   have e : (x :: l).getD (j + 1) 0 = l.getD j 0 := rfl
   rw [e, ih h.tail j, zyhw, Nat.pow_succ, Nat.mul_comm (B ^ j), ← Nat.div_div_eq_div_mul, Nat.add_mul_div_left _ _ (by omega), Nat.div_eq_of_lt hx, Nat.zero_add]

theorem zyi3 {l : List Nat} {j a b : Nat} (hj : j < l.length) (ha : a = l.getD j 0 + b) : val B (l.set j a) = val B l + b * B ^ j := by
 induction l generalizing j with
 | nil => simp at hj
 | cons x l ih =>
  cases j with
  | zero =>
   have : a = x + b := ha
   rw [List.set_cons_zero, zyhw, zyhw, this, Nat.pow_zero]; omega
  | succ j =>
   rw [List.set_cons_succ, zyhw, zyhw, ih (by simpa using hj) ha, Nat.mul_add, Nat.pow_succ]
   have e2 : B * (b * B ^ j) = b * (B ^ j * B) := by rw [Nat.mul_left_comm, Nat.mul_comm B]
   omega

theorem val_set' {l : List Nat} {j a : Nat} (hj : j < l.length) : val B (l.set j a) + l.getD j 0 * B ^ j = val B l + a * B ^ j := by
 induction l generalizing j with
 | nil => simp at hj
 | cons x l ih =>
  cases j with
  | zero =>
   have : (x :: l).getD 0 0 = x := rfl
   rw [List.set_cons_zero, zyhw, zyhw, this, Nat.pow_zero]; omega
  | succ j =>
   have e : (x :: l).getD (j + 1) 0 = l.getD j 0 := rfl
   have := ih (j := j) (by simpa using hj)
   rw [List.set_cons_succ, zyhw, zyhw, e, Nat.pow_succ]
   have e2 : ∀ c, c * (B ^ j * B) = B * (c * B ^ j) := fun c => by rw [← Nat.mul_assoc, Nat.mul_comm]
   rw [e2, e2, Nat.add_assoc, Nat.add_assoc, ← Nat.mul_add, this, Nat.mul_add]

theorem dig_small (hB : 2 ≤ B) {x : Nat} (hx : x < B) (h0 : x ≠ 0) : dig B x = [x] := by
 rw [zy41 hB h0, Nat.mod_eq_of_lt hx, Nat.div_eq_of_lt hx, zy43]

theorem zy3t (hB : 2 ≤ B) (n i : Nat) : (dig B n).drop i = dig B (n / B ^ i) := by
 induction i generalizing n with
 | zero => simp
 | succ i ih =>
  by_cases h : n = 0
  ·subst h; simp [zy43]
  ·rw [zy41 hB h, List.drop_succ_cons, ih, Nat.pow_succ, Nat.mul_comm (B ^ i), Nat.div_div_eq_div_mul]
theorem zy3v (hB : 2 ≤ B) (n i : Nat) : (dig B n).getD i 0 = n / B ^ i % B := by
 rw [zy6f (zy3s hB n), zyhy hB]
theorem zy3x (hB : 2 ≤ B) {n i : Nat} : i < (dig B n).length ↔ B ^ i ≤ n := by
 constructor
 ·intro h
  rcases Nat.lt_or_ge n (B ^ i) with h1 | h1
  ·have := zy3z hB h1; omega
  ·exact h1
 ·intro h
  rcases Nat.lt_or_ge i (dig B n).length with h1 | h1
  ·exact h1
  ·have h2 := zyb0 hB (n := n)
   have h3 : B ^ (dig B n).length ≤ B ^ i := Nat.pow_le_pow_right (by omega) h1
   omega

def nb (n : Nat) : List Nat := (dig 256 n).reverse
theorem zyby : nb 0 = [] := by unfold nb; rw [zy43]; rfl
theorem nb_lt (n : Nat) : ∀ x ∈ nb n, x < 256 := fun x hx => zy3s (by decide) n x (List.mem_reverse.1 hx)
theorem zybx (n : Nat) : val 256 (nb n).reverse = n := by unfold nb; rw [List.reverse_reverse, zyhy (by decide)]
theorem nb_inj {a b : Nat} (h : nb a = nb b) : a = b := by rw [← zybx a, h, zybx]
theorem zybu (n : Nat) : (nb n).length = (dig 256 n).length := by simp [nb]
theorem nb_eq_nil {n : Nat} : nb n = [] ↔ n = 0 := by
 constructor
 ·intro h
  have := zybx n
  rw [h] at this
  exact this.symm
 ·rintro rfl; exact zyby
theorem nb_one : nb 1 = [1] := by unfold nb; rw [dig_small (by decide) (by decide) (by decide)]; rfl

theorem nb_of {l : List Nat} (hl : ∀ x ∈ l, x < 256) (h0 : l.getD 0 1 ≠ 0) : nb (val 256 l.reverse) = l := by
 have hd : Dg 256 l.reverse := fun x hx => hl x (List.mem_reverse.1 hx)
 have ht : tl l.reverse = l.reverse.length := by
  cases l with
  | nil => rfl
  | cons x l =>
   rw [List.reverse_cons, tl_snoc, if_neg (by simpa using h0)]
   simp
 unfold nb
 rw [← eq_dig (by decide) hd ht, List.reverse_reverse]
theorem zybs {n : Nat} (h : n ≠ 0) : (nb n).getD 0 0 ≠ 0 := by
 have h1 := zy42 (B := 256) (by decide) h
 have h2 : (dig 256 n).length ≠ 0 := fun e => h ((zy3w (by decide)).1 e)
 unfold nb
 rw [List.getD_eq_getElem?_getD, List.getElem?_reverse (by omega)]
 rw [List.getD_eq_getElem?_getD] at h1
 simpa using h1
end Go.Proofs.YtiblnpnfaadmcaaGreat.Am
/- The document's answer for layer 1: trimming, order, sums, differences, products. -/
set_option linter.unusedVariables false
set_option linter.unusedSimpArgs false
namespace Go.Proofs.YtiblnpnfaadmcaaGreat.Am
open Go

abbrev B32 : Nat := 4294967296
theorem zy0t : 2 ≤ B32 := by decide


def AV.cut2 : AV → Nat → AV
 | .is n f cs, m => .is m (f && m == n) (cs.take m)
 | .rs sz id off _, m => .rs sz id off m
 | x, _ => x
theorem Row.cut2 {h : Heap} {k : IntKind} {x : AV} {l : List Nat} (hr : Row h k x l) {m : Nat} (hm : m ≤ l.length) : Row h k (x.cut2 m) (l.take m) := by
 have e : (l.take m).length = m := by simp; omega
 cases hr with
 | is f l =>
  have := Row.is (h := h) (k := k) (f && m == l.length) (l.take m)
  rw [e] at this
  simpa [AV.cut2, zyc7] using this
 | rs id off cs l hl hb hc =>
  have := Row.rs (h := h) (k := k) id off cs (l.take m) hl (by omega) (by
   rw [e, ← zyc7, ← hc, List.take_take, Nat.min_eq_left hm])
  rw [e] at this
  exact this
theorem Row.slc0 {h : Heap} {k k2 : IntKind} {x : AV} {l : List Nat} (hr : Row h k x l) {b : Int} (h1 : 0 ≤ b) (h2 : b ≤ l.length) : opSlc 1 x none (some (.int k2 b)) none = some (x.cut2 b.toNat) := by
 cases hr with
 | is f l => rw [slc_is0 h1 h2, Nat.mul_one]; rfl
 | rs id off cs l hl hb hc => rw [slc_rs0 h1 h2]; rfl
theorem Row.rdn {h : Heap} {k k' : IntKind} {x : AV} {l : List Nat} (hr : Row h k x l) {i : Nat} (h2 : i < l.length) {R : Type} (F : AV → Option R) :
  ((zydh 1 x (.int k' (i : Int))).bind fun a => (zyd4 h none a).bind F) = F (nat k (l.getD i 0)) := hr.rd (by omega) (by omega) F

theorem trim_l0 {h : Heap} {x : AV} {l : List Nat} (hr : Row h .u64 x l) (hl : l.length ≤ 4611686018427387904) : ∀ k, k ≤ l.length → zf2d.l0 x (.int .i64 (k : Nat)) h = some (x.cut2 (tl (l.take k)), h) := by
 intro k
 induction k with
 | zero =>
  intro hk
  rw [zf2d.l0_eq]
  simp only [zy0z, zy13, zy6k]
  rw [if_neg (by omega), hr.slc0 (by omega) (by omega)]
  rfl
 | succ k ih =>
  intro hk
  rw [zf2d.l0_eq]
  simp (disch := omega) only [Wd]
  rw [hr.rdn (by omega)]
  simp only [zybo, zy13, zy3c, Nat.add_sub_cancel]
  rw [zyhb l k (by omega)]
  split
  ·exact ih (by omega)
  ·rw [hr.slc0 (by omega) (by omega)]
   rfl
theorem zyhk {h : Heap} {x : AV} {l : List Nat} (hr : Row h .u64 x l) (hl : l.length ≤ 4611686018427387904) : callW gp fid.zf2d [x] h = some (x.cut2 (tl l), h) := by
 rw [zf2d.eq]
 unfold zf2d.f
 rw [hr.len]
 simp only [zy13]
 rw [trim_l0 hr hl _ (Nat.le_refl _), List.take_length]
theorem zyhj {h : Heap} {x : AV} {l : List Nat} {B : Nat} (hB : 2 ≤ B) (hr : Row h .u64 x l) (hd : Dg B l) : Row h .u64 (x.cut2 (tl l)) (dig B (val B l)) := by
 rw [← zyh9 hB hd]
 exact hr.cut2 (tl_le l)
theorem zyhh {h : Heap} {x : AV} {l : List Nat} {B : Nat} (hB : 2 ≤ B) (hr : Row h .u64 x l) (hl : l.length ≤ 4611686018427387904) (hd : Dg B l) : ((callW gp fid.zf2d [x] h).bind fun r => zy5v r.2 r.1) = some (nats (dig B (val B l))) := by
 rw [zyhk hr hl, zy13]
 exact (zyhj hB hr hd).frz
theorem zydz {h : Heap} {k : IntKind} {id n : Nat} {l : List Nat} (hl : live h id = some (nl k l)) (hn : l.length = n) : Row h k (.rs 1 id 0 n) l := by rw [← hn]; exact Row.own hl

def isl (f : Bool) (l : List Nat) : AV := .is l.length f (nl .u64 l)
theorem isl_row {h : Heap} {f : Bool} {l : List Nat} : Row h .u64 (isl f l) l := .is f l
theorem zy89 {l : List Nat} : isl false l = nats l := Eq.trans rfl rfl
theorem isl_fz {h : Heap} {f : Bool} {l : List Nat} : zy5v h (isl f l) = some (nats l) := isl_row.frz
theorem isl_noRef {f : Bool} {l : List Nat} : noRef (isl f l) = true := zy78 (zy7k .u64 l) (n := 11) (by omega)
theorem zy1n {h : Heap} {g : Nat} {f : Bool} {l : List Nat} {r : Option AV} {bs : List AV} (ha : ∀ a ∈ bs, Imm 12 a) (hc : cv gp g (nats l :: bs) = r) : byVal (callW gp) h g (isl f l :: bs) = r := by
 rw [zy1k]
 have h1 : (isl f l :: bs).mapM (zy5v h) = some (nats l :: bs) := by
  have := zy7i ha (Nat.le_refl _) h
  change bs.mapM (zy5v h) = some bs at this
  rw [List.mapM_cons, isl_fz, this]; rfl
 have h2 : (isl f l :: bs).all noRef = true := by
  rw [List.all_cons, isl_noRef, Bool.true_and]
  exact zy78 ha (Nat.le_refl _)
 rw [h1]
 simp only [Option.bind_some, hc, h2, Bool.true_or, if_true]
 cases r <;> rfl


theorem double_l0 {a : List Nat} {b0 : Nat} (ha : Dg B32 a) (hn : a.length ≤ 1000000) : ∀ (k i : Nat) (cs : List Nat) (bit : Nat), i + k = a.length → cs.length = a.length + 1 → Dg B32 cs → bit < 2 →
  val B32 (cs.take i) + bit * B32 ^ i = 2 * val B32 (a.take i) + b0 →
  zf2m.l0 (nats a) (nat .u64 bit) (.rs 1 0 0 (a.length + 1)) (.int .i64 (i : Nat)) [some (nl .u64 cs)] = some (nats (dig B32 (2 * val B32 a + b0))) := by
 intro k
 induction k with
 | zero =>
  intro i cs bit hik hcs hd hb hv
  rw [zf2m.l0_eq]
  simp (disch := omega) only [Wd]
  have hr : Row [some (nl .u64 (cs.set a.length bit))] .u64 (.rs 1 0 0 (a.length + 1)) (cs.set a.length bit) := zydz zyaf (by simpa using hcs)
  rw [zyhh zy0t hr (by simp; omega) (hd.set (Nat.lt_trans hb (by decide)))]
  have h1 := zyfz cs a.length bit (by omega)
  rw [List.take_of_length_le (by simp; omega)] at h1
  rw [h1, zyi4, List.length_take, Nat.min_eq_left (by omega)]
  rw [show i = a.length by omega, List.take_length] at hv
  rw [← hv, Nat.mul_comm]
 | succ k ih =>
  intro i cs bit hik hcs hd hb hv
  rw [zf2m.l0_eq]
  have hx := ha.l32 i
  simp (disch := omega) only [Wd]
  refine ih (i + 1) _ _ (by omega) (by simpa using hcs) (hd.set (Nat.mod_lt _ (by decide))) (by omega) ?_
  rw [zyfz _ _ _ (by omega), zyi4, List.length_take, Nat.min_eq_left (by omega), zyi8, Nat.pow_succ]
  have hdm := Nat.div_add_mod (2 * a.getD i 0 + bit) 4294967296
  generalize (2 * a.getD i 0 + bit) / 4294967296 = q at *
  generalize (2 * a.getD i 0 + bit) % 4294967296 = r at *
  have e1 : q * (B32 ^ i * B32) = B32 ^ i * (4294967296 * q) := by rw [Nat.mul_comm q, Nat.mul_assoc]
  have e : B32 ^ i * r + q * (B32 ^ i * B32) = 2 * (B32 ^ i * a.getD i 0) + bit * B32 ^ i := by
   rw [e1, ← Nat.mul_add, Nat.add_comm r, hdm, Nat.mul_add, Nat.mul_comm bit, Nat.mul_left_comm]
  omega
theorem double_cv (a : List Nat) (b : Nat) (ha : Dg B32 a) (hn : a.length ≤ 1000000) (hb : b < 2) : cv gp fid.zf2m [nats a, nat .u64 b] = some (nats (dig B32 (2 * val B32 a + b))) := by
 rw [zf2m.eq]
 unfold zf2m.f
 simp (disch := omega) only [Wd]
 exact double_l0 ha hn a.length 0 (List.replicate (a.length + 1) 0) b (by omega) (by simp) (Dg.replicate _ (by decide)) hb (by simp [val])
theorem zy4a {h : Heap} {f : Bool} (a : List Nat) (b : Nat) (ha : Dg B32 a) (hn : a.length ≤ 1000000) (hb : b < 2) : byVal (callW gp) h fid.zf2m [isl f a, nat .u64 b] = some (nats (dig B32 (2 * val B32 a + b))) :=
 zy1n (zy7g zy7j (by omega)) (double_cv a b ha hn hb)


theorem rcmp_l0 {a b : List Nat} (hs : a.length ≤ 1000000) (hlen : a.length = b.length) (ha : Dg B32 a) (hb : Dg B32 b) : ∀ (k : Nat), k ≤ a.length → a.drop k = b.drop k → zf1k.l0 (nats a) (nats b) (.int .i64 ((k : Int) - 1)) = some (.int .i64 (cmpI (val B32 a) (val B32 b))) := by
 intro k
 induction k with
 | zero =>
  intro hk hd
  rw [zf1k.l0_eq]
  simp (disch := omega) only [Wd]
  simp only [List.drop_zero] at hd
  rw [hd, zy33]
 | succ k ih =>
  intro hk hd
  rw [zf1k.l0_eq]
  rw [show (((k + 1 : Nat) : Int) - 1) = (k : Int) by omega]
  simp (disch := omega) only [Wd, zy3c]
  split
  ·rename_i h
   rw [zy32 (zyi2 ha hb k hlen (by omega) hd h)]
  split
  ·rename_i h1 h2
   rw [zy31 (zyi2 hb ha k hlen.symm (by omega) hd.symm h2)]
  ·rename_i h1 h2
   rw [zy7z (by omega) (by omega)]
   simp only [zy13]
   refine ih (by omega) ?_
   rw [zy4e a k (by omega), zy4e b k (by omega), hd, show a.getD k 0 = b.getD k 0 by omega]
theorem rcmp_cv (x y : Nat) (hx : (dig B32 x).length ≤ 1000000) (hy : (dig B32 y).length ≤ 1000000) : cv gp fid.zf1k [nats (dig B32 x), nats (dig B32 y)] = some (.int .i64 (cmpI x y)) := by
 rw [zf1k.eq]
 unfold zf1k.f
 simp (disch := omega) only [Wd, zy3c]
 split
 ·split
  ·rw [zy32 (zyb1 zy0t (by omega))]
  ·rw [zy31 (zyb1 zy0t (by omega))]
 ·rw [zy7z (by omega) (by omega)]
  simp only [zy13]
  have := rcmp_l0 hx (by omega) (zy3s zy0t x) (zy3s zy0t y) (dig B32 x).length (Nat.le_refl _) (by rw [List.drop_length, List.drop_of_length_le (by omega)])
  rw [this, zyhy zy0t, zyhy zy0t]
theorem rcmp_by {h : Heap} {f : Bool} (x y : Nat) (hx : (dig B32 x).length ≤ 1000000) (hy : (dig B32 y).length ≤ 1000000) : byVal (callW gp) h fid.zf1k [isl f (dig B32 x), nats (dig B32 y)] = some (.int .i64 (cmpI x y)) :=
 zy1n (zy7g imm_nats (by omega)) (rcmp_cv x y hx hy)


theorem radd_l0 {a b : List Nat} {n : Nat} (ha : Dg B32 a) (hb : Dg B32 b) (hn : n ≤ 1000000) (han : a.length < n) (hbn : b.length < n) : ∀ (k i : Nat) (cs : List Nat) (c : Nat), i + k = n → cs.length = n → Dg B32 cs → c ≤ 1 →
  val B32 (cs.take i) + c * B32 ^ i = val B32 (a.take i) + val B32 (b.take i) →
  zf3n.l0 (nats a) (nats b) (.rs 1 0 0 n) (nat .u64 c) (.int .i64 (i : Nat)) [some (nl .u64 cs)] = some (nats (dig B32 (val B32 a + val B32 b))) := by
 intro k
 induction k with
 | zero =>
  intro i cs c hik hcs hd hc hv
  rw [zf3n.l0_eq]
  simp (disch := omega) only [Wd]
  have hr : Row [some (nl .u64 cs)] .u64 (.rs 1 0 0 n) cs := zydz zyaf hcs
  rw [zyhh zy0t hr (by omega) hd]
  rw [List.take_of_length_le (by omega), List.take_of_length_le (by omega), List.take_of_length_le (by omega)] at hv
  have up : ∀ {l : List Nat}, Dg B32 l → l.length < n → val B32 l * 2 < B32 ^ i := fun {l} hl hln => by
   have h1 := zyi1 hl
   have : B32 ^ (l.length + 1) ≤ B32 ^ i := Nat.pow_le_pow_right (by decide) (by omega)
   rw [Nat.pow_succ] at this
   have h3 : B32 ^ l.length * 2 ≤ B32 ^ i := Nat.le_trans (Nat.mul_le_mul_left _ (by decide)) this
   omega
  have h1 := up ha han
  have h2 := up hb hbn
  have hc0 : c = 0 := by
   rcases Nat.lt_or_ge c 1 with h | h
   ·omega
   ·have : c = 1 := by omega
    subst this
    omega
  subst hc0
  rw [Nat.zero_mul, Nat.add_zero] at hv
  rw [hv]
 | succ k ih =>
  intro i cs c hik hcs hd hc hv
  have hx := ha.l32 i
  have hy := hb.l32 i
  have fin : zf3n.j1 (nats a) (nats b) (.rs 1 0 0 n) (nat .u64 (c + a.getD i 0 + b.getD i 0)) (.int .i64 (i : Nat)) [some (nl .u64 cs)] = some (nats (dig B32 (val B32 a + val B32 b))) := by
   unfold zf3n.j1
   simp (disch := omega) only [Wd]
   refine ih (i + 1) _ _ (by omega) (by simpa using hcs) (hd.set (Nat.mod_lt _ (by decide))) (by omega) ?_
   rw [zyfz _ _ _ (by omega), zyi4, List.length_take, Nat.min_eq_left (by omega), zyi8, zyi8, Nat.pow_succ]
   have hdm := Nat.div_add_mod (c + a.getD i 0 + b.getD i 0) 4294967296
   generalize (c + a.getD i 0 + b.getD i 0) / 4294967296 = q at *
   generalize (c + a.getD i 0 + b.getD i 0) % 4294967296 = r at *
   have e1 : q * (B32 ^ i * B32) = B32 ^ i * (4294967296 * q) := by rw [Nat.mul_comm q, Nat.mul_assoc]
   have e : B32 ^ i * r + q * (B32 ^ i * B32) = c * B32 ^ i + B32 ^ i * (a.getD i 0) + B32 ^ i * (b.getD i 0) := by
    rw [e1, ← Nat.mul_add, Nat.add_comm r, hdm, Nat.mul_add, Nat.mul_add, Nat.mul_comm c]
   omega
  have j0 : zf3n.j0 (nats a) (nats b) (.rs 1 0 0 n) (nat .u64 (c + a.getD i 0)) (.int .i64 (i : Nat)) [some (nl .u64 cs)] = some (nats (dig B32 (val B32 a + val B32 b))) := by
   unfold zf3n.j0
   simp (disch := omega) only [Wd, zy3c]
   split
   ·try simp (disch := omega) only [Wd]
    exact fin
   ·rw [zy6d b i (by omega), Nat.add_zero] at fin
    exact fin
  rw [zf3n.l0_eq]
  simp (disch := omega) only [Wd, zy3c]
  split
  ·try simp (disch := omega) only [Wd]
   exact j0
  ·rw [zy6d a i (by omega), Nat.add_zero] at j0
   exact j0
theorem radd_cv (a b : List Nat) (ha : Dg B32 a) (hb : Dg B32 b) (hn : a.length ≤ 100000) (hm : b.length ≤ 100000) : cv gp fid.zf3n [nats a, nats b] = some (nats (dig B32 (val B32 a + val B32 b))) := by
 rw [zf3n.eq]
 unfold zf3n.f
 simp (disch := omega) only [Wd]
 exact radd_l0 (n := max a.length b.length + 1) ha hb (by omega) (by omega) (by omega) (max a.length b.length + 1) 0 (List.replicate (max a.length b.length + 1) 0) 0 (by omega) (by simp) (Dg.replicate _ (by decide)) (by omega) (by simp [val])


theorem rsub_l0 {a b : List Nat} (ha : Dg B32 a) (hb : Dg B32 b) (hn : a.length ≤ 1000000) (hbn : b.length ≤ a.length) (hle : val B32 b ≤ val B32 a) : ∀ (k i : Nat) (cs : List Nat) (c : Nat), i + k = a.length → cs.length = a.length → Dg B32 cs → c ≤ 1 →
  val B32 (cs.take i) + val B32 (b.take i) = val B32 (a.take i) + c * B32 ^ i →
  zf2n.l0 (nats a) (nats b) (.rs 1 0 0 a.length) (nat .u64 c) (.int .i64 (i : Nat)) [some (nl .u64 cs)] = some (nats (dig B32 (val B32 a - val B32 b))) := by
 intro k
 induction k with
 | zero =>
  intro i cs c hik hcs hd hc hv
  rw [zf2n.l0_eq]
  simp (disch := omega) only [Wd]
  have hr : Row [some (nl .u64 cs)] .u64 (.rs 1 0 0 a.length) cs := zydz zyaf hcs
  rw [zyhh zy0t hr (by omega) hd]
  rw [List.take_of_length_le (by omega), List.take_of_length_le (by omega), List.take_of_length_le (by omega)] at hv
  have h1 := zyi1 hd
  rw [hcs, show a.length = i by omega] at h1
  have hc0 : c = 0 := by
   rcases Nat.lt_or_ge c 1 with h | h
   ·omega
   ·have : c = 1 := by omega
    subst this
    omega
  subst hc0
  rw [show val B32 cs = val B32 a - val B32 b by omega]
 | succ k ih =>
  intro i cs c hik hcs hd hc hv
  have hx := ha.l32 i
  have hy := hb.l32 i
  have fin : zf2n.j0 (nats a) (nats b) (.rs 1 0 0 a.length) (.int .i64 (i : Nat)) (nat .u64 (c + b.getD i 0)) [some (nl .u64 cs)] = some (nats (dig B32 (val B32 a - val B32 b))) := by
   unfold zf2n.j0
   simp (disch := omega) only [Wd, zy3c]
   split
   ·try simp (disch := omega) only [Wd]
    refine ih (i + 1) _ 1 (by omega) (by simpa using hcs) (hd.set (show _ < 4294967296 by omega)) (by omega) ?_
    rw [zyfz _ _ _ (by omega), zyi4, List.length_take, Nat.min_eq_left (by omega), zyi8, zyi8, Nat.pow_succ]
    obtain ⟨d, hd⟩ : ∃ d, a.getD i 0 + 4294967296 - (c + b.getD i 0) = d := ⟨_, rfl⟩
    rw [hd]
    have e : B32 ^ i * d + c * B32 ^ i + B32 ^ i * b.getD i 0 = B32 ^ i * a.getD i 0 + B32 ^ i * B32 := by
     rw [Nat.mul_comm c, ← Nat.mul_add, ← Nat.mul_add, ← Nat.mul_add]
     congr 1
     show d + c + b.getD i 0 = a.getD i 0 + 4294967296
     omega
    omega
   ·try simp (disch := omega) only [Wd]
    refine ih (i + 1) _ 0 (by omega) (by simpa using hcs) (hd.set (show _ < 4294967296 by omega)) (by omega) ?_
    rw [zyfz _ _ _ (by omega), zyi4, List.length_take, Nat.min_eq_left (by omega), zyi8, zyi8, Nat.pow_succ]
    obtain ⟨d, hd⟩ : ∃ d, a.getD i 0 - (c + b.getD i 0) = d := ⟨_, rfl⟩
    rw [hd]
    have e : B32 ^ i * d + c * B32 ^ i + B32 ^ i * b.getD i 0 = B32 ^ i * a.getD i 0 := by
     rw [Nat.mul_comm c, ← Nat.mul_add, ← Nat.mul_add]
     congr 1
     omega
    omega
  rw [zf2n.l0_eq]
  simp (disch := omega) only [Wd, zy3c]
  split
  ·try simp (disch := omega) only [Wd]
   exact fin
  ·rw [zy6d b i (by omega), Nat.add_zero] at fin
   exact fin
theorem rsub_cv (a b : List Nat) (ha : Dg B32 a) (hb : Dg B32 b) (hn : a.length ≤ 100000) (hm : b.length ≤ a.length) (hle : val B32 b ≤ val B32 a) : cv gp fid.zf2n [nats a, nats b] = some (nats (dig B32 (val B32 a - val B32 b))) := by
 rw [zf2n.eq]
 unfold zf2n.f
 simp (disch := omega) only [Wd]
 exact rsub_l0 ha hb (by omega) hm hle a.length 0 (List.replicate a.length 0) 0 (by omega) (by simp) (Dg.replicate _ (by decide)) (by omega) (by simp [val])


theorem b32_prod {x y t c : Nat} (hx : x < 4294967296) (hy : y < 4294967296) (ht : t < 4294967296) (hc : c < 4294967296) : x * y + t + c < 18446744073709551616 := by
 have : x * y ≤ 4294967295 * 4294967295 := Nat.mul_le_mul (by omega) (by omega)

 omega

theorem rmul_l {a b : List Nat} (ha : Dg B32 a) (hb : Dg B32 b) (hn : a.length ≤ 100000) (hm : b.length ≤ 100000) : ∀ (k i : Nat) (cs : List Nat), i + k = a.length → cs.length = a.length + b.length → Dg B32 cs → val B32 cs = val B32 (a.take i) * val B32 b → (∀ j, i + b.length ≤ j → cs.getD j 0 = 0) →
  zf1n.l0 (nats a) (nats b) (.rs 1 0 0 (a.length + b.length)) (.int .i64 (i : Nat)) [some (nl .u64 cs)] = some (nats (dig B32 (val B32 a * val B32 b))) := by
 intro k
 induction k with
 | zero =>
  intro i cs hik hcs hd hv hz
  rw [zf1n.l0_eq]
  simp (disch := omega) only [Wd]
  have hr : Row [some (nl .u64 cs)] .u64 (.rs 1 0 0 (a.length + b.length)) cs := zydz zyaf hcs
  rw [zyhh zy0t hr (by omega) hd, hv, List.take_of_length_le (by omega)]
 | succ k ih =>
  intro i cs hik hcs hd hv hz
  rw [zf1n.l0_eq]
  simp (disch := omega) only [Wd]
  have hx := ha.l32 i
  have hB : (0 : Nat) < B32 := by decide
  -- the inner loop: what is carried stands for the digit that is to come
  have inner : ∀ (m j : Nat) (ds : List Nat) (c : Nat), j + m = b.length → ds.length = a.length + b.length → Dg B32 ds → c < B32 → val B32 ds + c * B32 ^ (i + j) = val B32 (a.take i) * val B32 b + a.getD i 0 * val B32 (b.take j) * B32 ^ i → (∀ p, i + b.length ≤ p → ds.getD p 0 = 0) →
    zf1n.l1 (nats a) (nats b) (.rs 1 0 0 (a.length + b.length)) (.int .i64 (i : Nat)) (nat .u64 c) (.int .i64 (j : Nat)) [some (nl .u64 ds)] = some (nats (dig B32 (val B32 a * val B32 b))) := by
   intro m
   induction m with
   | zero =>
    intro j ds c hjm hds hdd hc hvv hzz
    rw [zf1n.l1_eq]
    simp (disch := omega) only [Wd]
    refine ih (i + 1) _ (by omega) (by simpa using hds) (hdd.set hc) ?_ ?_
    ·have hs := zyi3 (B := B32) (l := ds) (j := i + b.length) (a := c) (b := c) (by omega) (by rw [hzz _ (by omega), Nat.zero_add])
     rw [hs, zyi8, Nat.add_mul]
     rw [show j = b.length by omega, List.take_length] at hvv
     rw [hvv]
     congr 1
     rw [Nat.mul_comm, Nat.mul_assoc]
    ·intro p hp
     rw [zy6e, if_neg (by omega)]
     exact hzz p (by omega)
   | succ m ihm =>
    intro j ds c hjm hds hdd hc hvv hzz
    rw [zf1n.l1_eq]
    have hy := hb.l32 j
    have ht := hdd.l32 (i + j)
    have hp := b32_prod hx hy ht hc
    simp (disch := omega) only [Wd]
    have hq : (a.getD i 0 * b.getD j 0 + ds.getD (i + j) 0 + c) / 4294967296 < B32 := by
     rw [Nat.div_lt_iff_lt_mul (by decide)]
     exact hp
    refine ihm (j + 1) _ _ (by omega) (by simpa using hds) (hdd.set (Nat.mod_lt _ (by decide))) hq ?_ ?_
    ·have hdm := Nat.div_add_mod (a.getD i 0 * b.getD j 0 + ds.getD (i + j) 0 + c) 4294967296
     generalize (a.getD i 0 * b.getD j 0 + ds.getD (i + j) 0 + c) / 4294967296 = q at *
     generalize (a.getD i 0 * b.getD j 0 + ds.getD (i + j) 0 + c) % 4294967296 = r at *
     have hs := val_set' (B := B32) (l := ds) (j := i + j) (a := r) (by omega)
     rw [zyi8, ← Nat.add_assoc, Nat.pow_succ, Nat.mul_add, Nat.add_mul, ← Nat.add_assoc, ← hvv]
     have e1 : q * (B32 ^ (i + j) * B32) + r * B32 ^ (i + j) = (a.getD i 0 * b.getD j 0 + ds.getD (i + j) 0 + c) * B32 ^ (i + j) := by
      rw [← hdm, Nat.add_mul, Nat.mul_comm 4294967296 q, Nat.mul_assoc q, Nat.mul_comm (B32 ^ (i + j)) B32]
     have e2 : a.getD i 0 * (B32 ^ j * b.getD j 0) * B32 ^ i = a.getD i 0 * b.getD j 0 * B32 ^ (i + j) := by
      rw [Nat.pow_add]; ac_rfl
     rw [e2]
     rw [Nat.add_mul, Nat.add_mul] at e1
     omega
    ·intro p hp'
     rw [zy6e, if_neg (by omega)]
     exact hzz p hp'
  exact inner b.length 0 cs 0 (by omega) hcs hd (by decide) (by simp [val, hv]) hz
theorem rmul_cv (a b : List Nat) (ha : Dg B32 a) (hb : Dg B32 b) (hn : a.length ≤ 100000) (hm : b.length ≤ 100000) : cv gp fid.zf1n [nats a, nats b] = some (nats (dig B32 (val B32 a * val B32 b))) := by
 rw [zf1n.eq]
 unfold zf1n.f
 simp (disch := omega) only [Wd]
 refine rmul_l ha hb (by omega) (by omega) a.length 0 (List.replicate (a.length + b.length) 0) (by omega) (by simp) (Dg.replicate _ (by decide)) (by simp [val, zyi9]) ?_
 intro j _
 rw [List.getD_eq_getElem?_getD, List.getElem?_replicate]
 split <;> rfl
end Go.Proofs.YtiblnpnfaadmcaaGreat.Am
/- The document's answer for layer 1: quotients; limbs and digits, strings and digits. -/
set_option linter.unusedVariables false
set_option linter.unusedSimpArgs false
namespace Go.Proofs.YtiblnpnfaadmcaaGreat.Am
open Go


theorem pow32 (i : Nat) : (2 : Nat) ^ i = B32 ^ (i / 32) * 2 ^ (i % 32) := by
 have : B32 = 2 ^ 32 := rfl
 rw [this, ← Nat.pow_mul, ← Nat.pow_add, Nat.div_add_mod]

theorem bit_of {l : List Nat} (h : Dg B32 l) (i : Nat) : l.getD (i / 32) 0 / 2 ^ (i % 32) % 2 = val B32 l / 2 ^ i % 2 := by
 rw [zy6f h, pow32 i, ← Nat.div_div_eq_div_mul]
 generalize val B32 l / B32 ^ (i / 32) = x
 have hi : i % 32 < 32 := Nat.mod_lt _ (by omega)
 generalize i % 32 = k at hi
 have e : B32 = 2 ^ k * (2 * 2 ^ (31 - k)) := by
  have : B32 = 2 ^ (k + (1 + (31 - k))) := by rw [show k + (1 + (31 - k)) = 32 by omega]
  rw [this, Nat.pow_add, Nat.pow_add, Nat.pow_one]
 rw [e, Nat.mod_mul_right_div_self]
 exact Nat.mod_mul_right_mod _ _ _

theorem dm_step {A b i : Nat} (hb : 0 < b) : A / 2 ^ i = 2 * (A / 2 ^ (i + 1)) + A / 2 ^ i % 2 := by
 rw [Nat.pow_succ, ← Nat.div_div_eq_div_mul]
 omega
theorem dm_quo {H b bit : Nat} (hb : 0 < b) (hbit : bit < 2) : (2 * H + bit) / b = 2 * (H / b) + (if b ≤ 2 * (H % b) + bit then 1 else 0) ∧ (2 * H + bit) % b = 2 * (H % b) + bit - (if b ≤ 2 * (H % b) + bit then b else 0) := by
 have h1 := Nat.div_add_mod H b
 have h2 := Nat.mod_lt H hb
 generalize H / b = q at *
 generalize H % b = r at *
 subst h1
 have e : 2 * (b * q + r) + bit = 2 * r + bit + b * (2 * q) := by rw [Nat.mul_add, Nat.mul_left_comm]; omega
 rw [e, Nat.add_mul_div_left _ _ hb, Nat.add_mul_mod_self_left]
 split
 ·rename_i h
  obtain ⟨d, hd⟩ : ∃ d, 2 * r + bit = d + b := ⟨2 * r + bit - b, by omega⟩
  rw [hd, Nat.add_div_right _ hb, Nat.add_mod_right, Nat.div_eq_of_lt (by omega), Nat.mod_eq_of_lt (by omega)]
  omega
 ·rename_i h
  rw [Nat.div_eq_of_lt (by omega), Nat.mod_eq_of_lt (by omega)]
  omega

theorem zy44 {l : List Nat} (h : Dg B32 l) {i m : Nat} (hm : val B32 l = m * 2 ^ (i + 1)) : l.getD (i / 32) 0 + 2 ^ (i % 32) < B32 := by
 rw [zy6f h, hm, Nat.pow_succ, pow32 i]
 have hi : i % 32 < 32 := Nat.mod_lt _ (by omega)
 generalize i % 32 = k at hi
 have hp : 0 < B32 ^ (i / 32) := Nat.pow_pos (by decide)
 have e : m * (B32 ^ (i / 32) * 2 ^ k * 2) / B32 ^ (i / 32) = (m * 2) * 2 ^ k := by
  rw [show m * (B32 ^ (i / 32) * 2 ^ k * 2) = B32 ^ (i / 32) * (m * 2 * 2 ^ k) by ac_rfl, Nat.mul_div_cancel_left _ hp]
 rw [e]
 have e2 : B32 = 2 * 2 ^ (31 - k) * 2 ^ k := by
  have : B32 = 2 ^ (1 + (31 - k) + k) := by rw [show 1 + (31 - k) + k = 32 by omega]
  rw [this, Nat.pow_add, Nat.pow_add, Nat.pow_one]
 rw [e2, Nat.mul_mod_mul_right, Nat.mul_comm m 2, Nat.mul_mod_mul_left]
 have h3 : m % 2 ^ (31 - k) < 2 ^ (31 - k) := Nat.mod_lt _ (Nat.pow_pos (by omega))
 generalize m % 2 ^ (31 - k) = x at h3
 generalize 2 ^ (31 - k) = y at h3
 have h4 : (2 * x + 1) * 2 ^ k < 2 * y * 2 ^ k := Nat.mul_lt_mul_of_pos_right (by omega) (Nat.pow_pos (by omega))
 rw [Nat.add_mul, Nat.one_mul] at h4
 exact h4

theorem rdm_l0 {a : List Nat} {b : Nat} (ha : Dg B32 a) (hb : 0 < b) (hn : a.length ≤ 90000) (hm : (dig B32 b).length ≤ 90000) : ∀ (k : Nat) (q : List Nat) (f : Bool), k ≤ 32 * a.length → q.length = a.length → Dg B32 q → val B32 q = val B32 a / 2 ^ k / b * 2 ^ k →
  zf22.l0 (nats a) (nats (dig B32 b)) (.rs 1 0 0 a.length) (isl f (dig B32 (val B32 a / 2 ^ k % b))) (.int .i64 ((k : Int) - 1)) [some (nl .u64 q)] = some (.tup [nats (dig B32 (val B32 a / b)), nats (dig B32 (val B32 a % b))]) := by
 intro k
 induction k with
 | zero =>
  intro q f hk hq hd hv
  rw [zf22.l0_eq]
  simp (disch := omega) only [Wd]
  have hr : Row [some (nl .u64 q)] .u64 (.rs 1 0 0 a.length) q := zydz zyaf hq
  rw [zyhk hr (by omega), zy13]
  have h2 := zyhj zy0t hr hd
  rw [Nat.pow_zero, Nat.mul_one, Nat.div_one] at hv
  rw [Nat.pow_zero, Nat.div_one, ← hv]
  exact zy6a (h2.frzN (by omega)) (isl_row.frzN (by omega))
 | succ k ih =>
  intro q f hk hq hd hv
  rw [zf22.l0_eq]
  rw [show (((k + 1 : Nat) : Int) - 1) = (k : Int) by omega]
  have hlen : ∀ {x : Nat}, x < b + b → (dig B32 x).length ≤ 100000 := fun {x} hx => by
   have h1 := zyb0 zy0t (n := b)
   refine Nat.le_trans (zy3z zy0t (k := (dig B32 b).length + 1) ?_) (by omega)
   have : B32 ^ (dig B32 b).length * 2 ≤ B32 ^ (dig B32 b).length * B32 := Nat.mul_le_mul_left _ (by decide)
   rw [Nat.pow_succ]
   omega
  have hrl : val B32 a / 2 ^ (k + 1) % b < b := Nat.mod_lt _ hb
  have hbit : a.getD (k / 32) 0 / 2 ^ (k % 32) % 2 < 2 := Nat.mod_lt _ (by omega)
  have hx := ha.l32 (k / 32)
  have hidx : k / 32 < a.length := by omega
  simp (disch := omega) only [Wd]
  rw [zy4a _ _ (zy3s zy0t _) (Nat.le_trans (hlen (by omega)) (by omega)) hbit, zyhy zy0t]
  simp only [zy13]
  obtain ⟨h1, h2⟩ := dm_quo (H := val B32 a / 2 ^ (k + 1)) hb hbit
  have hst := dm_step (A := val B32 a) (i := k) hb
  rw [← bit_of ha k] at hst
  rw [← hst] at h1 h2
  generalize a.getD (k / 32) 0 / 2 ^ (k % 32) % 2 = bit at *
  generalize hr' : 2 * (val B32 a / 2 ^ (k + 1) % b) + bit = r' at *
  rw [← zy89 (l := dig B32 r'), rcmp_by _ _ (Nat.le_trans (hlen (by omega)) (by omega)) (by omega)]
  simp only [zy13, zy0y, zy3c]
  by_cases hc : b ≤ r'
  ·have hc2 : (0 : Int) ≤ cmpI r' b := by
    unfold cmpI; split <;> (try split) <;> omega
   rw [if_pos hc] at h1 h2
   rw [if_pos hc2, zy1n (zy7g imm_nats (by omega)) (rsub_cv _ _ (zy3s zy0t _) (zy3s zy0t _) (hlen (by omega)) (by
    rcases Nat.lt_or_ge (dig B32 r').length (dig B32 b).length with h | h
    ·have := zyb1 zy0t h; omega
    ·exact h) (by rw [zyhy zy0t, zyhy zy0t]; exact hc)), zyhy zy0t, zyhy zy0t]
   simp only [zy13]
   have hroom := zy44 hd hv
   have hroom2 : q.getD (k / 32) 0 + 2 ^ (k % 32) < 4294967296 := hroom
   have hp2 : (2 : Nat) ^ (k % 32) < 4294967296 := by omega
   have e1 : 1 * 2 ^ (k % 32) % 18446744073709551616 = 2 ^ (k % 32) := by rw [Nat.one_mul]; exact Nat.mod_eq_of_lt (Nat.lt_trans hp2 (by decide))
   simp (disch := omega) only [Wd, e1]
   rw [zy7z (by omega) (by omega)]
   simp only [zy13]
   rw [← h2, ← zy89 (l := dig B32 (val B32 a / 2 ^ k % b))]
   refine ih _ false (by omega) (by simpa using hq) (hd.set hroom) ?_
   rw [zyi3 (b := 2 ^ (k % 32)) (by omega) rfl, hv, h1, Nat.pow_succ, Nat.add_mul, Nat.one_mul]
   rw [Nat.mul_comm (2 ^ (k % 32)), ← pow32]
   rw [Nat.mul_comm (2 ^ k) 2, ← Nat.mul_assoc, Nat.mul_comm (val B32 a / (2 * 2 ^ k) / b) 2]
  ·have hc2 : ¬ (0 : Int) ≤ cmpI r' b := by
    unfold cmpI; rw [if_pos (by omega)]; omega
   rw [if_neg hc] at h1 h2
   rw [if_neg hc2]
   rw [zy7z (by omega) (by omega)]
   simp only [zy13]
   rw [Nat.sub_zero] at h2
   rw [← h2]
   refine ih _ false (by omega) hq hd ?_
   rw [hv, h1, Nat.pow_succ, Nat.add_zero]
   rw [Nat.mul_comm (2 ^ k) 2, ← Nat.mul_assoc, Nat.mul_comm (val B32 a / (2 * 2 ^ k) / b) 2]
theorem rdm_cv (a : List Nat) (b : Nat) (ha : Dg B32 a) (hb : 0 < b) (hn : a.length ≤ 90000) (hm : (dig B32 b).length ≤ 90000) : cv gp fid.zf22 [nats a, nats (dig B32 b)] = some (.tup [nats (dig B32 (val B32 a / b)), nats (dig B32 (val B32 a % b))]) := by
 rw [zf22.eq]
 unfold zf22.f
 simp (disch := omega) only [Wd]
 rw [zy7z (by omega) (by omega)]
 simp only [zy13]
 have hz : val B32 a / 2 ^ (32 * a.length) = 0 := by
  have h1 := zyi1 ha
  have : B32 ^ a.length = 2 ^ (32 * a.length) := by rw [Nat.pow_mul]
  rw [← this]
  exact Nat.div_eq_of_lt h1
 have := rdm_l0 ha hb hn hm (32 * a.length) (List.replicate a.length 0) true (Nat.le_refl _) (by simp) (Dg.replicate _ (by decide)) (by rw [zyi9, hz]; simp)
 rw [hz, Nat.zero_mod, zy43] at this
 exact this


theorem split_l0 {a : List Nat} (ha : Dg B64 a) (hn : a.length ≤ 1000000) : ∀ (k i : Nat) (h : Heap) (id : Nat) (cs : List Nat), i + k = a.length → live h id = some (nl .u64 cs) → cs.length = 2 * i → Dg B32 cs → val B32 cs = val B64 (a.take i) →
  zf24.l0 (nats a) (.rs 1 id 0 cs.length) (.int .i64 (i : Nat)) h = some (nats (dig B32 (val B64 a))) := by
 intro k
 induction k with
 | zero =>
  intro i h id cs hik hl hcs hd hv
  rw [zf24.l0_eq]
  simp (disch := omega) only [Wd]
  rw [zyhh zy0t (Row.own hl) (by omega) hd, hv, List.take_of_length_le (by omega)]
 | succ k ih =>
  intro i h id cs hik hl hcs hd hv
  rw [zf24.l0_eq]
  have hx := ha.l64 i
  simp (disch := omega) only [Wd]
  have hr : Row h .u64 (.is 2 true (nl .u64 [a.getD i 0 % 4294967296, a.getD i 0 / 4294967296])) [a.getD i 0 % 4294967296, a.getD i 0 / 4294967296] := .is true [a.getD i 0 % 4294967296, a.getD i 0 / 4294967296]
  rw [app_row hl hr (by simp) (by simp; omega)]
  simp (disch := omega) only [Wd]
  have e : cs.length + 2 = (cs ++ [a.getD i 0 % 4294967296, a.getD i 0 / 4294967296]).length := by simp
  simp only [List.length_cons, List.length_nil, Nat.zero_add, Nat.reduceAdd]
  rw [e]
  refine ih (i + 1) _ _ _ (by omega) (zyaa (by simp)) (by simp; omega) (hd.append (.cons (Nat.mod_lt _ (by decide)) (.cons (show _ < 4294967296 by omega) .nil))) ?_
  rw [zyhv, hv, zyi8, hcs, Nat.pow_mul]
  congr 1
  simp only [zyhw, val_nil]
  rw [show B32 ^ 2 = B64 by decide]
  congr 1
  have := Nat.div_add_mod (a.getD i 0) 4294967296
  show a.getD i 0 % 4294967296 + 4294967296 * (a.getD i 0 / 4294967296 + 4294967296 * 0) = a.getD i 0
  omega
theorem split_cv (a : List Nat) (ha : Dg B64 a) (hn : a.length ≤ 1000000) : cv gp fid.zf24 [nats a] = some (nats (dig B32 (val B64 a))) := by
 rw [zf24.eq]
 unfold zf24.f
 simp (disch := omega) only [Wd]
 exact split_l0 ha hn a.length 0 _ 0 [] (by omega) zyaf rfl .nil rfl

def Grown (h : Heap) (k : IntKind) (x : AV) (l : List Nat) : Prop := (l = [] ∧ x = .is 0 true []) ∨ ∃ id, x = .rs 1 id 0 l.length ∧ live h id = some (nl k l)
theorem Grown.row {h : Heap} {k : IntKind} {x : AV} {l : List Nat} (g : Grown h k x l) : Row h k x l := by
 rcases g with ⟨rfl, rfl⟩ | ⟨id, rfl, hl⟩
 ·exact Row.nil h k true
 ·exact Row.own hl
theorem Grown.app {h : Heap} {k : IntKind} {x y : AV} {l m : List Nat} (g : Grown h k x l) (hy : Row h k y m) (hm : m ≠ []) (hs : l.length + m.length ≤ 4294967296) : ∃ x' h', opApp h 1 x y = some (x', h') ∧ Grown h' k x' (l ++ m) := by
 rcases g with ⟨rfl, rfl⟩ | ⟨id, rfl, hl⟩
 ·exact ⟨_, _, zy0n hy hm (by simpa using hs), .inr ⟨h.length, rfl, zya9⟩⟩
 ·exact ⟨_, _, app_row hl hy hm hs, .inr ⟨h.length, by rw [List.length_append], zyaa (by simp)⟩⟩


theorem isNat_cv (l : List Nat) (hl : ∀ x ∈ l, x < 256) : cv gp fid.zf2y [str l] = some (.bool (decide (l.getD 0 1 ≠ 0))) := by
 rw [zf2y.eq]
 unfold zf2y.f
 rw [zyh3, zyh1 hl (by simp)]
 simp only [zy13, zy6j]
 cases l with
 | nil => rfl
 | cons x l =>
  rw [if_neg (by simp), zyh5 hl (by omega) (by simp)]
  simp only [zy13, zybr, zy63]
  rfl

theorem zy45 {x p i : Nat} (w : Nat) (B : Nat) (hB : B = 256 ^ w) (hw : 0 < w) : x * 2 ^ (i % w * 8) * B ^ (i / w) = x * 256 ^ i := by
 rw [hB, Nat.mul_assoc, Nat.mul_comm (i % w) 8, Nat.pow_mul 2 8, ← Nat.pow_mul 256, show (2 : Nat) ^ 8 = 256 by decide, ← Nat.pow_add, Nat.add_comm, Nat.div_add_mod]

theorem zy1t {cs : List Nat} {B w i V : Nat} (hB : B = 256 ^ w) (hw : 0 < w) (hd : Dg B cs) (hv : val B cs = V) (hV : V < 256 ^ i) : cs.getD (i / w) 0 < 2 ^ (i % w * 8) := by
 rw [zy6f hd, hv]
 have : V / B ^ (i / w) < 256 ^ (i % w) := by
  rw [Nat.div_lt_iff_lt_mul (Nat.pow_pos (by rw [hB]; exact Nat.pow_pos (by omega))), hB, ← Nat.pow_mul, ← Nat.pow_add, Nat.add_comm, Nat.div_add_mod]
  exact hV
 have e : (2 : Nat) ^ (i % w * 8) = 256 ^ (i % w) := by rw [Nat.mul_comm, Nat.pow_mul]
 rw [e]
 exact Nat.lt_of_le_of_lt (Nat.mod_le _ _) this

theorem zyf2 {l : List Nat} {i : Nat} (h : i < l.length) : l.getD (l.length - 1 - i) 0 = l.reverse.getD i 0 := by
 rw [List.getD_eq_getElem?_getD, List.getD_eq_getElem?_getD, List.getElem?_reverse h]

theorem zy1s {c b r w : Nat} (hb : b < 256) (hc : c < 2 ^ (r * 8)) (hr : r < w) : c + b * 2 ^ (r * 8) < 256 ^ w := by
 have e : (2 : Nat) ^ (r * 8) = 256 ^ r := by rw [Nat.mul_comm, Nat.pow_mul]
 rw [e] at hc ⊢
 have h1 : 256 ^ (r + 1) ≤ 256 ^ w := Nat.pow_le_pow_right (by omega) hr
 rw [Nat.pow_succ] at h1
 have h2 : b * 256 ^ r ≤ 255 * 256 ^ r := Nat.mul_le_mul_right _ (by omega)
 omega

theorem digits_l0 {l : List Nat} (hl : ∀ x ∈ l, x < 256) (hn : l.length ≤ 1000000) : ∀ (k i : Nat) (cs : List Nat), i + k = l.length → cs.length = (l.length + 3) / 4 → Dg B32 cs → val B32 cs = val 256 (l.reverse.take i) →
  zf1l.l0 (str l) (.rs 1 0 0 ((l.length + 3) / 4)) (.int .i64 (i : Nat)) [some (nl .u64 cs)] = some (nats (dig B32 (val 256 l.reverse))) := by
 intro k
 induction k with
 | zero =>
  intro i cs hik hcs hd hv
  rw [zf1l.l0_eq]
  simp (disch := omega) only [Wd]
  have hr : Row [some (nl .u64 cs)] .u64 (.rs 1 0 0 ((l.length + 3) / 4)) cs := zydz zyaf hcs
  rw [zyhh zy0t hr (by omega) hd, hv, List.take_of_length_le (by simp; omega)]
 | succ k ih =>
  intro i cs hik hcs hd hv
  rw [zf1l.l0_eq]
  have hdr : Dg 256 l.reverse := fun x hx => hl x (List.mem_reverse.1 hx)
  have hb : l.reverse.getD i 0 < 256 := hdr.getD (by decide)
  have hV : val 256 (l.reverse.take i) < 256 ^ i := by
   have := zyi1 (hdr.take i)
   rwa [List.length_take, Nat.min_eq_left (by simp; omega)] at this
  have hroom := zy1t (w := 4) (i := i) (by decide) (by omega) hd hv hV
  have hfit := zy1s hb hroom (w := 4) (Nat.mod_lt _ (by omega))
  have e256 : (256 : Nat) ^ 4 = 4294967296 := by decide
  rw [e256] at hfit
  have hidx : i / 4 < (l.length + 3) / 4 := by omega
  simp (disch := first | omega | assumption) only [Wd]
  rw [zyf2 (by omega)]
  generalize hbb : l.reverse.getD i 0 = b at *
  have e1 : b * 2 ^ (i % 4 * 8) % 18446744073709551616 = b * 2 ^ (i % 4 * 8) := Nat.mod_eq_of_lt (by omega)
  simp (disch := first | omega | assumption) only [Wd, e1]
  refine ih (i + 1) _ (by omega) (by simpa using hcs) (hd.set hfit) ?_
  rw [zyi3 (b := b * 2 ^ (i % 4 * 8)) (by omega) rfl, hv, zy45 (p := 0) 4 B32 (by decide) (by omega), zyi8, hbb, Nat.mul_comm]
theorem digits_cv (l : List Nat) (hl : ∀ x ∈ l, x < 256) (hn : l.length ≤ 1000000) : cv gp fid.zf1l [str l] = some (nats (dig B32 (val 256 l.reverse))) := by
 rw [zf1l.eq]
 unfold zf1l.f
 simp (disch := omega) only [Wd]
 exact digits_l0 hl hn l.length 0 _ (by omega) (by simp) (Dg.replicate _ (by decide)) (by simp [val, zyi9])
end Go.Proofs.YtiblnpnfaadmcaaGreat.Am
/- Strings and limbs, strings and digits. -/
set_option linter.unusedVariables false
set_option linter.unusedSimpArgs false
namespace Go.Proofs.YtiblnpnfaadmcaaGreat.Am
open Go

theorem zy9w {x y w : Nat} (hw : 0 < w) (h : ∀ i, i < x ↔ w * i < y) : x = (y + (w - 1)) / w := by
 have h1 : ∀ i, i < x ↔ i < (y + (w - 1)) / w := fun i => by
  rw [h i, Nat.lt_iff_add_one_le, Nat.lt_iff_add_one_le, Nat.le_div_iff_mul_le hw, Nat.add_mul, Nat.one_mul, Nat.mul_comm i]
  omega
 rcases Nat.lt_trichotomy x ((y + (w - 1)) / w) with h2 | h2 | h2
 ·exact absurd ((h1 x).2 h2) (by omega)
 ·exact h2
 ·exact absurd ((h1 _).1 h2) (by omega)
theorem zy40 {B C w : Nat} (hB : 2 ≤ B) (hw : 0 < w) (hC : C = B ^ w) (n : Nat) : (dig C n).length = ((dig B n).length + (w - 1)) / w := by
 have hC2 : 2 ≤ C := by
  rw [hC]
  exact Nat.le_trans hB (Nat.le_trans (Nat.le_of_eq (Nat.pow_one B).symm) (Nat.pow_le_pow_right (n := B) (by omega) hw))
 refine zy9w hw fun i => ?_
 rw [zy3x hC2, zy3x hB, hC, ← Nat.pow_mul]

theorem rev_set {l : List Nat} {i a : Nat} (h : i < l.length) : l.reverse.set (l.length - 1 - i) a = (l.set i a).reverse := by
 apply List.ext_getElem?
 intro j
 rw [List.getElem?_set]
 rcases Nat.lt_or_ge j l.length with hj | hj
 ·rw [List.getElem?_reverse (by simpa using hj), List.getElem?_reverse (by simpa using hj), List.getElem?_set, List.length_set, List.length_reverse]
  by_cases e : l.length - 1 - i = j
  ·rw [if_pos e, if_pos (by omega), if_pos (by omega), if_pos (by omega)]
  ·rw [if_neg e, if_neg (by omega)]
 ·rw [List.getElem?_eq_none (by simpa using hj), List.getElem?_eq_none (by simpa using hj), if_neg (by omega)]

theorem zybm (n i : Nat) : n % 256 ^ (i + 1) = n % 256 ^ i + 256 ^ i * (n / 256 ^ i % 256) := Nat.mod_pow_succ

theorem byte_at {n i w B : Nat} (hB : B = 256 ^ w) (hw : 0 < w) : n / B ^ (i / w) % B / 2 ^ (i % w * 8) % 256 = n / 256 ^ i % 256 := by
 have hi : i % w < w := Nat.mod_lt _ hw
 have e1 : 256 ^ i = B ^ (i / w) * 256 ^ (i % w) := by rw [hB, ← Nat.pow_mul, ← Nat.pow_add, Nat.div_add_mod]
 rw [e1, ← Nat.div_div_eq_div_mul]
 generalize n / B ^ (i / w) = x
 have e2 : (2 : Nat) ^ (i % w * 8) = 256 ^ (i % w) := by rw [Nat.mul_comm, Nat.pow_mul]
 rw [e2]
 generalize i % w = k at hi
 have e3 : B = 256 ^ k * (256 * 256 ^ (w - 1 - k)) := by
  rw [hB, ← Nat.pow_succ', ← Nat.pow_add]; congr 1; omega
 rw [e3, Nat.mod_mul_right_div_self]
 exact Nat.mod_mul_right_mod _ _ _

theorem i_shr {a n : Nat} (ha : a < 18446744073709551616) : opBin .shr (nat .u64 a) (.int .i64 (n : Int)) = some (nat .u64 (a / 2 ^ n)) := zyg7 ha
theorem i_shl {a n : Nat} : opBin .shl (nat .u64 a) (.int .i64 (n : Int)) = some (nat .u64 ((a * 2 ^ n) % 18446744073709551616)) := zyg6


theorem of_l0 {l : List Nat} (hl : ∀ x ∈ l, x < 256) (hn : l.length ≤ 32000) (h0 : l.getD 0 1 ≠ 0) : ∀ (k i : Nat) (cs : List Nat), i + k = l.length → cs.length = (l.length + 7) / 8 → Dg B64 cs → val B64 cs = val 256 (l.reverse.take i) →
  limb_Of.l0 (str l) (.rs 1 0 0 ((l.length + 7) / 8)) (.int .i64 l.length) (.int .i64 (i : Nat)) [some (nl .u64 cs)] = some (.tup [nats (dig B64 (val 256 l.reverse)), .int .i64 0]) := by
 intro k
 induction k with
 | zero =>
  intro i cs hik hcs hd hv
  rw [limb_Of.l0_eq]
  simp (disch := omega) only [Wd]
  rw [List.take_of_length_le (by simp; omega)] at hv
  have hr : Row [some (nl .u64 cs)] .u64 (.rs 1 0 0 ((l.length + 7) / 8)) cs := zydz zyaf hcs
  have hlen := zy40 (B := 256) (C := B64) (w := 8) (by decide) (by omega) (by decide) (val 256 l.reverse)
  have hnb := nb_of hl h0
  have h8 : (dig 256 (val 256 l.reverse)).length = l.length := by rw [← zybu, hnb]
  have e := eq_dig zy0u hd (by rw [tl_eq zy0u hd, hv, hlen, h8, hcs])
  rw [frz_ri hr, e, hv]
 | succ k ih =>
  intro i cs hik hcs hd hv
  rw [limb_Of.l0_eq]
  have hdr : Dg 256 l.reverse := fun x hx => hl x (List.mem_reverse.1 hx)
  have hb : l.reverse.getD i 0 < 256 := hdr.getD (by decide)
  have hV : val 256 (l.reverse.take i) < 256 ^ i := by
   have := zyi1 (hdr.take i)
   rwa [List.length_take, Nat.min_eq_left (by simp; omega)] at this
  have hroom := zy1t (w := 8) (i := i) (by decide) (by omega) hd hv hV
  have hfit := zy1s hb hroom (w := 8) (Nat.mod_lt _ (by omega))
  have e256 : (256 : Nat) ^ 8 = 18446744073709551616 := by decide
  rw [e256] at hfit
  have hidx : i / 8 < (l.length + 7) / 8 := by omega
  have hy := hd.l64 (i / 8)
  have hb2 : l.getD (l.length - 1 - i) 0 < 256 := by rw [zyf2 (by omega)]; exact hb
  simp (disch := first | omega | assumption) only [Wd, i_shl]
  rw [zyf2 (by omega), Nat.mul_comm 8]
  generalize hbb : l.reverse.getD i 0 = b at *
  have e1 : b * 2 ^ (i % 8 * 8) % 18446744073709551616 = b * 2 ^ (i % 8 * 8) := Nat.mod_eq_of_lt (by omega)
  rw [e1, u_or hy (by omega), Nat.or_comm, or_add hroom, Nat.add_comm]
  simp (disch := first | omega | assumption) only [Wd]
  refine ih (i + 1) _ (by omega) (by simpa using hcs) (hd.set hfit) ?_
  rw [zyi3 (b := b * 2 ^ (i % 8 * 8)) (by omega) rfl, hv, zy45 (p := 0) 8 B64 (by decide) (by omega), zyi8, hbb, Nat.mul_comm]
theorem of_cv (l : List Nat) (hl : ∀ x ∈ l, x < 256) : cv gp fid.limb_Of [str l] = some (if 32000 < l.length then .tup [nats [], .int .i64 5] else if l.getD 0 1 = 0 then .tup [nats [], .int .i64 1] else .tup [nats (dig B64 (val 256 l.reverse)), .int .i64 0]) := by
 rw [limb_Of.eq]
 unfold limb_Of.f
 have j : l.length ≤ 32000 → l.getD 0 1 ≠ 0 → limb_Of.j0 (str l) = some (.tup [nats (dig B64 (val 256 l.reverse)), .int .i64 0]) := fun hn h0 => by
  unfold limb_Of.j0
  simp (disch := omega) only [Wd]
  exact of_l0 hl hn h0 l.length 0 _ (by omega) (by simp) (Dg.replicate _ (by decide)) (by simp [val, zyi9])
 simp only [Wd, zy3c]
 by_cases h : 32000 < l.length
 ·rw [if_pos (by omega), if_pos h]; exact zy67
 ·rw [if_neg (by omega), if_neg h, zyh3, zyh2 hl (by simp)]
  simp only [zy13, zy6k]
  cases l with
  | nil => rw [if_neg (by simp), j (by simp) (by simp)]; rfl
  | cons x l =>
   rw [if_pos (by simp), zyh5 hl (by omega) (by simp)]
   simp only [zy13, zybo, zy3c]
   have e : ((x :: l).getD (Int.toNat 0) 0) = x := rfl
   have e2 : ((x :: l).getD 0 1) = x := rfl
   rw [e, e2]
   by_cases hx : x = 0
   ·rw [if_pos hx, if_pos hx]; exact zy67
   ·rw [if_neg hx, if_neg hx]; exact j (by omega) (by rw [e2]; exact hx)
theorem of_nb (n : Nat) (hn : (nb n).length ≤ 32000) : cv gp fid.limb_Of [str (nb n)] = some (.tup [nats (dig B64 n), .int .i64 0]) := by
 rw [of_cv _ (nb_lt n), if_neg (by omega), if_neg, zybx]
 by_cases h : n = 0
 ·subst h; rw [zyby]; simp
 ·have := zybs h
  intro e
  apply this
  have hl : 0 < (nb n).length := by
   rcases Nat.eq_zero_or_pos (nb n).length with h2 | h2
   ·exact absurd (nb_eq_nil.1 (List.length_eq_zero_iff.1 h2)) h
   ·exact h2
  rw [List.getD_eq_getElem?_getD, List.getElem?_eq_getElem hl] at e ⊢
  exact e


theorem lnat_len {n : Nat} (h : n ≠ 0) : (dig 256 n).length + (64 - blen ((dig B64 n).getD ((dig B64 n).length - 1) 0)) / 8 = (dig B64 n).length * 8 := by
 have h1 : (dig B64 n).length ≠ 0 := fun e => h ((zy3w zy0u).1 e)
 have h2 := zy42 zy0u h
 obtain ⟨m, hm⟩ : ∃ m, (dig B64 n).length = m + 1 := ⟨_, (Nat.succ_pred_eq_of_ne_zero h1).symm⟩
 have h3 := (zy3s zy0u n).getD (i := m) (by decide)
 rw [hm, Nat.add_sub_cancel] at h2 ⊢
 have etop : (dig B64 n).getD m 0 = n / 256 ^ (8 * m) := by
  have hs := zy3t zy0u n m
  rw [zy4e _ _ (by omega), List.drop_of_length_le (by omega)] at hs
  have e64 : B64 ^ m = 256 ^ (8 * m) := by rw [Nat.pow_mul]
  rw [e64] at hs
  have hv := zyhy zy0u (n / 256 ^ (8 * m))
  rw [← hs] at hv
  simpa [val] using hv
 rw [etop] at h2 h3 ⊢
 have hd := zy3t (B := 256) (by decide) n (8 * m)
 have hdl := congrArg List.length hd
 rw [List.length_drop] at hdl
 have hpos : (dig 256 (n / 256 ^ (8 * m))).length ≠ 0 := fun e => h2 ((zy3w (by decide)).1 e)
 generalize n / 256 ^ (8 * m) = top at *
 have hb : (dig 256 top).length = (blen top + (8 - 1)) / 8 := by
  refine zy9w (by omega) fun i => ?_
  rw [zy3x (by decide)]
  have e : (256 : Nat) ^ i = 2 ^ (8 * i) := by rw [Nat.pow_mul]
  rw [e]
  constructor
  ·intro hle
   rcases Nat.lt_or_ge (8 * i) (blen top) with h4 | h4
   ·exact h4
   ·have h5 := zy16 top
    have h6 : (2 : Nat) ^ blen top ≤ 2 ^ (8 * i) := Nat.pow_le_pow_right (by omega) h4
    omega
  ·intro hlt
   have h5 := zy9i h2
   have h6 : (2 : Nat) ^ (8 * i) ≤ 2 ^ (blen top - 1) := Nat.pow_le_pow_right (by omega) (by omega)
   omega
 have hbl : blen top ≤ 64 := zy15 h3
 omega

theorem lnat_l0 {n : Nat} {x : AV} {id : Nat} (hn : (dig 256 n).length ≤ 32000) (hx : ∀ h', Row h' .u64 x (dig B64 n)) : ∀ (k i : Nat) (r : List Nat), i + k = (dig 256 n).length → r.length = (dig 256 n).length → Dg 256 r → val 256 (r.take i) = n % 256 ^ i →
  zf3i.l0 x (.int .i64 (dig 256 n).length) (.rs 1 0 0 (dig 256 n).length) (.int .i64 (dig 256 n).length) (.int .i64 (i : Nat)) [some (nl .u8 r.reverse)] = some (.tup [str (nb n), .int .i64 0]) := by
 intro k
 induction k with
 | zero =>
  intro i r hik hr hd hv
  rw [zf3i.l0_eq]
  simp (disch := omega) only [Wd]
  have hrow : Row [some (nl .u8 r.reverse)] .u8 (.rs 1 0 0 (dig 256 n).length) r.reverse := zydz zyaf (by simpa using hr)
  rw [hrow.b2s]
  simp only [zy13]
  rw [List.take_of_length_le (by omega), show i = (dig 256 n).length by omega, Nat.mod_eq_of_lt (zyb0 (by decide))] at hv
  have e : r = dig 256 n := val_inj hd (zy3s (by decide) n) hr (by rw [hv, zyhy (by decide)])
  rw [e]
  rfl
 | succ k ih =>
  intro i r hik hr hd hv
  rw [zf3i.l0_eq]
  have h64 := zy40 (B := 256) (C := B64) (w := 8) (by decide) (by omega) (by decide) n
  have hidx : i / 8 < (dig B64 n).length := by omega
  have hrl : r.reverse.length = r.length := List.length_reverse
  have hb := (zy3s zy0u n).l64 (i / 8)
  simp (disch := first | omega | assumption) only [Wd]
  rw [(hx _).rdn hidx]
  simp (disch := first | omega | assumption) only [Wd, i_shr, zy3k, List.length_reverse]
  rw [Nat.mul_comm 8, zy3v zy0u, byte_at (w := 8) (by decide) (by omega)]
  rw [← hr, rev_set (by omega), hr]
  refine ih (i + 1) _ (by omega) (by simpa using hr) (hd.set (Nat.mod_lt _ (by omega))) ?_
  rw [zyfz _ _ _ (by omega), zyi4, List.length_take, Nat.min_eq_left (by omega), hv, zybm]
theorem lnat_cv (l : List Nat) (hl : Dg B64 l) : cv gp fid.zf3i [nats l] = some (if 4000 < l.length then .tup [str [], .int .i64 5] else .tup [str (nb (val B64 l)), .int .i64 0]) := by
 rw [zf3i.eq]
 unfold zf3i.f
 have e1 : zycy 1 1 [.is 0 true []] [(0, nats l)] = some (.is 1 true [nats l]) := zy1g
 have e2 : byVal (callW gp) [] fid.zf3e [.is 1 true [nats l]] = some (.bool (decide (4000 < l.length))) := by
  refine zy1q (xs := [.is 1 false [nats l]]) ?_ (long1 l) ?_
  ·have h1 : zy5v [] (.is 1 true [nats l]) = some (.is 1 false [nats l]) := by
    show zy5w 12 [] (.is 1 true [nats l]) = _
    rw [fz_is, List.mapM_cons, (imm_nats (l := l) 11 (by omega)).2 []]; rfl
   exact mapM1 h1
  ·have h2 : noRef (.is 1 true [nats l]) = true := zy78 (fun c hc => by rw [List.mem_singleton.1 hc]; exact imm_nats) (n := 11) (d := 2) (by omega)
   simp [h2]
 rw [e1, zy13, e2, zy13, zy3c]
 split
 ·rfl
 ·rename_i hn
  obtain ⟨e3, r⟩ := zyhl (Row.nats [] l) (by omega) hl
  rw [e3, zy13]
  rw [r.len]
  simp only [zy13, zy0x, zy3c]
  have hlen := zy3y zy0u hl
  by_cases h0 : val B64 l = 0
  ·rw [if_pos (by rw [h0, zy43]; rfl), h0, zyby]; rfl
  ·have h1 : (dig B64 (val B64 l)).length ≠ 0 := fun e => h0 ((zy3w zy0u).1 e)
   rw [if_neg (by omega)]
   simp (disch := omega) only [Wd]
   rw [r.rdn (by omega)]
   have hb := (zy3s zy0u (val B64 l)).getD (i := (dig B64 (val B64 l)).length - 1) (by decide)
   rw [lz_by hb]
   have hll := lnat_len h0
   have e4 : (dig B64 (val B64 l)).length * 8 - (64 - blen ((dig B64 (val B64 l)).getD ((dig B64 (val B64 l)).length - 1) 0)) / 8 = (dig 256 (val B64 l)).length := by omega
   simp (disch := omega) only [Wd]
   rw [e4]
   have hx : ∀ h', Row h' .u64 ((nats l).cut (tl l)) (dig B64 (val B64 l)) := fun h' => by
    rw [← zyh9 zy0u hl]
    exact (Row.nats h' l).cut (tl_le l)
   have := lnat_l0 (id := 0) (by omega) hx (dig 256 (val B64 l)).length 0 (List.replicate (dig 256 (val B64 l)).length 0) (by omega) (by simp) (Dg.replicate _ (by decide)) (by simp [val, Nat.mod_one])
   rw [List.reverse_replicate] at this
   exact this


theorem rnat_l1 {r : List Nat} (hd : Dg 256 r) (hn : r.length ≤ 1000000) : ∀ (m : Nat), m ≤ r.length → tl (r.take m) = tl r →
  zf23.l1 (.rs 1 0 0 r.length) (.int .i64 ((r.length - m : Nat) : Int)) [some (nl .u8 r.reverse)] = some (str (nb (val 256 r))) := by
 intro m
 have fin : ∀ m, m ≤ r.length → tl r = m → ((opSlc 1 (.rs 1 0 0 r.length) (some (.int .i64 ((r.length - m : Nat) : Int))) none none).bind fun v27 => (opB2s [some (nl .u8 r.reverse)] v27).bind fun v28 => zy5v [some (nl .u8 r.reverse)] v28) = some (str (nb (val 256 r))) := fun m hm ht => by
  rw [slc_rsl (by omega) (by omega)]
  simp only [zy13, Nat.zero_add, Nat.mul_one, Int.toNat_natCast]
  have hp : Row [some (nl .u8 r.reverse)] .u8 (.rs 1 0 (r.length - m) (r.length - (r.length - m))) ((r.reverse.drop (r.length - m)).take (r.length - (r.length - m))) := Row.part zyaf (by simp)
  rw [hp.b2s]
  simp only [zy13]
  rw [List.take_of_length_le (by simp), List.drop_reverse, show r.length - (r.length - m) = tl r by omega, zyh9 (by decide) hd]
  rfl
 induction m with
 | zero =>
  intro hm ht
  rw [zf23.l1_eq]
  simp (disch := omega) only [Wd]
  exact fin 0 (by omega) (by rw [← ht]; rfl)
 | succ m ih =>
  intro hm ht
  rw [zf23.l1_eq]
  simp (disch := omega) only [Wd, List.length_reverse]
  rw [rd_nl (by simp; omega)]
  simp only [zybo, zy13, zy3c]
  have e : r.reverse.getD (r.length - (m + 1)) 0 = r.getD m 0 := by
   have := zyf2 (l := r.reverse) (i := m) (by simp; omega)
   rw [List.reverse_reverse, List.length_reverse] at this
   rw [← this]; congr 1; omega
  rw [e]
  rw [zyhb r m (by omega)] at ht
  split
  ·rename_i h0
   rw [if_pos h0] at ht
   try simp (disch := omega) only [Wd]
   rw [show r.length - (m + 1) + 1 = r.length - m by omega]
   exact ih (by omega) ht
  ·rename_i h0
   rw [if_neg h0] at ht
   exact fin (m + 1) hm ht.symm

theorem rnat_l0 {n : Nat} {x : AV} (hn : (dig B32 n).length ≤ 100000) (hx : ∀ h', Row h' .u64 x (dig B32 n)) : ∀ (k i : Nat) (r : List Nat), i + k = 4 * (dig B32 n).length → r.length = 4 * (dig B32 n).length → Dg 256 r → val 256 (r.take i) = n % 256 ^ i →
  zf23.l0 x (.rs 1 0 0 (4 * (dig B32 n).length)) (.int .i64 (i : Nat)) [some (nl .u8 r.reverse)] = some (str (nb n)) := by
 intro k
 induction k with
 | zero =>
  intro i r hik hr hd hv
  rw [zf23.l0_eq]
  simp (disch := omega) only [Wd]
  have hlt : n < 256 ^ (4 * (dig B32 n).length) := by
   have := zyb0 zy0t (n := n)
   rw [Nat.pow_mul]; exact this
  rw [List.take_of_length_le (by omega), show i = 4 * (dig B32 n).length by omega, Nat.mod_eq_of_lt hlt] at hv
  have := rnat_l1 hd (by omega) r.length (Nat.le_refl _) (by rw [List.take_length])
  rw [Nat.sub_self, hv, hr] at this
  exact this
 | succ k ih =>
  intro i r hik hr hd hv
  rw [zf23.l0_eq]
  have hidx : i / 4 < (dig B32 n).length := by omega
  have hrl : r.reverse.length = r.length := List.length_reverse
  have hb := (zy3s zy0t n).l32 (i / 4)
  simp (disch := first | omega | assumption) only [Wd]
  rw [(hx _).rdn hidx]
  simp (disch := first | omega | assumption) only [Wd, zy3k, List.length_reverse]
  rw [zy3v zy0t, byte_at (w := 4) (by decide) (by omega)]
  rw [← hr, rev_set (by omega), hr]
  refine ih (i + 1) _ (by omega) (by simpa using hr) (hd.set (Nat.mod_lt _ (by omega))) ?_
  rw [zyfz _ _ _ (by omega), zyi4, List.length_take, Nat.min_eq_left (by omega), hv, zybm]
theorem rnat_cv (n : Nat) (hn : (dig B32 n).length ≤ 100000) : cv gp fid.zf23 [nats (dig B32 n)] = some (str (nb n)) := by
 rw [zf23.eq]
 unfold zf23.f
 have hr : ∀ h, Row h .u64 (nats (dig B32 n)) (dig B32 n) := fun h => Row.nats h _
 rw [zyhk (hr []) (by omega), zy13]
 have hx : ∀ h, Row h .u64 ((nats (dig B32 n)).cut2 (tl (dig B32 n))) (dig B32 n) := fun h => by
  have := zyhj zy0t (hr h) (zy3s zy0t n)
  rwa [zyhy zy0t] at this
 rw [(hx []).len]
 simp (disch := omega) only [Wd]
 have := rnat_l0 hn hx (4 * (dig B32 n).length) 0 (List.replicate (4 * (dig B32 n).length) 0) (by omega) (by simp) (Dg.replicate _ (by decide)) (by simp [val, Nat.mod_one])
 rw [List.reverse_replicate] at this
 exact this

end Go.Proofs.YtiblnpnfaadmcaaGreat.Am
/- Arguments of the common kinds, opened. -/
set_option linter.unusedVariables false
set_option linter.unusedSimpArgs false
namespace Go.Proofs.YtiblnpnfaadmcaaGreat.Am
open Go

end Go.Proofs.YtiblnpnfaadmcaaGreat.Am
/- Steps on structs: their cells in blocks, built, read and written. -/
set_option linter.unusedVariables false
set_option linter.unusedSimpArgs false
namespace Go.Proofs.YtiblnpnfaadmcaaGreat.Am
open Go

theorem i_add01 : opBin .add (.int .i64 0) (.int .i64 1) = some (.int .i64 ((1 : Nat) : Int)) := Eq.trans rfl rfl
theorem box_agg {h : Heap} {cs : List AV} : opBox h (.agg cs) = some (.rp h.length 0, h ++ [some cs]) := Eq.trans rfl rfl
theorem box_bool {h : Heap} {b : Bool} : opBox h (.bool b) = some (.rp h.length 0, h ++ [some [.bool b]]) := Eq.trans rfl rfl
theorem box_int {h : Heap} {k : IntKind} {z : Int} : opBox h (.int k z) = some (.rp h.length 0, h ++ [some [.int k z]]) := Eq.trans rfl rfl
theorem faddr_rp {id o off : Nat} : zyd1 off (.rp id o) = some (.rp id (o + off)) := Eq.trans rfl rfl
theorem faddr_ip {cs : List AV} {off : Nat} : zyd1 off (.ip cs) = some (.ip (cs.drop off)) := Eq.trans rfl rfl
theorem rc_one {a : AV} {l : List AV} : zyem (a :: l) none = some a := Eq.trans rfl rfl
theorem rc2 {a b : AV} {l : List AV} : zyem (a :: b :: l) (some 2) = some (.agg [a, b]) := Eq.trans rfl rfl
theorem rc3 {a b c : AV} {l : List AV} : zyem (a :: b :: c :: l) (some 3) = some (.agg [a, b, c]) := Eq.trans rfl rfl
theorem rc4 {a b c d : AV} {l : List AV} : zyem (a :: b :: c :: d :: l) (some 4) = some (.agg [a, b, c, d]) := Eq.trans rfl rfl
theorem rc6 {a b c d e f : AV} {l : List AV} : zyem (a :: b :: c :: d :: e :: f :: l) (some 6) = some (.agg [a, b, c, d, e, f]) := Eq.trans rfl rfl
theorem fld_agg {off : Nat} {g : Option Nat} {cs : List AV} : opFld off g (.agg cs) = zyem (cs.drop off) g := Eq.trans rfl rfl

theorem live_s {x : Option (List AV)} {l : Heap} {n : Nat} : live (x :: l) (n + 1) = live l n := by simp [live]
theorem h_setS {x y : Option (List AV)} {l : Heap} {n : Nat} : (x :: l).set (n + 1) y = x :: l.set n y := Eq.trans rfl rfl

structure CellsOK (new : List AV) (n : Nat) : Prop where
 len : new.length = n
 all : new.all AV.cell = true
theorem zy2v {v : AV} (h : v.cell = true) : v.cells = [v] := by cases v <;> first | rfl | cases h
theorem cell_ok {v : AV} (h : v.cell = true) : v.ok = true := by cases v <;> first | rfl | cases h
theorem zygg {cs : List AV} {off : Nat} {v : AV} (h : off < cs.length) : zygd cs off [v] = cs.set off v := by
 rw [List.set_eq_take_append_cons_drop, if_pos h]
 simp [zygd]
theorem stc_one {h : Heap} {id off : Nat} {v : AV} {cs : List AV} (hc : v.cell = true) (ho : off < cs.length) : stc h 1 id off v cs = some (h.set id (some (cs.set off v))) := by
 unfold stc
 rw [zy2v hc, zygg ho, if_pos]
 exact ⟨rfl, by simp [hc], by omega⟩
theorem zygl {h : Heap} {n id off : Nat} {new cs : List AV} (hc : CellsOK new n) (ho : off + n ≤ cs.length) : stc h n id off (.agg new) cs = some (h.set id (some (cs.take off ++ new ++ cs.drop (off + n)))) := by
 unfold stc
 show (if new.length = n ∧ new.all AV.cell ∧ off + n ≤ cs.length then some (h.set id (some (zygd cs off new))) else none) = _
 rw [if_pos ⟨hc.len, hc.all, ho⟩]
 unfold zygd
 rw [hc.len]
theorem bld_eq {z : List AV} {ps : List (Nat × Nat × AV)} : opBld z ps = (fillA z ps).map .agg := Eq.trans rfl rfl
theorem zy5g {cs : List AV} : fillA cs [] = some cs := Eq.trans rfl rfl
theorem fill_one {cs : List AV} {off : Nat} {v : AV} {l : List (Nat × Nat × AV)} (hc : v.cell = true) (ho : off < cs.length) : fillA cs ((off, 1, v) :: l) = fillA (cs.set off v) l := by
 rw [fillA, if_pos, zy2v hc, zygg ho]
 exact ⟨cell_ok hc, by rw [zy2v hc]; rfl, by omega⟩
theorem zy5e {cs new : List AV} {off sz : Nat} {l : List (Nat × Nat × AV)} (hc : new.length = sz) (ho : off + sz ≤ cs.length) : fillA cs ((off, sz, .agg new) :: l) = fillA (cs.take off ++ new ++ cs.drop (off + sz)) l := by
 rw [fillA, if_pos ⟨rfl, hc, ho⟩]
 show fillA (zygd cs off new) l = _
 unfold zygd
 rw [hc]
theorem map_s {α β : Type} {f : α → β} {a : α} : (some a).map f = some (f a) := Eq.trans rfl rfl

theorem sidx_is0 {sz n : Nat} {f : Bool} {cs : List AV} {k : IntKind} (h : 0 < n) : zydh sz (.is n f cs) (.int k 0) = some (.ip cs) := by
 have := zyg8 (sz := sz) (f := f) (cs := cs) (k := k) (z := 0) (n := n) (by omega) (by omega)
 simpa using this
theorem sidx_is1 {sz n : Nat} {f : Bool} {cs : List AV} {k : IntKind} (h : 1 < n) : zydh sz (.is n f cs) (.int k 1) = some (.ip (cs.drop sz)) := by
 have := zyg8 (sz := sz) (f := f) (cs := cs) (k := k) (z := 1) (n := n) (by omega) (by omega)
 simpa using this
theorem sidx_rs0 {sz id off n : Nat} {k : IntKind} (h : 0 < n) : zydh sz (.rs sz id off n) (.int k 0) = some (.rp id off) := by
 have := zyg9 (sz := sz) (id := id) (off := off) (k := k) (z := 0) (n := n) (by omega) (by omega)
 simpa using this
theorem sidx_rs1 {sz id off n : Nat} {k : IntKind} (h : 1 < n) : zydh sz (.rs sz id off n) (.int k 1) = some (.rp id (off + sz)) := by
 have := zyg9 (sz := sz) (id := id) (off := off) (k := k) (z := 1) (n := n) (by omega) (by omega)
 simpa using this

theorem zyio {z : List AV} : ∀ n, (zeros z n).length = n * z.length
 | 0 => by simp [zeros]
 | n + 1 => by rw [zeros, List.length_append, zyio n, Nat.add_mul]; omega
theorem zy1e {sz : Nat} {z a : List AV} (hz : z.length = sz) (ha : a.length = sz) : zycy sz 1 z [(0, .agg a)] = some (.is 1 true a) := by
 have e : zeros z 1 = z := by simp [zeros]
 unfold zycy
 rw [e]
 simp only [List.map_cons, List.map_nil, Nat.zero_mul]
 rw [zy5e ha (by omega), zy5g, map_s]
 simp [List.drop_of_length_le (show z.length ≤ sz by omega)]
theorem bslc_a2 {sz : Nat} {z a b : List AV} (hz : z.length = sz) (ha : a.length = sz) (hb : b.length = sz) : zycy sz 2 z [(0, .agg a), (1, .agg b)] = some (.is 2 true (a ++ b)) := by
 have e : zeros z 2 = z ++ z := by simp [zeros]
 unfold zycy
 rw [e]
 simp only [List.map_cons, List.map_nil, Nat.zero_mul, Nat.one_mul]
 rw [zy5e ha (by simp; omega)]
 simp only [List.take_zero, List.nil_append, Nat.zero_add]
 have e2 : (z ++ z).drop sz = z := by rw [← hz]; simp
 rw [e2, zy5e hb (by simp; omega), zy5g, map_s]
 rw [List.take_left' ha, List.drop_of_length_le (by simp; omega), List.append_nil]

theorem app_s0 {h : Heap} {sz m : Nat} {f : Bool} {cs : List AV} (hl : cs.length = m * sz) (h0 : 0 < m) (hm : m ≤ 4294967296) (hc : cs.all AV.cell = true) : opApp h sz (.is 0 true []) (.is m f cs) = some (.rs sz h.length 0 m, h ++ [some cs]) := by
 have e1 : zy4j h sz (.is m f cs) = some (m, cs) := by
  show (if m * sz ≤ cs.length then some (m, cs.take (m * sz)) else none) = _
  rw [if_pos (by omega), List.take_of_length_le (by omega)]
 have e2 : zy4j h sz (.is 0 true []) = some (0, []) := by simp [zy4j]
 unfold opApp
 rw [e1, e2]
 simp only [zy13, Nat.zero_add, List.nil_append]
 rw [if_pos ⟨hm, hc, rfl⟩, if_neg (by omega)]
theorem app_sr {h : Heap} {sz id n m : Nat} {f : Bool} {old cs : List AV} (hv : live h id = some old) (ho : old.length = n * sz) (hl : cs.length = m * sz) (h0 : 0 < m) (hm : n + m ≤ 4294967296) (hc : cs.all AV.cell = true) : opApp h sz (.rs sz id 0 n) (.is m f cs) = some (.rs sz h.length 0 (n + m), h.set id none ++ [some (old ++ cs)]) := by
 have e1 : zy4j h sz (.is m f cs) = some (m, cs) := by
  show (if m * sz ≤ cs.length then some (m, cs.take (m * sz)) else none) = _
  rw [if_pos (by omega), List.take_of_length_le (by omega)]
 have e2 : zy4j h sz (.rs sz id 0 n) = some (n, old) := by
  show ((live h id).bind fun cs => if sz = sz ∧ 0 + n * sz ≤ cs.length then some (n, (cs.drop 0).take (n * sz)) else none) = _
  rw [hv, zy13, if_pos ⟨rfl, by omega⟩, List.drop_zero, List.take_of_length_le (by omega)]
 unfold opApp
 rw [e1, e2]
 simp only [zy13]
 rw [if_pos ⟨hm, hc, rfl⟩, if_neg (by omega)]

theorem beq_f {x y : Bool} : opBeq false (.bool x) (.bool y) = some (.bool (x == y)) := Eq.trans rfl rfl
theorem beq_t {x y : Bool} : opBeq true (.bool x) (.bool y) = some (.bool (!(x == y))) := Eq.trans rfl rfl
theorem un_not {b : Bool} : opUn .not (.bool b) = some (.bool (!b)) := Eq.trans rfl rfl
theorem un_notd {p : Prop} [Decidable p] : opUn .not (.bool (decide p)) = some (.bool (decide (¬ p))) := by by_cases h : p <;> simp [opUn, h]
theorem un_t : opUn .not (.bool true) = some (.bool false) := Eq.trans rfl rfl
theorem un_f : opUn .not (.bool false) = some (.bool true) := Eq.trans rfl rfl

theorem frz_i2 {h : Heap} {b : Bool} {l : List Nat} : zy5v h (.agg [.bool b, str l]) = some (.agg [.bool b, str l]) := Eq.trans rfl rfl
theorem frz_i2e {h : Heap} {b : Bool} {l : List Nat} {k : IntKind} {z : Int} : zy5v h (.tup [.agg [.bool b, str l], .int k z]) = some (.tup [.agg [.bool b, str l], .int k z]) := Eq.trans rfl rfl
theorem frz_i22e {h : Heap} {b b' : Bool} {l l' : List Nat} {k : IntKind} {z : Int} : zy5v h (.tup [.agg [.bool b, str l], .agg [.bool b', str l'], .int k z]) = some (.tup [.agg [.bool b, str l], .agg [.bool b', str l'], .int k z]) := Eq.trans rfl rfl
theorem frz_r {h : Heap} {b : Bool} {l m : List Nat} : zy5v h (.agg [.bool b, str l, str m]) = some (.agg [.bool b, str l, str m]) := Eq.trans rfl rfl
theorem frz_re {h : Heap} {b : Bool} {l m : List Nat} {k : IntKind} {z : Int} : zy5v h (.tup [.agg [.bool b, str l, str m], .int k z]) = some (.tup [.agg [.bool b, str l, str m], .int k z]) := Eq.trans rfl rfl
theorem frz_ee {h : Heap} {k k' : IntKind} {z z' : Int} : zy5v h (.tup [.int k z, .int k' z']) = some (.tup [.int k z, .int k' z']) := Eq.trans rfl rfl
theorem frz_n2 {h : Heap} {b : Bool} {l : List Nat} : zy5v h (.agg [.bool b, nats l]) = some (.agg [.bool b, nats l]) :=
 (zy77 (d := 2) (fun c hc => by
  simp only [List.mem_cons, List.not_mem_nil, or_false] at hc
  rcases hc with rfl | rfl
  ·exact imm_bool.mono (by omega)
  ·exact imm_nats)).frz (by omega) h
set_option linter.defProp false in
def W2d := And.intro @box_agg <| And.intro @box_bool <| And.intro @box_int <| And.intro @faddr_rp <| And.intro @faddr_ip <| And.intro @rc_one <| And.intro @rc2 <| And.intro @rc3 <| And.intro @rc4 <| And.intro @rc6 <| And.intro @fld_agg <| And.intro @live_s <| And.intro @h_setS <| And.intro @stc_one <| And.intro @zygl <| And.intro @bld_eq <| And.intro @zy5g <| And.intro @fill_one <| And.intro @zy5e <| And.intro @map_s <| And.intro @sidx_is0 <| And.intro @sidx_is1 <| And.intro @sidx_rs0 <| And.intro @sidx_rs1 <| And.intro @zy1e <| And.intro @bslc_a2 <| And.intro @beq_f <| And.intro @beq_t <| And.intro @un_notd <| And.intro @un_t <| And.intro @un_f <| And.intro @frz_i2 <| And.intro @frz_i2e <| And.intro @frz_i22e <| And.intro @frz_r <| And.intro @frz_re <| And.intro @frz_ee <| And.intro @frz_n2 <| And.intro @List.drop_zero.{0} <| And.intro @List.drop_succ_cons.{0} <| And.intro @List.take_zero.{0} <| And.intro @List.take_succ_cons.{0} <| And.intro @List.cons_append.{0} <| And.intro @List.set_cons_zero.{0} <| And.intro @List.set_cons_succ.{0} <| And.intro @List.drop_nil.{0} <| And.intro @List.append_nil.{0} <| And.intro @i_add01 <| @Nat.one_mul
end Go.Proofs.YtiblnpnfaadmcaaGreat.Am
/- Layer 1's functions, called by value. -/
set_option linter.unusedVariables false
set_option linter.unusedSimpArgs false
namespace Go.Proofs.YtiblnpnfaadmcaaGreat.Am
open Go

section
variable {h : Heap}
theorem add_by {h : Heap} (l m : List Nat) (hl : Dg B64 l) (hm : Dg B64 m) (h1 : l.length ≤ 4000) (h2 : m.length ≤ 4000) : byVal (callW gp) h fid.zf4s [nats l, nats m] = some (.tup [nats (dig B64 (val B64 l + val B64 m)), .int .i64 0]) := by
 rw [zy1m (zy7h imm_nats imm_nats (by omega) (by omega)) (limb_add l m hl hm), if_neg (by omega)]
theorem mulr_by {h : Heap} (l m : List Nat) (hl : Dg B64 l) (hm : Dg B64 m) (h1 : l.length ≤ 4000) (h2 : m.length ≤ 4000) : byVal (callW gp) h fid.zf2v [nats l, nats m] = some (.tup [nats (dig B64 (val B64 l * val B64 m)), .int .i64 0]) := by
 rw [zy1m (zy7h imm_nats imm_nats (by omega) (by omega)) (limb_mul l m hl hm), if_neg (by omega)]
theorem c_radd {x y : Nat} (hx : (dig B32 x).length ≤ 100000) (hy : (dig B32 y).length ≤ 100000) : byVal (callW gp) h fid.zf3n [nats (dig B32 x), nats (dig B32 y)] = some (nats (dig B32 (x + y))) :=
 zy1m (zy7h imm_nats imm_nats (by omega) (by omega)) (by rw [radd_cv _ _ (zy3s zy0t x) (zy3s zy0t y) hx hy, zyhy zy0t, zyhy zy0t])
theorem c_rmul {x y : Nat} (hx : (dig B32 x).length ≤ 100000) (hy : (dig B32 y).length ≤ 100000) : byVal (callW gp) h fid.zf1n [nats (dig B32 x), nats (dig B32 y)] = some (nats (dig B32 (x * y))) :=
 zy1m (zy7h imm_nats imm_nats (by omega) (by omega)) (by rw [rmul_cv _ _ (zy3s zy0t x) (zy3s zy0t y) hx hy, zyhy zy0t, zyhy zy0t])
theorem c_rsub {x y : Nat} (hx : (dig B32 x).length ≤ 100000) (hy : y ≤ x) : byVal (callW gp) h fid.zf2n [nats (dig B32 x), nats (dig B32 y)] = some (nats (dig B32 (x - y))) :=
 zy1m (zy7h imm_nats imm_nats (by omega) (by omega)) (by
  rw [rsub_cv _ _ (zy3s zy0t x) (zy3s zy0t y) hx ?_ ?_, zyhy zy0t, zyhy zy0t]
  ·rcases Nat.lt_or_ge (dig B32 x).length (dig B32 y).length with h | h
   ·have := zyb1 zy0t h; omega
   ·exact h
  ·rw [zyhy zy0t, zyhy zy0t]; exact hy)
theorem c_rdm {x y : Nat} (hx : (dig B32 x).length ≤ 90000) (hy : (dig B32 y).length ≤ 90000) (h0 : 0 < y) : byVal (callW gp) h fid.zf22 [nats (dig B32 x), nats (dig B32 y)] = some (.tup [nats (dig B32 (x / y)), nats (dig B32 (x % y))]) :=
 zy1m (zy7h imm_nats imm_nats (by omega) (by omega)) (by rw [rdm_cv _ _ (zy3s zy0t x) h0 hx hy, zyhy zy0t])
theorem zy29 {x y : Nat} (hx : (dig B32 x).length ≤ 1000000) (hy : (dig B32 y).length ≤ 1000000) : byVal (callW gp) h fid.zf1k [nats (dig B32 x), nats (dig B32 y)] = some (.int .i64 (cmpI x y)) :=
 zy1m (zy7h imm_nats imm_nats (by omega) (by omega)) (rcmp_cv x y hx hy)
theorem c_add {a b : List Nat} (ha : Dg B64 a) (hb : Dg B64 b) (h1 : a.length ≤ 4000) (h2 : b.length ≤ 4000) : byVal (callW gp) h fid.zf4s [nats a, nats b] = some (.tup [nats (dig B64 (val B64 a + val B64 b)), .int .i64 0]) := add_by a b ha hb h1 h2
theorem c_mul {a b : List Nat} (ha : Dg B64 a) (hb : Dg B64 b) (h1 : a.length ≤ 4000) (h2 : b.length ≤ 4000) : byVal (callW gp) h fid.zf2v [nats a, nats b] = some (.tup [nats (dig B64 (val B64 a * val B64 b)), .int .i64 0]) := mulr_by a b ha hb h1 h2
theorem c_cmp {a b : List Nat} (ha : Dg B64 a) (hb : Dg B64 b) (h1 : a.length ≤ 4000) (h2 : b.length ≤ 4000) : byVal (callW gp) h fid.zf2u [nats a, nats b] = some (.tup [.int .i64 (cmpI (val B64 a) (val B64 b)), .int .i64 0]) := by
 rw [zy1m (zy7h imm_nats imm_nats (by omega) (by omega)) (limb_cmp a b ha hb), if_neg (by omega)]
theorem c_sub {a b : List Nat} (ha : Dg B64 a) (hb : Dg B64 b) (h1 : a.length ≤ 4000) (h2 : b.length ≤ 4000) (hlt : val B64 b ≤ val B64 a) : byVal (callW gp) h fid.zf4t [nats a, nats b] = some (.tup [nats (dig B64 (val B64 a - val B64 b)), .int .i64 0]) := by
 rw [zy1m (zy7h imm_nats imm_nats (by omega) (by omega)) (zya4 a b ha hb), if_neg (by omega), if_neg (by omega)]
theorem c_subn {a b : List Nat} (ha : Dg B64 a) (hb : Dg B64 b) (h1 : a.length ≤ 4000) (h2 : b.length ≤ 4000) (hlt : val B64 a < val B64 b) : byVal (callW gp) h fid.zf4t [nats a, nats b] = some (.tup [nats [], .int .i64 2]) := by
 rw [zy1m (zy7h imm_nats imm_nats (by omega) (by omega)) (zya4 a b ha hb), if_neg (by omega), if_pos (by omega)]
theorem c_dm {a b : List Nat} (ha : Dg B64 a) (hb : Dg B64 b) (h1 : a.length ≤ 4000) (h2 : b.length ≤ 4000) (h0 : 0 < val B64 b) : byVal (callW gp) h fid.zf3s [nats a, nats b] = some (.tup [nats (dig B64 (val B64 a / val B64 b)), nats (dig B64 (val B64 a % val B64 b)), .int .i64 0]) := by
 rw [zy1m (zy7h imm_nats imm_nats (by omega) (by omega)) (zya3 a b ha hb), if_neg (by omega), if_neg (by omega)]
theorem zy25 {l : List Nat} (hl : ∀ x ∈ l, x < 256) : byVal (callW gp) h fid.zf2y [str l] = some (.bool (decide (l.getD 0 1 ≠ 0))) := zy1m (zy7g imm_strl (by omega)) (isNat_cv l hl)
theorem c_digits {l : List Nat} (hl : ∀ x ∈ l, x < 256) (hn : l.length ≤ 1000000) : byVal (callW gp) h fid.zf1l [str l] = some (nats (dig B32 (val 256 l.reverse))) := zy1m (zy7g imm_strl (by omega)) (digits_cv l hl hn)
theorem c_rnat {n : Nat} (hn : (dig B32 n).length ≤ 100000) : byVal (callW gp) h fid.zf23 [nats (dig B32 n)] = some (str (nb n)) := zy1m (zy7g imm_nats (by omega)) (rnat_cv n hn)
theorem c_nat {l : List Nat} (hl : Dg B64 l) (hn : l.length ≤ 4000) : byVal (callW gp) h fid.zf3i [nats l] = some (.tup [str (nb (val B64 l)), .int .i64 0]) := by
 rw [zy1m (zy7g imm_nats (by omega)) (lnat_cv l hl), if_neg (by omega)]
theorem c_of {l : List Nat} (hl : ∀ x ∈ l, x < 256) : byVal (callW gp) h fid.limb_Of [str l] = some (if 32000 < l.length then .tup [nats [], .int .i64 5] else if l.getD 0 1 = 0 then .tup [nats [], .int .i64 1] else .tup [nats (dig B64 (val 256 l.reverse)), .int .i64 0]) :=
 zy1m (zy7g imm_strl (by omega)) (of_cv l hl)
end

theorem zy9v {B x y n : Nat} (hB : 2 ≤ B) (hx : (dig B x).length ≤ n) (hy : (dig B y).length ≤ n) : (dig B (x + y)).length ≤ n + 1 := zy3z hB (by
 have h1 := zyb0 hB (n := x)
 have h2 := zyb0 hB (n := y)
 have h3 : B ^ (dig B x).length ≤ B ^ n := Nat.pow_le_pow_right (by omega) hx
 have h4 : B ^ (dig B y).length ≤ B ^ n := Nat.pow_le_pow_right (by omega) hy
 have h5 : B ^ n * 2 ≤ B ^ n * B := Nat.mul_le_mul_left _ hB
 rw [Nat.pow_succ]
 omega)
theorem zya0 {B x y n m : Nat} (hB : 2 ≤ B) (hx : (dig B x).length ≤ n) (hy : (dig B y).length ≤ m) : (dig B (x * y)).length ≤ n + m := zy3z hB (by
 have h1 := zyb0 hB (n := x)
 have h2 := zyb0 hB (n := y)
 have h3 : B ^ (dig B x).length ≤ B ^ n := Nat.pow_le_pow_right (by omega) hx
 have h4 : B ^ (dig B y).length ≤ B ^ m := Nat.pow_le_pow_right (by omega) hy
 rw [Nat.pow_add]
 exact Nat.mul_lt_mul'' (by omega) (by omega))
theorem zy9z {B x y : Nat} (hB : 2 ≤ B) (h : x ≤ y) : (dig B x).length ≤ (dig B y).length := by
 rcases Nat.lt_or_ge (dig B y).length (dig B x).length with h1 | h1
 ·have := zyb1 hB h1; omega
 ·exact h1

end Go.Proofs.YtiblnpnfaadmcaaGreat.Am
/- The document's greatest common divisor. -/
set_option linter.unusedVariables false
set_option linter.unusedSimpArgs false
namespace Go.Proofs.YtiblnpnfaadmcaaGreat.Am
open Go

theorem half_l0 {a : List Nat} (ha : Dg B32 a) (hn : a.length ≤ 1000000) : ∀ (k : Nat) (cs : List Nat) (r : Nat), k ≤ a.length → cs.length = a.length → Dg B32 cs → r < 2 → 2 * val B32 (cs.drop k) + r = val B32 (a.drop k) →
  zf37.l0 (nats a) (.rs 1 0 0 a.length) (nat .u64 r) (.int .i64 ((k : Int) - 1)) [some (nl .u64 cs)] = some (.tup [nats (dig B32 (val B32 a / 2)), .bool (decide (val B32 a % 2 = 1))]) := by
 intro k
 induction k with
 | zero =>
  intro cs r hk hcs hd hr hv
  rw [zf37.l0_eq]
  simp (disch := omega) only [Wd]
  have hrow : Row [some (nl .u64 cs)] .u64 (.rs 1 0 0 a.length) cs := zydz zyaf hcs
  rw [zyhk hrow (by omega), zy13]
  have h2 := zyhj zy0t hrow hd
  simp only [List.drop_zero] at hv
  rw [show val B32 a / 2 = val B32 cs by omega, show val B32 a % 2 = r by omega]
  exact zy6a (h2.frzN (by omega)) rfl
 | succ k ih =>
  intro cs r hk hcs hd hr hv
  rw [zf37.l0_eq]
  rw [show (((k + 1 : Nat) : Int) - 1) = (k : Int) by omega]
  have hx := ha.l32 k
  simp (disch := omega) only [Wd]
  rw [zy7z (by omega) (by omega)]
  simp only [zy13]
  refine ih _ _ (by omega) (by simpa using hcs) (hd.set (show _ < 4294967296 by omega)) (by omega) ?_
  have e1 : (cs.set k ((r * 4294967296 + a.getD k 0) / 2)).drop k = (r * 4294967296 + a.getD k 0) / 2 :: cs.drop (k + 1) := by
   rw [zy4e _ _ (by simp; omega), zyfw _ _ _ _ (by omega), zy6e, if_pos ⟨rfl, by omega⟩]
  rw [e1, zy4e a k (by omega), zyhw, zyhw, ← hv]
  show 2 * ((r * 4294967296 + a.getD k 0) / 2 + 4294967296 * val B32 (cs.drop (k + 1))) + (r * 4294967296 + a.getD k 0) % 2 = a.getD k 0 + 4294967296 * (2 * val B32 (cs.drop (k + 1)) + r)
  omega
theorem c_half {h : Heap} {x : Nat} (hx : (dig B32 x).length ≤ 1000000) : byVal (callW gp) h fid.zf37 [nats (dig B32 x)] = some (.tup [nats (dig B32 (x / 2)), .bool (decide (x % 2 = 1))]) := zy1m (zy7g imm_nats (by omega)) (by
 rw [zf37.eq]
 unfold zf37.f
 simp (disch := omega) only [Wd]
 rw [zy7z (by omega) (by omega)]
 simp only [zy13]
 have := half_l0 (zy3s zy0t x) hx (dig B32 x).length (List.replicate (dig B32 x).length 0) 0 (Nat.le_refl _) (by simp) (Dg.replicate _ (by decide)) (by omega) (by simp [val])
 rw [zyhy zy0t] at this
 exact this)
theorem c_double {h : Heap} {x b : Nat} (hx : (dig B32 x).length ≤ 1000000) (hb : b < 2) : byVal (callW gp) h fid.zf2m [nats (dig B32 x), nat .u64 b] = some (nats (dig B32 (2 * x + b))) := by
 have := zy4a (h := h) (f := false) (dig B32 x) b (zy3s zy0t x) hx hb
 rwa [zyhy zy0t] at this

theorem dig0 {B : Nat} (hB : 2 ≤ B) {n : Nat} (h : n ≠ 0) : (dig B n).getD 0 0 = n % B ∧ 0 < (dig B n).length := by
 rw [zy41 hB h]; exact ⟨rfl, by simp⟩
theorem zyau {n : Nat} (h : n ≠ 0) : (dig B32 n).getD 0 0 % 2 = n % 2 := by
 rw [(dig0 zy0t h).1]
 exact Nat.mod_mod_of_dvd _ (by decide)
theorem nrd0 {n : Nat} (h : n ≠ 0) {R : Type} {hp : Heap} (F : AV → Option R) : ((zydh 1 (nats (dig B32 n)) (.int .i64 0)).bind fun a => (zyd4 hp none a).bind F) = F (nat .u64 ((dig B32 n).getD 0 0)) :=
 (Row.nats hp (dig B32 n)).rd (z := 0) (by omega) (by have := (dig0 zy0t h).2; omega) F

theorem cop2 {b : Nat} (h : b % 2 = 1) : Nat.Coprime 2 b := by
 unfold Nat.Coprime
 rw [Nat.gcd_rec, h]; rfl
theorem zy6c {a b : Nat} (ha : a % 2 = 0) (hb : b % 2 = 1) : Nat.gcd (a / 2) b = Nat.gcd a b := by
 have := Nat.Coprime.gcd_mul_left_cancel (a / 2) (cop2 hb)
 rw [← this, show 2 * (a / 2) = a by omega]

theorem gcd_l4 {t : Nat} (ht : t ≤ 1000000) : ∀ (k i b : Nat), i + k = t → (dig B32 (b * 2 ^ k)).length ≤ 1000000 → zf2l.l4 (nats (dig B32 b)) (.int .i64 (t : Nat)) (.int .i64 (i : Nat)) = some (nats (dig B32 (b * 2 ^ k))) := by
 intro k
 induction k with
 | zero =>
  intro i b hik hl
  rw [zf2l.l4_eq]
  simp (disch := omega) only [Wd]
  rw [Nat.pow_zero, Nat.mul_one]
  exact imm_nats.frz (by omega) _
 | succ k ih =>
  intro i b hik hl
  rw [zf2l.l4_eq]
  have h1 : (dig B32 b).length ≤ 1000000 := Nat.le_trans (zy9z zy0t (Nat.le_mul_of_pos_right b (Nat.pow_pos (by omega)))) hl
  simp (disch := omega) only [Wd, c_double]
  rw [show 2 * b + 0 = b * 2 by omega]
  have e : b * 2 ^ (k + 1) = b * 2 * 2 ^ k := by rw [Nat.pow_succ, Nat.mul_comm (2 ^ k), Nat.mul_assoc]
  rw [e] at hl ⊢
  exact ih (i + 1) (b * 2) (by omega) hl

theorem gcd_l1 {t : Nat} (ht : t ≤ 1000000) : ∀ (s a b : Nat), a + b = s → 0 < b → (a % 2 = 0 → b % 2 = 1) → (dig B32 a).length ≤ 30000 → (dig B32 b).length ≤ 30000 → (dig B32 (Nat.gcd a b * 2 ^ t)).length ≤ 1000000 →
  zf2l.l1 (nats (dig B32 a)) (nats (dig B32 b)) (.int .i64 (t : Nat)) = some (nats (dig B32 (Nat.gcd a b * 2 ^ t))) := by
 intro s
 induction s using Nat.strongRecOn with
 | _ s ih =>
  intro a b hs hb hab la lb hl
  rw [zf2l.l1_eq]
  simp (disch := omega) only [Wd, zy3c]
  by_cases ha : a = 0
  ·subst ha
   rw [if_neg (by rw [zy43]; simp), Nat.gcd_zero_left]
   rw [Nat.gcd_zero_left] at hl
   exact gcd_l4 ht t 0 b (by omega) hl
  ·have hal := (dig0 zy0t ha).2
   rw [if_pos (by omega)]
   -- b's halves, where a is odd
   have l3 : ∀ (m b' : Nat), b' = m → 0 < b' → b' ≤ b → a % 2 = 1 → Nat.gcd a b' = Nat.gcd a b → zf2l.l3 (nats (dig B32 a)) (nats (dig B32 b')) (.int .i64 (t : Nat)) = some (nats (dig B32 (Nat.gcd a b * 2 ^ t))) := by
    intro m
    induction m using Nat.strongRecOn with
    | _ m ihm =>
     intro b' hm hb' hle hodd hg
     rw [zf2l.l3_eq, nrd0 (by omega)]
     have lb' : (dig B32 b').length ≤ 30000 := Nat.le_trans (zy9z zy0t hle) lb
     simp (disch := omega) only [Wd, zy3c, zyau (show b' ≠ 0 by omega)]
     by_cases hev : b' % 2 = 0
     ·rw [if_pos hev]
      simp (disch := omega) only [Wd, c_half]
      refine ihm (b' / 2) (by omega) _ rfl (by omega) (by omega) hodd ?_
      rw [Nat.gcd_comm, zy6c hev hodd, Nat.gcd_comm, hg]
     ·rw [if_neg hev, zy29 (by omega) (by omega)]
      simp only [zy13, zy11, zy3c]
      by_cases hlt : a < b'
      ·rw [if_pos (cmpI_neg.2 hlt), c_rsub (by omega) (by omega)]
       simp only [zy13]
       have e : Nat.gcd (b' - a) a = Nat.gcd a b := by rw [← hg, Nat.gcd_comm a b', Nat.gcd_sub_self_left (by omega)]
       rw [← e] at hl ⊢
       exact ih (b' - a + a) (by omega) (b' - a) a rfl (by omega) (by omega) (Nat.le_trans (zy9z zy0t (by omega)) lb') la hl
      ·rw [if_neg (fun e => hlt (cmpI_neg.1 e)), c_rsub (by omega) (by omega)]
       simp only [zy13]
       have e : Nat.gcd (a - b') b' = Nat.gcd a b := by rw [← hg, Nat.gcd_sub_self_left (by omega)]
       rw [← e] at hl ⊢
       exact ih (a - b' + b') (by omega) (a - b') b' rfl (by omega) (by omega) (Nat.le_trans (zy9z zy0t (by omega)) la) lb' hl
   -- a's halves
   have l2 : ∀ (m a' : Nat), a' = m → 0 < a' → a' ≤ a → (a' % 2 = 0 → b % 2 = 1) → Nat.gcd a' b = Nat.gcd a b → zf2l.l2 (nats (dig B32 a')) (nats (dig B32 b)) (.int .i64 (t : Nat)) = some (nats (dig B32 (Nat.gcd a b * 2 ^ t))) := by
    intro m
    induction m using Nat.strongRecOn with
    | _ m ihm =>
     intro a' hm ha' hle hodd hg
     rw [zf2l.l2_eq, nrd0 (by omega)]
     have la' : (dig B32 a').length ≤ 30000 := Nat.le_trans (zy9z zy0t hle) la
     simp (disch := omega) only [Wd, zy3c, zyau (show a' ≠ 0 by omega)]
     by_cases hev : a' % 2 = 0
     ·rw [if_pos hev]
      simp (disch := omega) only [Wd, c_half]
      refine ihm (a' / 2) (by omega) _ rfl (by omega) (by omega) (fun _ => hodd hev) ?_
      rw [zy6c hev (hodd hev), hg]
     ·rw [if_neg hev]
      by_cases hsame : a' = a
      ·subst hsame
       exact l3 b b rfl hb (Nat.le_refl _) (by omega) rfl
      ·-- a smaller a: b's loop from there, by the outer induction's law for the smaller sum
       have := ih (a' + b) (by omega) a' b rfl hb (by omega) la' lb (by rw [hg]; exact hl)
       rw [zf2l.l1_eq] at this
       have hal' := (dig0 zy0t (show a' ≠ 0 by omega)).2
       simp (disch := omega) only [Wd] at this
       rw [zf2l.l2_eq, nrd0 (by omega)] at this
       simp (disch := omega) only [Wd, zy3c, zyau (show a' ≠ 0 by omega)] at this
       rw [hg] at this
       exact this
   exact l2 a a rfl (by omega) (Nat.le_refl _) hab rfl

theorem gcd_l0 : ∀ (s a b t : Nat), a + b = s → 0 < a → 0 < b → s + t ≤ s + t → t + (dig 2 a).length ≤ 960000 → (dig B32 a).length ≤ 30000 → (dig B32 b).length ≤ 30000 → (dig B32 (Nat.gcd a b * 2 ^ t)).length ≤ 1000000 →
  zf2l.l0 (nats (dig B32 a)) (nats (dig B32 b)) (.int .i64 (t : Nat)) = some (nats (dig B32 (Nat.gcd a b * 2 ^ t))) := by
 intro s
 induction s using Nat.strongRecOn with
 | _ s ih =>
  intro a b t hs ha hb _ ht la lb hl
  rw [zf2l.l0_eq, nrd0 (by omega)]
  simp (disch := omega) only [Wd, zy6k, zyau (show a ≠ 0 by omega)]
  by_cases hea : a % 2 = 0
  ·rw [if_pos hea, nrd0 (by omega)]
   simp (disch := omega) only [Wd, zy3c, zyau (show b ≠ 0 by omega)]
   by_cases heb : b % 2 = 0
   ·rw [if_pos heb]
    simp (disch := omega) only [Wd, c_half]
    have e : Nat.gcd (a / 2) (b / 2) * 2 ^ (t + 1) = Nat.gcd a b * 2 ^ t := by
     have : Nat.gcd a b = 2 * Nat.gcd (a / 2) (b / 2) := by
      rw [← Nat.gcd_mul_left, show 2 * (a / 2) = a by omega, show 2 * (b / 2) = b by omega]
     rw [this, Nat.pow_succ, Nat.mul_comm (2 ^ t), ← Nat.mul_assoc, Nat.mul_comm 2]
    have e2 : (dig 2 a).length = (dig 2 (a / 2)).length + 1 := by rw [zy41 (by decide) (by omega)]; rfl
    rw [← e] at hl ⊢
    exact ih (a / 2 + b / 2) (by omega) (a / 2) (b / 2) (t + 1) rfl (by omega) (by omega) (Nat.le_refl _) (by omega) (Nat.le_trans (zy9z zy0t (Nat.div_le_self _ _)) la) (Nat.le_trans (zy9z zy0t (Nat.div_le_self _ _)) lb) hl
   ·rw [if_neg heb]
    exact gcd_l1 (by omega) (a + b) a b rfl hb (by omega) la lb hl
  ·rw [if_neg hea]
   exact gcd_l1 (by omega) (a + b) a b rfl hb (by omega) la lb hl
theorem c_rgcd {h : Heap} {a b : Nat} (la : (dig B32 a).length ≤ 30000) (lb : (dig B32 b).length ≤ 30000) : byVal (callW gp) h fid.zf2l [nats (dig B32 a), nats (dig B32 b)] = some (nats (dig B32 (Nat.gcd a b))) := zy1m (zy7h imm_nats imm_nats (by omega) (by omega)) (by
 rw [zf2l.eq]
 unfold zf2l.f
 simp (disch := omega) only [Wd, zy3c]
 by_cases ha : a = 0
 ·rw [if_pos (by rw [ha, zy43]; rfl), ha, Nat.gcd_zero_left]
  exact imm_nats.frz (by omega) _
 ·have h1 := (dig0 zy0t ha).2
  rw [if_neg (by omega)]
  by_cases hb : b = 0
  ·rw [if_pos (by rw [hb, zy43]; rfl), hb, Nat.gcd_zero_right]
   exact imm_nats.frz (by omega) _
  ·have h2 := (dig0 zy0t hb).2
   rw [if_neg (by omega)]
   have h3 : (dig B32 a).length = ((dig 2 a).length + (32 - 1)) / 32 := zy40 (by decide) (by omega) (by decide) a
   have h4 : (dig B32 (Nat.gcd a b)).length ≤ 30000 := Nat.le_trans (zy9z zy0t (Nat.gcd_le_left b (by omega))) la
   have := gcd_l0 (a + b) a b 0 rfl (by omega) (by omega) (Nat.le_refl _) (by omega) la lb (by rw [Nat.pow_zero, Nat.mul_one]; omega)
   rw [Nat.pow_zero, Nat.mul_one] at this
   exact this)
end Go.Proofs.YtiblnpnfaadmcaaGreat.Am
