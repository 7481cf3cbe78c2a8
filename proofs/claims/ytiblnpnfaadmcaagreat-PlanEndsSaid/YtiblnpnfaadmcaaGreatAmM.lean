import Derived.Test.YtiblnpnfaadmcaaGreatAmLem
import Derived.Test.YtiblnpnfaadmcaaGreatAmDig
import Derived.Test.YtiblnpnfaadmcaaGreatTLimb
import Derived.Test.YtiblnpnfaadmcaaGreatAmL
import Derived.Test.YtiblnpnfaadmcaaGreatAmRow
/- Steps whose indices are natural numbers, made for simp with omega. -/
set_option linter.unusedVariables false
set_option maxRecDepth 10000
set_option linter.unusedSimpArgs false
namespace Go.Proofs.YtiblnpnfaadmcaaGreat.Am
open Go

section
variable {a b c i j : Nat}
theorem i_add (h : a + b ≤ 9223372036854775807) : opBin .add (.int .i64 (a : Int)) (.int .i64 (b : Int)) = some (.int .i64 ((a + b : Nat) : Int)) := by
  rw [int_add (by omega) (by omega)]; rfl
theorem i_sub (h : b ≤ a) (h2 : a ≤ 9223372036854775807) : opBin .sub (.int .i64 (a : Int)) (.int .i64 (b : Int)) = some (.int .i64 ((a - b : Nat) : Int)) := by
  rw [int_sub (by omega) (by omega)]; congr 2; omega
theorem i_mul (h : a * b ≤ 9223372036854775807) : opBin .mul (.int .i64 (a : Int)) (.int .i64 (b : Int)) = some (.int .i64 ((a * b : Nat) : Int)) := by
  have : ((a * b : Nat) : Int) = (a : Int) * b := Int.natCast_mul a b
  rw [int_mul (by omega) (by omega), this]

theorem i_add1 (h : a + 1 ≤ 9223372036854775807) : opBin .add (.int .i64 (a : Int)) (.int .i64 1) = some (.int .i64 ((a + 1 : Nat) : Int)) := i_add (b := 1) h
theorem i_add2 (h : a + 2 ≤ 9223372036854775807) : opBin .add (.int .i64 (a : Int)) (.int .i64 2) = some (.int .i64 ((a + 2 : Nat) : Int)) := i_add (b := 2) h
theorem i_add3 (h : a + 3 ≤ 9223372036854775807) : opBin .add (.int .i64 (a : Int)) (.int .i64 3) = some (.int .i64 ((a + 3 : Nat) : Int)) := i_add (b := 3) h
theorem i_add8 (h : a + 8 ≤ 9223372036854775807) : opBin .add (.int .i64 (a : Int)) (.int .i64 8) = some (.int .i64 ((a + 8 : Nat) : Int)) := i_add (b := 8) h
theorem i_sub1 (h : 1 ≤ a) (h2 : a ≤ 9223372036854775807) : opBin .sub (.int .i64 (a : Int)) (.int .i64 1) = some (.int .i64 ((a - 1 : Nat) : Int)) := i_sub (b := 1) h h2
theorem i_sub2 (h : 2 ≤ a) (h2 : a ≤ 9223372036854775807) : opBin .sub (.int .i64 (a : Int)) (.int .i64 2) = some (.int .i64 ((a - 2 : Nat) : Int)) := i_sub (b := 2) h h2
theorem i_mul2 (h : a * 2 ≤ 9223372036854775807) : opBin .mul (.int .i64 (a : Int)) (.int .i64 2) = some (.int .i64 ((a * 2 : Nat) : Int)) := i_mul (b := 2) h
theorem i_mul4 (h : a * 4 ≤ 9223372036854775807) : opBin .mul (.int .i64 (a : Int)) (.int .i64 4) = some (.int .i64 ((a * 4 : Nat) : Int)) := i_mul (b := 4) h
theorem i_mul8 (h : a * 8 ≤ 9223372036854775807) : opBin .mul (.int .i64 (a : Int)) (.int .i64 8) = some (.int .i64 ((a * 8 : Nat) : Int)) := i_mul (b := 8) h
theorem i_lmul2 (h : 2 * a ≤ 9223372036854775807) : opBin .mul (.int .i64 2) (.int .i64 (a : Int)) = some (.int .i64 ((2 * a : Nat) : Int)) := i_mul (a := 2) h
theorem i_lmul4 (h : 4 * a ≤ 9223372036854775807) : opBin .mul (.int .i64 4) (.int .i64 (a : Int)) = some (.int .i64 ((4 * a : Nat) : Int)) := i_mul (a := 4) h
theorem i_lmul8 (h : 8 * a ≤ 9223372036854775807) : opBin .mul (.int .i64 8) (.int .i64 (a : Int)) = some (.int .i64 ((8 * a : Nat) : Int)) := i_mul (a := 8) h
theorem i_lmul32 (h : 32 * a ≤ 9223372036854775807) : opBin .mul (.int .i64 32) (.int .i64 (a : Int)) = some (.int .i64 ((32 * a : Nat) : Int)) := i_mul (a := 32) h
theorem i_quo2 (h2 : a ≤ 9223372036854775807) : opBin .quo (.int .i64 (a : Int)) (.int .i64 2) = some (.int .i64 ((a / 2 : Nat) : Int)) := int_quo (x := (a : Int)) (y := (2 : Int)) (by omega) (by omega) (by omega)
theorem i_rem2 : opBin .rem (.int .i64 (a : Int)) (.int .i64 2) = some (.int .i64 ((a % 2 : Nat) : Int)) := int_rem (x := (a : Int)) (y := (2 : Int)) (by omega) (by omega)
theorem i_quo4 (h2 : a ≤ 9223372036854775807) : opBin .quo (.int .i64 (a : Int)) (.int .i64 4) = some (.int .i64 ((a / 4 : Nat) : Int)) := int_quo (x := (a : Int)) (y := (4 : Int)) (by omega) (by omega) (by omega)
theorem i_rem4 : opBin .rem (.int .i64 (a : Int)) (.int .i64 4) = some (.int .i64 ((a % 4 : Nat) : Int)) := int_rem (x := (a : Int)) (y := (4 : Int)) (by omega) (by omega)
theorem i_quo8 (h2 : a ≤ 9223372036854775807) : opBin .quo (.int .i64 (a : Int)) (.int .i64 8) = some (.int .i64 ((a / 8 : Nat) : Int)) := int_quo (x := (a : Int)) (y := (8 : Int)) (by omega) (by omega) (by omega)
theorem i_rem8 : opBin .rem (.int .i64 (a : Int)) (.int .i64 8) = some (.int .i64 ((a % 8 : Nat) : Int)) := int_rem (x := (a : Int)) (y := (8 : Int)) (by omega) (by omega)
theorem i_quo32 (h2 : a ≤ 9223372036854775807) : opBin .quo (.int .i64 (a : Int)) (.int .i64 32) = some (.int .i64 ((a / 32 : Nat) : Int)) := int_quo (x := (a : Int)) (y := (32 : Int)) (by omega) (by omega) (by omega)
theorem i_rem32 : opBin .rem (.int .i64 (a : Int)) (.int .i64 32) = some (.int .i64 ((a % 32 : Nat) : Int)) := int_rem (x := (a : Int)) (y := (32 : Int)) (by omega) (by omega)

theorem v_add (h : a + b < 18446744073709551616) : opBin .add (nat .u64 a) (nat .u64 b) = some (nat .u64 (a + b)) := by rw [u_add, Nat.mod_eq_of_lt h]
theorem v_mul (h : a * b < 18446744073709551616) : opBin .mul (nat .u64 a) (nat .u64 b) = some (nat .u64 (a * b)) := by rw [u_mul, Nat.mod_eq_of_lt h]
theorem v_sub (h : b ≤ a) (h2 : a < 18446744073709551616) : opBin .sub (nat .u64 a) (nat .u64 b) = some (nat .u64 (a - b)) := by
  rw [u_sub (by omega)]; congr 2; omega
theorem v_conv {k : IntKind} (h : a < 18446744073709551616) : opConv .u64 (nat k a) = some (nat .u64 a) := by rw [conv_uu, Nat.mod_eq_of_lt h]
theorem i_conv (h : a < 18446744073709551616) : opConv .u64 (.int .i64 (a : Int)) = some (nat .u64 a) := v_conv (k := .i64) h

theorem nsidx_rs {sz id off n : Nat} {k : IntKind} (h : i < n) : opSidx sz (.rs sz id off n) (.int k (i : Int)) = some (.rp id (off + i * sz)) := sidx_rs (by omega) (by omega)
theorem nsidx_is {sz n : Nat} {f : Bool} {cs : List AV} {k : IntKind} (h : i < n) : opSidx sz (.is n f cs) (.int k (i : Int)) = some (.ip (cs.drop (i * sz))) := sidx_is (by omega) (by omega)
theorem nsidx_nats {l : List Nat} {k : IntKind} (h : i < l.length) : opSidx 1 (nats l) (.int k (i : Int)) = some (.ip ((nl .u64 l).drop i)) := sidx_nats (by omega) (by omega)
theorem nstri {l : List Nat} {k : IntKind} (hb : ∀ x ∈ l, x < 256) (h : i < l.length) : opStri (str l) (.int k (i : Int)) = some (nat .u8 (l.getD i 0)) := stri_str hb (by omega) (by omega)

theorem ld_rp {h : Heap} {ag : Option Nat} {id off : Nat} : opLoad h ag (.rp id off) = (live h id).bind fun cs => readCells (cs.drop off) ag := Eq.trans rfl rfl

def stc (h : Heap) (n id off : Nat) (v : AV) (cs : List AV) : Option Heap := if v.cells.length = n ∧ v.cells.all AV.cell ∧ off + n ≤ cs.length then some (h.set id (some (splice cs off v.cells))) else none
theorem st_rp {h : Heap} {n id off : Nat} {v : AV} : opStore h n (.rp id off) v = (live h id).bind (stc h n id off v) := Eq.trans rfl rfl
theorem stc_nl {h : Heap} {k : IntKind} {l : List Nat} {id off : Nat} (ho : off < l.length) : stc h 1 id off (nat k a) (nl k l) = some (h.set id (some (nl k (l.set off a)))) := by
  have e : (nat k a).cells = [nat k a] := rfl
  simp only [stc, e, splice_nl ho, nl_len]
  rw [if_pos]
  refine ⟨rfl, by simp [AV.cell, nat], by omega⟩

theorem live_0 {x : Option (List AV)} {l : Heap} : live (x :: l) 0 = x := by cases x <;> rfl
theorem live_1 {x y : Option (List AV)} {l : Heap} : live (x :: y :: l) 1 = y := by cases y <;> rfl
theorem live_2 {x y z : Option (List AV)} {l : Heap} : live (x :: y :: z :: l) 2 = z := by cases z <;> rfl

theorem nmks {h : Heap} {k : IntKind} {n : Nat} (h1 : n ≤ c) (h3 : c ≤ 4294967296) : opMks h 1 [nat k 0] (.int .i64 (n : Int)) (.int .i64 (c : Int)) = some (.rs 1 h.length 0 n, h ++ [some (nl k (List.replicate n 0))]) := by
  rw [mks_nl (by omega) (by omega) (by omega), Int.toNat_natCast]
theorem nmks0 {h : Heap} {k : IntKind} (h3 : c ≤ 4294967296) : opMks h 1 [nat k 0] (.int .i64 0) (.int .i64 (c : Int)) = some (.rs 1 h.length 0 0, h ++ [some (nl k (List.replicate 0 0))]) := nmks (n := 0) (by omega) h3
theorem nmm : opMm true [.int .i64 (a : Int), .int .i64 (b : Int)] = some (.int .i64 ((max a b : Nat) : Int)) := by
  have : opMm true [.int .i64 (a : Int), .int .i64 (b : Int)] = some (.int .i64 (if (b : Int) > a then (b : Int) else a)) := rfl
  rw [this]
  congr 2
  split <;> omega
end

theorem h_app {x : Option (List AV)} {l : Heap} {y : Heap} : (x :: l) ++ y = x :: (l ++ y) := Eq.trans rfl rfl
theorem h_set0 {x y : Option (List AV)} {l : Heap} : (x :: l).set 0 y = y :: l := Eq.trans rfl rfl
theorem h_set1 {x y z : Option (List AV)} {l : Heap} : (x :: z :: l).set 1 y = x :: y :: l := Eq.trans rfl rfl


@[congr] theorem bind_cg {α β : Type} {x y : Option α} {f : α → Option β} (h : x = y) : x.bind f = y.bind f := by rw [h]
section
variable {R : Type} {A B : Option R} {x y : AV}
@[congr] theorem condK_cg (h : x = y) : condK x A B = condK y A B := by rw [h]
@[congr] theorem guardK_cg {b : Bool} (h : x = y) : guardK x b A B = guardK y b A B := by rw [h]
theorem cond_y {p : Prop} [Decidable p] (h : p) : condK (.bool (decide p)) A B = A := by rw [cond_d, if_pos h]
theorem cond_n {p : Prop} [Decidable p] (h : ¬ p) : condK (.bool (decide p)) A B = B := by rw [cond_d, if_neg h]
theorem guard_ty {p : Prop} [Decidable p] (h : p) : guardK (.bool (decide p)) true A B = A := by rw [guard_dt, if_pos h]
theorem guard_tn {p : Prop} [Decidable p] (h : ¬ p) : guardK (.bool (decide p)) true A B = B := by rw [guard_dt, if_neg h]
theorem guard_fy {p : Prop} [Decidable p] (h : p) : guardK (.bool (decide p)) false A B = B := by rw [guard_df, if_pos h]
theorem guard_fn {p : Prop} [Decidable p] (h : ¬ p) : guardK (.bool (decide p)) false A B = A := by rw [guard_df, if_neg h]
theorem guard_tt : guardK (.bool true) true A B = A := Eq.trans rfl rfl
theorem guard_tf : guardK (.bool false) true A B = B := Eq.trans rfl rfl
theorem guard_ft : guardK (.bool true) false A B = B := Eq.trans rfl rfl
theorem guard_ff : guardK (.bool false) false A B = A := Eq.trans rfl rfl
end
set_option linter.defProp false in
def Wd := And.intro @len_is <| And.intro @len_rs <| And.intro @len_nats <| And.intro @len_str <| And.intro @bind_s <| And.intro @i_add <| And.intro @i_sub <| And.intro @i_mul <| And.intro @i_add1 <| And.intro @i_add2 <| And.intro @i_add3 <| And.intro @i_add8 <| And.intro @i_sub1 <| And.intro @i_sub2 <| And.intro @i_mul2 <| And.intro @i_mul4 <| And.intro @i_mul8 <| And.intro @i_lmul2 <| And.intro @i_lmul4 <| And.intro @i_lmul8 <| And.intro @i_lmul32 <| And.intro @i_quo2 <| And.intro @i_rem2 <| And.intro @i_quo4 <| And.intro @i_rem4 <| And.intro @i_quo8 <| And.intro @i_rem8 <| And.intro @i_quo32 <| And.intro @i_rem32 <| And.intro @bin_lss <| And.intro @bin_leq <| And.intro @bin_gtr <| And.intro @bin_geq <| And.intro @bin_eql <| And.intro @bin_neq <| And.intro @nat_lss <| And.intro @nat_leq <| And.intro @nat_gtr <| And.intro @nat_geq <| And.intro @nat_eql <| And.intro @nat_neq <| And.intro @v_add <| And.intro @v_sub <| And.intro @v_mul <| And.intro @v_conv <| And.intro @i_conv <| And.intro @u_quo <| And.intro @u_rem <| And.intro @u_shr <| And.intro @u_shl <| And.intro @nsidx_rs <| And.intro @nsidx_is <| And.intro @nsidx_nats <| And.intro @nstri <| And.intro @ld_rp <| And.intro @load_ip <| And.intro @rd_nl <| And.intro @st_rp <| And.intro @stc_nl <| And.intro @live_0 <| And.intro @live_1 <| And.intro @live_2 <| And.intro @nmks <| And.intro @nmks0 <| And.intro @nmm <| And.intro @nl_len <| And.intro @h_app <| And.intro @h_set0 <| And.intro @h_set1 <| And.intro @cond_y <| And.intro @cond_n <| And.intro @cond_t <| And.intro @cond_f <| And.intro @guard_ty <| And.intro @guard_tn <| And.intro @guard_fy <| And.intro @guard_fn <| And.intro @guard_tt <| And.intro @guard_tf <| And.intro @guard_ft <| And.intro @guard_ff <| And.intro @ext0 <| And.intro @ext1 <| And.intro @ext2 <| And.intro @frz_nat <| And.intro @frz_bool <| And.intro @frz_int <| And.intro @bslc_0 <| And.intro @bslc_1 <| And.intro @bslc_2 <| And.intro @Int.toNat_natCast <| And.intro @List.nil_append.{0} <| And.intro @List.length_nil.{0} <| And.intro @List.length_cons.{0} <| And.intro @Nat.zero_add <| And.intro @Nat.mul_one <| And.intro @List.length_set.{0} <| And.intro @ne_eq.{1} <| And.intro @eq_self.{1} <| And.intro @not_true_eq_false <| And.intro @not_false_eq_true <| And.intro @decide_true <| And.intro @decide_false <| @Decidable.not_not
end Go.Proofs.YtiblnpnfaadmcaaGreat.Am
/- More on digits. No program in sight. -/
set_option linter.unusedVariables false
set_option linter.unusedSimpArgs false
namespace Go.Proofs.YtiblnpnfaadmcaaGreat.Am

variable {B : Nat}

theorem Dg.l32 {l : List Nat} (h : Dg 4294967296 l) (i : Nat) : l.getD i 0 < 4294967296 := h.getD (by decide)
theorem Dg.l64 {l : List Nat} (h : Dg 18446744073709551616 l) (i : Nat) : l.getD i 0 < 18446744073709551616 := h.getD (by decide)

theorem getD_val {l : List Nat} (h : Dg B l) (j : Nat) : l.getD j 0 = val B l / B ^ j % B := by
  induction l generalizing j with
  | nil => simp [val]
  | cons x l ih =>
    have hx := h.head
    cases j with
    | zero => rw [val_cons, Nat.pow_zero, Nat.div_one, Nat.add_mul_mod_self_left, Nat.mod_eq_of_lt hx]; rfl
    | succ j =>
      have e : (x :: l).getD (j + 1) 0 = l.getD j 0 := rfl
      rw [e, ih h.tail j, val_cons, Nat.pow_succ, Nat.mul_comm (B ^ j), ← Nat.div_div_eq_div_mul, Nat.add_mul_div_left _ _ (by omega), Nat.div_eq_of_lt hx, Nat.zero_add]

theorem val_set {l : List Nat} {j a b : Nat} (hj : j < l.length) (ha : a = l.getD j 0 + b) : val B (l.set j a) = val B l + b * B ^ j := by
  induction l generalizing j with
  | nil => simp at hj
  | cons x l ih =>
    cases j with
    | zero =>
      have : a = x + b := ha
      rw [List.set_cons_zero, val_cons, val_cons, this, Nat.pow_zero]; omega
    | succ j =>
      rw [List.set_cons_succ, val_cons, val_cons, ih (by simpa using hj) ha, Nat.mul_add, Nat.pow_succ]
      have e2 : B * (b * B ^ j) = b * (B ^ j * B) := by rw [Nat.mul_left_comm, Nat.mul_comm B]
      omega

theorem dig_small (hB : 2 ≤ B) {x : Nat} (hx : x < B) (h0 : x ≠ 0) : dig B x = [x] := by
  rw [dig_pos hB h0, Nat.mod_eq_of_lt hx, Nat.div_eq_of_lt hx, dig_zero]

theorem dig_drop (hB : 2 ≤ B) (n i : Nat) : (dig B n).drop i = dig B (n / B ^ i) := by
  induction i generalizing n with
  | zero => simp
  | succ i ih =>
    by_cases h : n = 0
    · subst h; simp [dig_zero]
    · rw [dig_pos hB h, List.drop_succ_cons, ih, Nat.pow_succ, Nat.mul_comm (B ^ i), Nat.div_div_eq_div_mul]
theorem dig_getD (hB : 2 ≤ B) (n i : Nat) : (dig B n).getD i 0 = n / B ^ i % B := by
  rw [getD_val (dig_Dg hB n), val_dig hB]
theorem dig_len_gt (hB : 2 ≤ B) {n i : Nat} : i < (dig B n).length ↔ B ^ i ≤ n := by
  constructor
  · intro h
    rcases Nat.lt_or_ge n (B ^ i) with h1 | h1
    · have := dig_len_lt hB h1; omega
    · exact h1
  · intro h
    rcases Nat.lt_or_ge i (dig B n).length with h1 | h1
    · exact h1
    · have h2 := lt_of_dig_len hB (n := n)
      have h3 : B ^ (dig B n).length ≤ B ^ i := Nat.pow_le_pow_right (by omega) h1
      omega

def nb (n : Nat) : List Nat := (dig 256 n).reverse
theorem nb_zero : nb 0 = [] := by unfold nb; rw [dig_zero]; rfl
theorem nb_lt (n : Nat) : ∀ x ∈ nb n, x < 256 := fun x hx => dig_Dg (by decide) n x (List.mem_reverse.1 hx)
theorem nb_val (n : Nat) : val 256 (nb n).reverse = n := by unfold nb; rw [List.reverse_reverse, val_dig (by decide)]
theorem nb_inj {a b : Nat} (h : nb a = nb b) : a = b := by rw [← nb_val a, h, nb_val]
theorem nb_len (n : Nat) : (nb n).length = (dig 256 n).length := by simp [nb]
theorem nb_eq_nil {n : Nat} : nb n = [] ↔ n = 0 := by
  constructor
  · intro h
    have := nb_val n
    rw [h] at this
    exact this.symm
  · rintro rfl; exact nb_zero
theorem nb_one : nb 1 = [1] := by unfold nb; rw [dig_small (by decide) (by decide) (by decide)]; rfl

theorem nb_of {l : List Nat} (hl : ∀ x ∈ l, x < 256) (h0 : l.getD 0 1 ≠ 0) : nb (val 256 l.reverse) = l := by
  have hd : Dg 256 l.reverse := fun x hx => hl x (List.mem_reverse.1 hx)
  have ht : tl l.reverse = l.reverse.length := by
    cases l with
    | nil => rfl
    | cons x l =>
      rw [List.reverse_cons, tl_snoc, if_neg (by simpa using h0)]
      simp
  unfold nb
  rw [← eq_dig (by decide) hd ht, List.reverse_reverse]
theorem nb_head {n : Nat} (h : n ≠ 0) : (nb n).getD 0 0 ≠ 0 := by
  have h1 := dig_top (B := 256) (by decide) h
  have h2 : (dig 256 n).length ≠ 0 := fun e => h ((dig_len_eq (by decide)).1 e)
  unfold nb
  rw [List.getD_eq_getElem?_getD, List.getElem?_reverse (by omega)]
  rw [List.getD_eq_getElem?_getD] at h1
  simpa using h1
end Go.Proofs.YtiblnpnfaadmcaaGreat.Am
/- The document's answer for layer 1: trimming, order, sums, differences, products. -/
set_option linter.unusedVariables false
set_option linter.unusedSimpArgs false
namespace Go.Proofs.YtiblnpnfaadmcaaGreat.Am
open Go

abbrev B32 : Nat := 4294967296
theorem b32_two : 2 ≤ B32 := by decide


def AV.cut2 : AV → Nat → AV
  | .is n f cs, m => .is m (f && m == n) (cs.take m)
  | .rs sz id off _, m => .rs sz id off m
  | x, _ => x
theorem Row.cut2 {h : Heap} {k : IntKind} {x : AV} {l : List Nat} (hr : Row h k x l) {m : Nat} (hm : m ≤ l.length) : Row h k (x.cut2 m) (l.take m) := by
  have e : (l.take m).length = m := by simp; omega
  cases hr with
  | is f l =>
    have := Row.is (h := h) (k := k) (f && m == l.length) (l.take m)
    rw [e] at this
    simpa [AV.cut2, nl_take] using this
  | rs id off cs l hl hb hc =>
    have := Row.rs (h := h) (k := k) id off cs (l.take m) hl (by omega) (by
      rw [e, ← nl_take, ← hc, List.take_take, Nat.min_eq_left hm])
    rw [e] at this
    exact this
theorem Row.slc0 {h : Heap} {k k2 : IntKind} {x : AV} {l : List Nat} (hr : Row h k x l) {b : Int} (h1 : 0 ≤ b) (h2 : b ≤ l.length) : opSlc 1 x none (some (.int k2 b)) none = some (x.cut2 b.toNat) := by
  cases hr with
  | is f l => rw [slc_is0 h1 h2, Nat.mul_one]; rfl
  | rs id off cs l hl hb hc => rw [slc_rs0 h1 h2]; rfl
theorem Row.rdn {h : Heap} {k k' : IntKind} {x : AV} {l : List Nat} (hr : Row h k x l) {i : Nat} (h2 : i < l.length) {R : Type} (F : AV → Option R) :
    ((opSidx 1 x (.int k' (i : Int))).bind fun a => (opLoad h none a).bind F) = F (nat k (l.getD i 0)) := hr.rd (by omega) (by omega) F

theorem trim_l0 {h : Heap} {x : AV} {l : List Nat} (hr : Row h .u64 x l) (hl : l.length ≤ 4611686018427387904) : ∀ k, k ≤ l.length → zf2d.l0 x (.int .i64 (k : Nat)) h = some (x.cut2 (tl (l.take k)), h) := by
  intro k
  induction k with
  | zero =>
    intro hk
    rw [zf2d.l0_eq]
    simp only [bin_gtr, bind_s, guard_dt]
    rw [if_neg (by omega), hr.slc0 (by omega) (by omega)]
    rfl
  | succ k ih =>
    intro hk
    rw [zf2d.l0_eq]
    simp (disch := omega) only [Wd]
    rw [hr.rdn (by omega)]
    simp only [nat_eql, bind_s, cond_d, Nat.add_sub_cancel]
    rw [tl_take l k (by omega)]
    split
    · exact ih (by omega)
    · rw [hr.slc0 (by omega) (by omega)]
      rfl
theorem trim_run {h : Heap} {x : AV} {l : List Nat} (hr : Row h .u64 x l) (hl : l.length ≤ 4611686018427387904) : callW gp fid.zf2d [x] h = some (x.cut2 (tl l), h) := by
  rw [zf2d.eq]
  unfold zf2d.f
  rw [hr.len]
  simp only [bind_s]
  rw [trim_l0 hr hl _ (Nat.le_refl _), List.take_length]
theorem trim_row {h : Heap} {x : AV} {l : List Nat} {B : Nat} (hB : 2 ≤ B) (hr : Row h .u64 x l) (hd : Dg B l) : Row h .u64 (x.cut2 (tl l)) (dig B (val B l)) := by
  rw [← take_tl hB hd]
  exact hr.cut2 (tl_le l)
theorem trim_fz {h : Heap} {x : AV} {l : List Nat} {B : Nat} (hB : 2 ≤ B) (hr : Row h .u64 x l) (hl : l.length ≤ 4611686018427387904) (hd : Dg B l) : ((callW gp fid.zf2d [x] h).bind fun r => freeze r.2 r.1) = some (nats (dig B (val B l))) := by
  rw [trim_run hr hl, bind_s]
  exact (trim_row hB hr hd).frz
theorem own_row {h : Heap} {k : IntKind} {id n : Nat} {l : List Nat} (hl : live h id = some (nl k l)) (hn : l.length = n) : Row h k (.rs 1 id 0 n) l := by rw [← hn]; exact Row.own hl

def isl (f : Bool) (l : List Nat) : AV := .is l.length f (nl .u64 l)
theorem isl_row {h : Heap} {f : Bool} {l : List Nat} : Row h .u64 (isl f l) l := .is f l
theorem isl_fz {h : Heap} {f : Bool} {l : List Nat} : freeze h (isl f l) = some (nats l) := isl_row.frz
theorem isl_noRef {f : Bool} {l : List Nat} : noRef (isl f l) = true := imm_all (imm_nl .u64 l) (n := 11) (by omega)
theorem byVal_isl {h : Heap} {g : Nat} {f : Bool} {l : List Nat} {r : Option AV} {bs : List AV} (ha : ∀ a ∈ bs, Imm 12 a) (hc : cv gp g (nats l :: bs) = r) : byVal (callW gp) h g (isl f l :: bs) = r := by
  rw [byVal_cv]
  have h1 : (isl f l :: bs).mapM (freeze h) = some (nats l :: bs) := by
    have := imm_mapM ha (Nat.le_refl _) h
    change bs.mapM (freeze h) = some bs at this
    rw [List.mapM_cons, isl_fz, this]; rfl
  have h2 : (isl f l :: bs).all noRef = true := by
    rw [List.all_cons, isl_noRef, Bool.true_and]
    exact imm_all ha (Nat.le_refl _)
  rw [h1]
  simp only [Option.bind_some, hc, h2, Bool.true_or, if_true]
  cases r <;> rfl






end Go.Proofs.YtiblnpnfaadmcaaGreat.Am
/- The document's answer for layer 1: quotients; limbs and digits, strings and digits. -/
set_option linter.unusedVariables false
set_option linter.unusedSimpArgs false
namespace Go.Proofs.YtiblnpnfaadmcaaGreat.Am
open Go



theorem split_l0 {a : List Nat} (ha : Dg B64 a) (hn : a.length ≤ 1000000) : ∀ (k i : Nat) (h : Heap) (id : Nat) (cs : List Nat), i + k = a.length → live h id = some (nl .u64 cs) → cs.length = 2 * i → Dg B32 cs → val B32 cs = val B64 (a.take i) →
    zf24.l0 (nats a) (.rs 1 id 0 cs.length) (.int .i64 (i : Nat)) h = some (nats (dig B32 (val B64 a))) := by
  intro k
  induction k with
  | zero =>
    intro i h id cs hik hl hcs hd hv
    rw [zf24.l0_eq]
    simp (disch := omega) only [Wd]
    rw [trim_fz b32_two (Row.own hl) (by omega) hd, hv, List.take_of_length_le (by omega)]
  | succ k ih =>
    intro i h id cs hik hl hcs hd hv
    rw [zf24.l0_eq]
    have hx := ha.l64 i
    simp (disch := omega) only [Wd]
    have hr : Row h .u64 (.is 2 true (nl .u64 [a.getD i 0 % 4294967296, a.getD i 0 / 4294967296])) [a.getD i 0 % 4294967296, a.getD i 0 / 4294967296] := .is true [a.getD i 0 % 4294967296, a.getD i 0 / 4294967296]
    rw [app_row hl hr (by simp) (by simp; omega)]
    simp (disch := omega) only [Wd]
    have e : cs.length + 2 = (cs ++ [a.getD i 0 % 4294967296, a.getD i 0 / 4294967296]).length := by simp
    simp only [List.length_cons, List.length_nil, Nat.zero_add, Nat.reduceAdd]
    rw [e]
    refine ih (i + 1) _ _ _ (by omega) (live_app_self' (by simp)) (by simp; omega) (hd.append (.cons (Nat.mod_lt _ (by decide)) (.cons (show _ < 4294967296 by omega) .nil))) ?_
    rw [val_append, hv, val_take_succ', hcs, Nat.pow_mul]
    congr 1
    simp only [val_cons, val_nil]
    rw [show B32 ^ 2 = B64 by decide]
    congr 1
    have := Nat.div_add_mod (a.getD i 0) 4294967296
    show a.getD i 0 % 4294967296 + 4294967296 * (a.getD i 0 / 4294967296 + 4294967296 * 0) = a.getD i 0
    omega
theorem split_cv (a : List Nat) (ha : Dg B64 a) (hn : a.length ≤ 1000000) : cv gp fid.zf24 [nats a] = some (nats (dig B32 (val B64 a))) := by
  rw [zf24.eq]
  unfold zf24.f
  simp (disch := omega) only [Wd]
  exact split_l0 ha hn a.length 0 _ 0 [] (by omega) live_one rfl .nil rfl

def Grown (h : Heap) (k : IntKind) (x : AV) (l : List Nat) : Prop := (l = [] ∧ x = .is 0 true []) ∨ ∃ id, x = .rs 1 id 0 l.length ∧ live h id = some (nl k l)
theorem Grown.row {h : Heap} {k : IntKind} {x : AV} {l : List Nat} (g : Grown h k x l) : Row h k x l := by
  rcases g with ⟨rfl, rfl⟩ | ⟨id, rfl, hl⟩
  · exact Row.nil h k true
  · exact Row.own hl
theorem Grown.app {h : Heap} {k : IntKind} {x y : AV} {l m : List Nat} (g : Grown h k x l) (hy : Row h k y m) (hm : m ≠ []) (hs : l.length + m.length ≤ 4294967296) : ∃ x' h', opApp h 1 x y = some (x', h') ∧ Grown h' k x' (l ++ m) := by
  rcases g with ⟨rfl, rfl⟩ | ⟨id, rfl, hl⟩
  · exact ⟨_, _, app_nil hy hm (by simpa using hs), .inr ⟨h.length, rfl, live_app_self⟩⟩
  · exact ⟨_, _, app_row hl hy hm hs, .inr ⟨h.length, by rw [List.length_append], live_app_self' (by simp)⟩⟩


theorem digit_shift {x p i : Nat} (w : Nat) (B : Nat) (hB : B = 256 ^ w) (hw : 0 < w) : x * 2 ^ (i % w * 8) * B ^ (i / w) = x * 256 ^ i := by
  rw [hB, Nat.mul_assoc, Nat.mul_comm (i % w) 8, Nat.pow_mul 2 8, ← Nat.pow_mul 256, show (2 : Nat) ^ 8 = 256 by decide, ← Nat.pow_add, Nat.add_comm, Nat.div_add_mod]

theorem byte_room {cs : List Nat} {B w i V : Nat} (hB : B = 256 ^ w) (hw : 0 < w) (hd : Dg B cs) (hv : val B cs = V) (hV : V < 256 ^ i) : cs.getD (i / w) 0 < 2 ^ (i % w * 8) := by
  rw [getD_val hd, hv]
  have : V / B ^ (i / w) < 256 ^ (i % w) := by
    rw [Nat.div_lt_iff_lt_mul (Nat.pow_pos (by rw [hB]; exact Nat.pow_pos (by omega))), hB, ← Nat.pow_mul, ← Nat.pow_add, Nat.add_comm, Nat.div_add_mod]
    exact hV
  have e : (2 : Nat) ^ (i % w * 8) = 256 ^ (i % w) := by rw [Nat.mul_comm, Nat.pow_mul]
  rw [e]
  exact Nat.lt_of_le_of_lt (Nat.mod_le _ _) this

theorem rev_getD {l : List Nat} {i : Nat} (h : i < l.length) : l.getD (l.length - 1 - i) 0 = l.reverse.getD i 0 := by
  rw [List.getD_eq_getElem?_getD, List.getD_eq_getElem?_getD, List.getElem?_reverse h]

theorem byte_fits {c b r w : Nat} (hb : b < 256) (hc : c < 2 ^ (r * 8)) (hr : r < w) : c + b * 2 ^ (r * 8) < 256 ^ w := by
  have e : (2 : Nat) ^ (r * 8) = 256 ^ r := by rw [Nat.mul_comm, Nat.pow_mul]
  rw [e] at hc ⊢
  have h1 : 256 ^ (r + 1) ≤ 256 ^ w := Nat.pow_le_pow_right (by omega) hr
  rw [Nat.pow_succ] at h1
  have h2 : b * 256 ^ r ≤ 255 * 256 ^ r := Nat.mul_le_mul_right _ (by omega)
  omega

end Go.Proofs.YtiblnpnfaadmcaaGreat.Am
/- Strings and limbs, strings and digits. -/
set_option linter.unusedVariables false
set_option linter.unusedSimpArgs false
namespace Go.Proofs.YtiblnpnfaadmcaaGreat.Am
open Go

theorem len_ceil {x y w : Nat} (hw : 0 < w) (h : ∀ i, i < x ↔ w * i < y) : x = (y + (w - 1)) / w := by
  have h1 : ∀ i, i < x ↔ i < (y + (w - 1)) / w := fun i => by
    rw [h i, Nat.lt_iff_add_one_le, Nat.lt_iff_add_one_le, Nat.le_div_iff_mul_le hw, Nat.add_mul, Nat.one_mul, Nat.mul_comm i]
    omega
  rcases Nat.lt_trichotomy x ((y + (w - 1)) / w) with h2 | h2 | h2
  · exact absurd ((h1 x).2 h2) (by omega)
  · exact h2
  · exact absurd ((h1 _).1 h2) (by omega)
theorem dig_len_pow {B C w : Nat} (hB : 2 ≤ B) (hw : 0 < w) (hC : C = B ^ w) (n : Nat) : (dig C n).length = ((dig B n).length + (w - 1)) / w := by
  have hC2 : 2 ≤ C := by
    rw [hC]
    exact Nat.le_trans hB (Nat.le_trans (Nat.le_of_eq (Nat.pow_one B).symm) (Nat.pow_le_pow_right (n := B) (by omega) hw))
  refine len_ceil hw fun i => ?_
  rw [dig_len_gt hC2, dig_len_gt hB, hC, ← Nat.pow_mul]

theorem rev_set {l : List Nat} {i a : Nat} (h : i < l.length) : l.reverse.set (l.length - 1 - i) a = (l.set i a).reverse := by
  apply List.ext_getElem?
  intro j
  rw [List.getElem?_set]
  rcases Nat.lt_or_ge j l.length with hj | hj
  · rw [List.getElem?_reverse (by simpa using hj), List.getElem?_reverse (by simpa using hj), List.getElem?_set, List.length_set, List.length_reverse]
    by_cases e : l.length - 1 - i = j
    · rw [if_pos e, if_pos (by omega), if_pos (by omega), if_pos (by omega)]
    · rw [if_neg e, if_neg (by omega)]
  · rw [List.getElem?_eq_none (by simpa using hj), List.getElem?_eq_none (by simpa using hj), if_neg (by omega)]

theorem mod_succ (n i : Nat) : n % 256 ^ (i + 1) = n % 256 ^ i + 256 ^ i * (n / 256 ^ i % 256) := Nat.mod_pow_succ

theorem byte_at {n i w B : Nat} (hB : B = 256 ^ w) (hw : 0 < w) : n / B ^ (i / w) % B / 2 ^ (i % w * 8) % 256 = n / 256 ^ i % 256 := by
  have hi : i % w < w := Nat.mod_lt _ hw
  have e1 : 256 ^ i = B ^ (i / w) * 256 ^ (i % w) := by rw [hB, ← Nat.pow_mul, ← Nat.pow_add, Nat.div_add_mod]
  rw [e1, ← Nat.div_div_eq_div_mul]
  generalize n / B ^ (i / w) = x
  have e2 : (2 : Nat) ^ (i % w * 8) = 256 ^ (i % w) := by rw [Nat.mul_comm, Nat.pow_mul]
  rw [e2]
  generalize i % w = k at hi
  have e3 : B = 256 ^ k * (256 * 256 ^ (w - 1 - k)) := by
    rw [hB, ← Nat.pow_succ', ← Nat.pow_add]; congr 1; omega
  rw [e3, Nat.mod_mul_right_div_self]
  exact Nat.mod_mul_right_mod _ _ _

theorem i_shr {a n : Nat} (ha : a < 18446744073709551616) : opBin .shr (nat .u64 a) (.int .i64 (n : Int)) = some (nat .u64 (a / 2 ^ n)) := shr_core ha
theorem i_shl {a n : Nat} : opBin .shl (nat .u64 a) (.int .i64 (n : Int)) = some (nat .u64 ((a * 2 ^ n) % 18446744073709551616)) := shl_core


theorem of_l0 {l : List Nat} (hl : ∀ x ∈ l, x < 256) (hn : l.length ≤ 32000) (h0 : l.getD 0 1 ≠ 0) : ∀ (k i : Nat) (cs : List Nat), i + k = l.length → cs.length = (l.length + 7) / 8 → Dg B64 cs → val B64 cs = val 256 (l.reverse.take i) →
    limb_Of.l0 (str l) (.rs 1 0 0 ((l.length + 7) / 8)) (.int .i64 l.length) (.int .i64 (i : Nat)) [some (nl .u64 cs)] = some (.tup [nats (dig B64 (val 256 l.reverse)), .int .i64 0]) := by
  intro k
  induction k with
  | zero =>
    intro i cs hik hcs hd hv
    rw [limb_Of.l0_eq]
    simp (disch := omega) only [Wd]
    rw [List.take_of_length_le (by simp; omega)] at hv
    have hr : Row [some (nl .u64 cs)] .u64 (.rs 1 0 0 ((l.length + 7) / 8)) cs := own_row live_one hcs
    have hlen := dig_len_pow (B := 256) (C := B64) (w := 8) (by decide) (by omega) (by decide) (val 256 l.reverse)
    have hnb := nb_of hl h0
    have h8 : (dig 256 (val 256 l.reverse)).length = l.length := by rw [← nb_len, hnb]
    have e := eq_dig b64_two hd (by rw [tl_eq b64_two hd, hv, hlen, h8, hcs])
    rw [frz_ri hr, e, hv]
  | succ k ih =>
    intro i cs hik hcs hd hv
    rw [limb_Of.l0_eq]
    have hdr : Dg 256 l.reverse := fun x hx => hl x (List.mem_reverse.1 hx)
    have hb : l.reverse.getD i 0 < 256 := hdr.getD (by decide)
    have hV : val 256 (l.reverse.take i) < 256 ^ i := by
      have := val_lt (hdr.take i)
      rwa [List.length_take, Nat.min_eq_left (by simp; omega)] at this
    have hroom := byte_room (w := 8) (i := i) (by decide) (by omega) hd hv hV
    have hfit := byte_fits hb hroom (w := 8) (Nat.mod_lt _ (by omega))
    have e256 : (256 : Nat) ^ 8 = 18446744073709551616 := by decide
    rw [e256] at hfit
    have hidx : i / 8 < (l.length + 7) / 8 := by omega
    have hy := hd.l64 (i / 8)
    have hb2 : l.getD (l.length - 1 - i) 0 < 256 := by rw [rev_getD (by omega)]; exact hb
    simp (disch := first | omega | assumption) only [Wd, i_shl]
    rw [rev_getD (by omega), Nat.mul_comm 8]
    generalize hbb : l.reverse.getD i 0 = b at *
    have e1 : b * 2 ^ (i % 8 * 8) % 18446744073709551616 = b * 2 ^ (i % 8 * 8) := Nat.mod_eq_of_lt (by omega)
    rw [e1, u_or hy (by omega), Nat.or_comm, or_add hroom, Nat.add_comm]
    simp (disch := first | omega | assumption) only [Wd]
    refine ih (i + 1) _ (by omega) (by simpa using hcs) (hd.set hfit) ?_
    rw [val_set (b := b * 2 ^ (i % 8 * 8)) (by omega) rfl, hv, digit_shift (p := 0) 8 B64 (by decide) (by omega), val_take_succ', hbb, Nat.mul_comm]
theorem of_cv (l : List Nat) (hl : ∀ x ∈ l, x < 256) : cv gp fid.limb_Of [str l] = some (if 32000 < l.length then .tup [nats [], .int .i64 5] else if l.getD 0 1 = 0 then .tup [nats [], .int .i64 1] else .tup [nats (dig B64 (val 256 l.reverse)), .int .i64 0]) := by
  rw [limb_Of.eq]
  unfold limb_Of.f
  have j : l.length ≤ 32000 → l.getD 0 1 ≠ 0 → limb_Of.j0 (str l) = some (.tup [nats (dig B64 (val 256 l.reverse)), .int .i64 0]) := fun hn h0 => by
    unfold limb_Of.j0
    simp (disch := omega) only [Wd]
    exact of_l0 hl hn h0 l.length 0 _ (by omega) (by simp) (Dg.replicate _ (by decide)) (by simp [val, val_zeros])
  simp only [Wd, cond_d]
  by_cases h : 32000 < l.length
  · rw [if_pos (by omega), if_pos h]; exact frz_nil2
  · rw [if_neg (by omega), if_neg h, str_nil, str_neq hl (by simp)]
    simp only [bind_s, guard_dt]
    cases l with
    | nil => rw [if_neg (by simp), j (by simp) (by simp)]; rfl
    | cons x l =>
      rw [if_pos (by simp), stri_str hl (by omega) (by simp)]
      simp only [bind_s, nat_eql, cond_d]
      have e : ((x :: l).getD (Int.toNat 0) 0) = x := rfl
      have e2 : ((x :: l).getD 0 1) = x := rfl
      rw [e, e2]
      by_cases hx : x = 0
      · rw [if_pos hx, if_pos hx]; exact frz_nil2
      · rw [if_neg hx, if_neg hx]; exact j (by omega) (by rw [e2]; exact hx)
theorem of_nb (n : Nat) (hn : (nb n).length ≤ 32000) : cv gp fid.limb_Of [str (nb n)] = some (.tup [nats (dig B64 n), .int .i64 0]) := by
  rw [of_cv _ (nb_lt n), if_neg (by omega), if_neg, nb_val]
  by_cases h : n = 0
  · subst h; rw [nb_zero]; simp
  · have := nb_head h
    intro e
    apply this
    have hl : 0 < (nb n).length := by
      rcases Nat.eq_zero_or_pos (nb n).length with h2 | h2
      · exact absurd (nb_eq_nil.1 (List.length_eq_zero_iff.1 h2)) h
      · exact h2
    rw [List.getD_eq_getElem?_getD, List.getElem?_eq_getElem hl] at e ⊢
    exact e


theorem lnat_len {n : Nat} (h : n ≠ 0) : (dig 256 n).length + (64 - blen ((dig B64 n).getD ((dig B64 n).length - 1) 0)) / 8 = (dig B64 n).length * 8 := by
  have h1 : (dig B64 n).length ≠ 0 := fun e => h ((dig_len_eq b64_two).1 e)
  have h2 := dig_top b64_two h
  obtain ⟨m, hm⟩ : ∃ m, (dig B64 n).length = m + 1 := ⟨_, (Nat.succ_pred_eq_of_ne_zero h1).symm⟩
  have h3 := (dig_Dg b64_two n).getD (i := m) (by decide)
  rw [hm, Nat.add_sub_cancel] at h2 ⊢
  have etop : (dig B64 n).getD m 0 = n / 256 ^ (8 * m) := by
    have hs := dig_drop b64_two n m
    rw [drop_cons _ _ (by omega), List.drop_of_length_le (by omega)] at hs
    have e64 : B64 ^ m = 256 ^ (8 * m) := by rw [Nat.pow_mul]
    rw [e64] at hs
    have hv := val_dig b64_two (n / 256 ^ (8 * m))
    rw [← hs] at hv
    simpa [val] using hv
  rw [etop] at h2 h3 ⊢
  have hd := dig_drop (B := 256) (by decide) n (8 * m)
  have hdl := congrArg List.length hd
  rw [List.length_drop] at hdl
  have hpos : (dig 256 (n / 256 ^ (8 * m))).length ≠ 0 := fun e => h2 ((dig_len_eq (by decide)).1 e)
  generalize n / 256 ^ (8 * m) = top at *
  have hb : (dig 256 top).length = (blen top + (8 - 1)) / 8 := by
    refine len_ceil (by omega) fun i => ?_
    rw [dig_len_gt (by decide)]
    have e : (256 : Nat) ^ i = 2 ^ (8 * i) := by rw [Nat.pow_mul]
    rw [e]
    constructor
    · intro hle
      rcases Nat.lt_or_ge (8 * i) (blen top) with h4 | h4
      · exact h4
      · have h5 := blen_lt top
        have h6 : (2 : Nat) ^ blen top ≤ 2 ^ (8 * i) := Nat.pow_le_pow_right (by omega) h4
        omega
    · intro hlt
      have h5 := le_blen h2
      have h6 : (2 : Nat) ^ (8 * i) ≤ 2 ^ (blen top - 1) := Nat.pow_le_pow_right (by omega) (by omega)
      omega
  have hbl : blen top ≤ 64 := blen_le h3
  omega

theorem lnat_l0 {n : Nat} {x : AV} {id : Nat} (hn : (dig 256 n).length ≤ 32000) (hx : ∀ h', Row h' .u64 x (dig B64 n)) : ∀ (k i : Nat) (r : List Nat), i + k = (dig 256 n).length → r.length = (dig 256 n).length → Dg 256 r → val 256 (r.take i) = n % 256 ^ i →
    zf3i.l0 x (.int .i64 (dig 256 n).length) (.rs 1 0 0 (dig 256 n).length) (.int .i64 (dig 256 n).length) (.int .i64 (i : Nat)) [some (nl .u8 r.reverse)] = some (.tup [str (nb n), .int .i64 0]) := by
  intro k
  induction k with
  | zero =>
    intro i r hik hr hd hv
    rw [zf3i.l0_eq]
    simp (disch := omega) only [Wd]
    have hrow : Row [some (nl .u8 r.reverse)] .u8 (.rs 1 0 0 (dig 256 n).length) r.reverse := own_row live_one (by simpa using hr)
    rw [hrow.b2s]
    simp only [bind_s]
    rw [List.take_of_length_le (by omega), show i = (dig 256 n).length by omega, Nat.mod_eq_of_lt (lt_of_dig_len (by decide))] at hv
    have e : r = dig 256 n := val_inj hd (dig_Dg (by decide) n) hr (by rw [hv, val_dig (by decide)])
    rw [e]
    rfl
  | succ k ih =>
    intro i r hik hr hd hv
    rw [zf3i.l0_eq]
    have h64 := dig_len_pow (B := 256) (C := B64) (w := 8) (by decide) (by omega) (by decide) n
    have hidx : i / 8 < (dig B64 n).length := by omega
    have hrl : r.reverse.length = r.length := List.length_reverse
    have hb := (dig_Dg b64_two n).l64 (i / 8)
    simp (disch := first | omega | assumption) only [Wd]
    rw [(hx _).rdn hidx]
    simp (disch := first | omega | assumption) only [Wd, i_shr, conv_ub, List.length_reverse]
    rw [Nat.mul_comm 8, dig_getD b64_two, byte_at (w := 8) (by decide) (by omega)]
    rw [← hr, rev_set (by omega), hr]
    refine ih (i + 1) _ (by omega) (by simpa using hr) (hd.set (Nat.mod_lt _ (by omega))) ?_
    rw [set_take_succ _ _ _ (by omega), val_snoc, List.length_take, Nat.min_eq_left (by omega), hv, mod_succ]
theorem lnat_cv (l : List Nat) (hl : Dg B64 l) : cv gp fid.zf3i [nats l] = some (if 4000 < l.length then .tup [str [], .int .i64 5] else .tup [str (nb (val B64 l)), .int .i64 0]) := by
  rw [zf3i.eq]
  unfold zf3i.f
  have e1 : opBslc 1 1 [.is 0 true []] [(0, nats l)] = some (.is 1 true [nats l]) := bslc_rows1
  have e2 : byVal (callW gp) [] fid.zf3e [.is 1 true [nats l]] = some (.bool (decide (4000 < l.length))) := by
    refine byVal_nr (xs := [.is 1 false [nats l]]) ?_ (long1 l) ?_
    · have h1 : freeze [] (.is 1 true [nats l]) = some (.is 1 false [nats l]) := by
        show freezeN 12 [] (.is 1 true [nats l]) = _
        rw [fz_is, List.mapM_cons, (imm_nats (l := l) 11 (by omega)).2 []]; rfl
      exact mapM1 h1
    · have h2 : noRef (.is 1 true [nats l]) = true := imm_all (fun c hc => by rw [List.mem_singleton.1 hc]; exact imm_nats) (n := 11) (d := 2) (by omega)
      simp [h2]
  rw [e1, bind_s, e2, bind_s, cond_d]
  split
  · rfl
  · rename_i hn
    obtain ⟨e3, r⟩ := trimmed (Row.nats [] l) (by omega) hl
    rw [e3, bind_s]
    rw [r.len]
    simp only [bind_s, bin_eql, cond_d]
    have hlen := dig_len_le b64_two hl
    by_cases h0 : val B64 l = 0
    · rw [if_pos (by rw [h0, dig_zero]; rfl), h0, nb_zero]; rfl
    · have h1 : (dig B64 (val B64 l)).length ≠ 0 := fun e => h0 ((dig_len_eq b64_two).1 e)
      rw [if_neg (by omega)]
      simp (disch := omega) only [Wd]
      rw [r.rdn (by omega)]
      have hb := (dig_Dg b64_two (val B64 l)).getD (i := (dig B64 (val B64 l)).length - 1) (by decide)
      rw [lz_by hb]
      have hll := lnat_len h0
      have e4 : (dig B64 (val B64 l)).length * 8 - (64 - blen ((dig B64 (val B64 l)).getD ((dig B64 (val B64 l)).length - 1) 0)) / 8 = (dig 256 (val B64 l)).length := by omega
      simp (disch := omega) only [Wd]
      rw [e4]
      have hx : ∀ h', Row h' .u64 ((nats l).cut (tl l)) (dig B64 (val B64 l)) := fun h' => by
        rw [← take_tl b64_two hl]
        exact (Row.nats h' l).cut (tl_le l)
      have := lnat_l0 (id := 0) (by omega) hx (dig 256 (val B64 l)).length 0 (List.replicate (dig 256 (val B64 l)).length 0) (by omega) (by simp) (Dg.replicate _ (by decide)) (by simp [val, Nat.mod_one])
      rw [List.reverse_replicate] at this
      exact this


theorem rnat_l1 {r : List Nat} (hd : Dg 256 r) (hn : r.length ≤ 1000000) : ∀ (m : Nat), m ≤ r.length → tl (r.take m) = tl r →
    zf23.l1 (.rs 1 0 0 r.length) (.int .i64 ((r.length - m : Nat) : Int)) [some (nl .u8 r.reverse)] = some (str (nb (val 256 r))) := by
  intro m
  have fin : ∀ m, m ≤ r.length → tl r = m → ((opSlc 1 (.rs 1 0 0 r.length) (some (.int .i64 ((r.length - m : Nat) : Int))) none none).bind fun v27 => (opB2s [some (nl .u8 r.reverse)] v27).bind fun v28 => freeze [some (nl .u8 r.reverse)] v28) = some (str (nb (val 256 r))) := fun m hm ht => by
    rw [slc_rsl (by omega) (by omega)]
    simp only [bind_s, Nat.zero_add, Nat.mul_one, Int.toNat_natCast]
    have hp : Row [some (nl .u8 r.reverse)] .u8 (.rs 1 0 (r.length - m) (r.length - (r.length - m))) ((r.reverse.drop (r.length - m)).take (r.length - (r.length - m))) := Row.part live_one (by simp)
    rw [hp.b2s]
    simp only [bind_s]
    rw [List.take_of_length_le (by simp), List.drop_reverse, show r.length - (r.length - m) = tl r by omega, take_tl (by decide) hd]
    rfl
  induction m with
  | zero =>
    intro hm ht
    rw [zf23.l1_eq]
    simp (disch := omega) only [Wd]
    exact fin 0 (by omega) (by rw [← ht]; rfl)
  | succ m ih =>
    intro hm ht
    rw [zf23.l1_eq]
    simp (disch := omega) only [Wd, List.length_reverse]
    rw [rd_nl (by simp; omega)]
    simp only [nat_eql, bind_s, cond_d]
    have e : r.reverse.getD (r.length - (m + 1)) 0 = r.getD m 0 := by
      have := rev_getD (l := r.reverse) (i := m) (by simp; omega)
      rw [List.reverse_reverse, List.length_reverse] at this
      rw [← this]; congr 1; omega
    rw [e]
    rw [tl_take r m (by omega)] at ht
    split
    · rename_i h0
      rw [if_pos h0] at ht
      try simp (disch := omega) only [Wd]
      rw [show r.length - (m + 1) + 1 = r.length - m by omega]
      exact ih (by omega) ht
    · rename_i h0
      rw [if_neg h0] at ht
      exact fin (m + 1) hm ht.symm

theorem rnat_l0 {n : Nat} {x : AV} (hn : (dig B32 n).length ≤ 100000) (hx : ∀ h', Row h' .u64 x (dig B32 n)) : ∀ (k i : Nat) (r : List Nat), i + k = 4 * (dig B32 n).length → r.length = 4 * (dig B32 n).length → Dg 256 r → val 256 (r.take i) = n % 256 ^ i →
    zf23.l0 x (.rs 1 0 0 (4 * (dig B32 n).length)) (.int .i64 (i : Nat)) [some (nl .u8 r.reverse)] = some (str (nb n)) := by
  intro k
  induction k with
  | zero =>
    intro i r hik hr hd hv
    rw [zf23.l0_eq]
    simp (disch := omega) only [Wd]
    have hlt : n < 256 ^ (4 * (dig B32 n).length) := by
      have := lt_of_dig_len b32_two (n := n)
      rw [Nat.pow_mul]; exact this
    rw [List.take_of_length_le (by omega), show i = 4 * (dig B32 n).length by omega, Nat.mod_eq_of_lt hlt] at hv
    have := rnat_l1 hd (by omega) r.length (Nat.le_refl _) (by rw [List.take_length])
    rw [Nat.sub_self, hv, hr] at this
    exact this
  | succ k ih =>
    intro i r hik hr hd hv
    rw [zf23.l0_eq]
    have hidx : i / 4 < (dig B32 n).length := by omega
    have hrl : r.reverse.length = r.length := List.length_reverse
    have hb := (dig_Dg b32_two n).l32 (i / 4)
    simp (disch := first | omega | assumption) only [Wd]
    rw [(hx _).rdn hidx]
    simp (disch := first | omega | assumption) only [Wd, conv_ub, List.length_reverse]
    rw [dig_getD b32_two, byte_at (w := 4) (by decide) (by omega)]
    rw [← hr, rev_set (by omega), hr]
    refine ih (i + 1) _ (by omega) (by simpa using hr) (hd.set (Nat.mod_lt _ (by omega))) ?_
    rw [set_take_succ _ _ _ (by omega), val_snoc, List.length_take, Nat.min_eq_left (by omega), hv, mod_succ]
theorem rnat_cv (n : Nat) (hn : (dig B32 n).length ≤ 100000) : cv gp fid.zf23 [nats (dig B32 n)] = some (str (nb n)) := by
  rw [zf23.eq]
  unfold zf23.f
  have hr : ∀ h, Row h .u64 (nats (dig B32 n)) (dig B32 n) := fun h => Row.nats h _
  rw [trim_run (hr []) (by omega), bind_s]
  have hx : ∀ h, Row h .u64 ((nats (dig B32 n)).cut2 (tl (dig B32 n))) (dig B32 n) := fun h => by
    have := trim_row b32_two (hr h) (dig_Dg b32_two n)
    rwa [val_dig b32_two] at this
  rw [(hx []).len]
  simp (disch := omega) only [Wd]
  have := rnat_l0 hn hx (4 * (dig B32 n).length) 0 (List.replicate (4 * (dig B32 n).length) 0) (by omega) (by simp) (Dg.replicate _ (by decide)) (by simp [val, Nat.mod_one])
  rw [List.reverse_replicate] at this
  exact this

end Go.Proofs.YtiblnpnfaadmcaaGreat.Am
/- Arguments of the common kinds, opened. -/
set_option linter.unusedVariables false
set_option linter.unusedSimpArgs false
namespace Go.Proofs.YtiblnpnfaadmcaaGreat.Am
open Go

theorem int_in {P : Program} {k : Nat} {t : TypeId} {v : AV} (hu : P.underlying t = some (.int .i64)) (h : DatV P (k + 1) t v) : ∃ z : Int, v = .int .i64 z ∧ -9223372036854775808 ≤ z ∧ z ≤ 9223372036854775807 := by
  unfold DatV at h
  rw [if_neg (by simp [isAggT, hu])] at h
  unfold Dat at h
  rw [hu] at h
  simp only at h
  obtain ⟨z, hv, hw⟩ := h
  simp only [List.cons.injEq, and_true] at hv
  subst hv
  refine ⟨z, rfl, ?_⟩
  simp [Lit.wf, IntKind.min, IntKind.max, IntKind.signed, IntKind.bits] at hw
  omega

end Go.Proofs.YtiblnpnfaadmcaaGreat.Am
/- Steps on structs: their cells in blocks, built, read and written. -/
set_option linter.unusedVariables false
set_option linter.unusedSimpArgs false
namespace Go.Proofs.YtiblnpnfaadmcaaGreat.Am
open Go

theorem i_add01 : opBin .add (.int .i64 0) (.int .i64 1) = some (.int .i64 ((1 : Nat) : Int)) := Eq.trans rfl rfl
theorem box_agg {h : Heap} {cs : List AV} : opBox h (.agg cs) = some (.rp h.length 0, h ++ [some cs]) := Eq.trans rfl rfl
theorem box_bool {h : Heap} {b : Bool} : opBox h (.bool b) = some (.rp h.length 0, h ++ [some [.bool b]]) := Eq.trans rfl rfl
theorem box_int {h : Heap} {k : IntKind} {z : Int} : opBox h (.int k z) = some (.rp h.length 0, h ++ [some [.int k z]]) := Eq.trans rfl rfl
theorem faddr_rp {id o off : Nat} : opFaddr off (.rp id o) = some (.rp id (o + off)) := Eq.trans rfl rfl
theorem faddr_ip {cs : List AV} {off : Nat} : opFaddr off (.ip cs) = some (.ip (cs.drop off)) := Eq.trans rfl rfl
theorem rc_one {a : AV} {l : List AV} : readCells (a :: l) none = some a := Eq.trans rfl rfl
theorem rc2 {a b : AV} {l : List AV} : readCells (a :: b :: l) (some 2) = some (.agg [a, b]) := Eq.trans rfl rfl
theorem rc3 {a b c : AV} {l : List AV} : readCells (a :: b :: c :: l) (some 3) = some (.agg [a, b, c]) := Eq.trans rfl rfl
theorem rc4 {a b c d : AV} {l : List AV} : readCells (a :: b :: c :: d :: l) (some 4) = some (.agg [a, b, c, d]) := Eq.trans rfl rfl
theorem rc6 {a b c d e f : AV} {l : List AV} : readCells (a :: b :: c :: d :: e :: f :: l) (some 6) = some (.agg [a, b, c, d, e, f]) := Eq.trans rfl rfl
theorem fld_agg {off : Nat} {g : Option Nat} {cs : List AV} : opFld off g (.agg cs) = readCells (cs.drop off) g := Eq.trans rfl rfl

theorem live_s {x : Option (List AV)} {l : Heap} {n : Nat} : live (x :: l) (n + 1) = live l n := by simp [live]
theorem h_setS {x y : Option (List AV)} {l : Heap} {n : Nat} : (x :: l).set (n + 1) y = x :: l.set n y := Eq.trans rfl rfl

structure CellsOK (new : List AV) (n : Nat) : Prop where
  len : new.length = n
  all : new.all AV.cell = true
theorem cell_cells {v : AV} (h : v.cell = true) : v.cells = [v] := by cases v <;> first | rfl | cases h
theorem cell_ok {v : AV} (h : v.cell = true) : v.ok = true := by cases v <;> first | rfl | cases h
theorem splice_one {cs : List AV} {off : Nat} {v : AV} (h : off < cs.length) : splice cs off [v] = cs.set off v := by
  rw [List.set_eq_take_append_cons_drop, if_pos h]
  simp [splice]
theorem stc_one {h : Heap} {id off : Nat} {v : AV} {cs : List AV} (hc : v.cell = true) (ho : off < cs.length) : stc h 1 id off v cs = some (h.set id (some (cs.set off v))) := by
  unfold stc
  rw [cell_cells hc, splice_one ho, if_pos]
  exact ⟨rfl, by simp [hc], by omega⟩
theorem stc_agg {h : Heap} {n id off : Nat} {new cs : List AV} (hc : CellsOK new n) (ho : off + n ≤ cs.length) : stc h n id off (.agg new) cs = some (h.set id (some (cs.take off ++ new ++ cs.drop (off + n)))) := by
  unfold stc
  show (if new.length = n ∧ new.all AV.cell ∧ off + n ≤ cs.length then some (h.set id (some (splice cs off new))) else none) = _
  rw [if_pos ⟨hc.len, hc.all, ho⟩]
  unfold splice
  rw [hc.len]
theorem bld_eq {z : List AV} {ps : List (Nat × Nat × AV)} : opBld z ps = (fillA z ps).map .agg := Eq.trans rfl rfl
theorem fill_nil {cs : List AV} : fillA cs [] = some cs := Eq.trans rfl rfl
theorem fill_one {cs : List AV} {off : Nat} {v : AV} {l : List (Nat × Nat × AV)} (hc : v.cell = true) (ho : off < cs.length) : fillA cs ((off, 1, v) :: l) = fillA (cs.set off v) l := by
  rw [fillA, if_pos, cell_cells hc, splice_one ho]
  exact ⟨cell_ok hc, by rw [cell_cells hc]; rfl, by omega⟩
theorem fill_agg {cs new : List AV} {off sz : Nat} {l : List (Nat × Nat × AV)} (hc : new.length = sz) (ho : off + sz ≤ cs.length) : fillA cs ((off, sz, .agg new) :: l) = fillA (cs.take off ++ new ++ cs.drop (off + sz)) l := by
  rw [fillA, if_pos ⟨rfl, hc, ho⟩]
  show fillA (splice cs off new) l = _
  unfold splice
  rw [hc]
theorem map_s {α β : Type} {f : α → β} {a : α} : (some a).map f = some (f a) := Eq.trans rfl rfl

theorem sidx_is0 {sz n : Nat} {f : Bool} {cs : List AV} {k : IntKind} (h : 0 < n) : opSidx sz (.is n f cs) (.int k 0) = some (.ip cs) := by
  have := sidx_is (sz := sz) (f := f) (cs := cs) (k := k) (z := 0) (n := n) (by omega) (by omega)
  simpa using this
theorem sidx_is1 {sz n : Nat} {f : Bool} {cs : List AV} {k : IntKind} (h : 1 < n) : opSidx sz (.is n f cs) (.int k 1) = some (.ip (cs.drop sz)) := by
  have := sidx_is (sz := sz) (f := f) (cs := cs) (k := k) (z := 1) (n := n) (by omega) (by omega)
  simpa using this
theorem sidx_rs0 {sz id off n : Nat} {k : IntKind} (h : 0 < n) : opSidx sz (.rs sz id off n) (.int k 0) = some (.rp id off) := by
  have := sidx_rs (sz := sz) (id := id) (off := off) (k := k) (z := 0) (n := n) (by omega) (by omega)
  simpa using this
theorem sidx_rs1 {sz id off n : Nat} {k : IntKind} (h : 1 < n) : opSidx sz (.rs sz id off n) (.int k 1) = some (.rp id (off + sz)) := by
  have := sidx_rs (sz := sz) (id := id) (off := off) (k := k) (z := 1) (n := n) (by omega) (by omega)
  simpa using this

theorem zeros_len {z : List AV} : ∀ n, (zeros z n).length = n * z.length
  | 0 => by simp [zeros]
  | n + 1 => by rw [zeros, List.length_append, zeros_len n, Nat.add_mul]; omega
theorem bslc_a1 {sz : Nat} {z a : List AV} (hz : z.length = sz) (ha : a.length = sz) : opBslc sz 1 z [(0, .agg a)] = some (.is 1 true a) := by
  have e : zeros z 1 = z := by simp [zeros]
  unfold opBslc
  rw [e]
  simp only [List.map_cons, List.map_nil, Nat.zero_mul]
  rw [fill_agg ha (by omega), fill_nil, map_s]
  simp [List.drop_of_length_le (show z.length ≤ sz by omega)]
theorem bslc_a2 {sz : Nat} {z a b : List AV} (hz : z.length = sz) (ha : a.length = sz) (hb : b.length = sz) : opBslc sz 2 z [(0, .agg a), (1, .agg b)] = some (.is 2 true (a ++ b)) := by
  have e : zeros z 2 = z ++ z := by simp [zeros]
  unfold opBslc
  rw [e]
  simp only [List.map_cons, List.map_nil, Nat.zero_mul, Nat.one_mul]
  rw [fill_agg ha (by simp; omega)]
  simp only [List.take_zero, List.nil_append, Nat.zero_add]
  have e2 : (z ++ z).drop sz = z := by rw [← hz]; simp
  rw [e2, fill_agg hb (by simp; omega), fill_nil, map_s]
  rw [List.take_left' ha, List.drop_of_length_le (by simp; omega), List.append_nil]

theorem app_s0 {h : Heap} {sz m : Nat} {f : Bool} {cs : List AV} (hl : cs.length = m * sz) (h0 : 0 < m) (hm : m ≤ 4294967296) (hc : cs.all AV.cell = true) : opApp h sz (.is 0 true []) (.is m f cs) = some (.rs sz h.length 0 m, h ++ [some cs]) := by
  have e1 : elemsOf h sz (.is m f cs) = some (m, cs) := by
    show (if m * sz ≤ cs.length then some (m, cs.take (m * sz)) else none) = _
    rw [if_pos (by omega), List.take_of_length_le (by omega)]
  have e2 : elemsOf h sz (.is 0 true []) = some (0, []) := by simp [elemsOf]
  unfold opApp
  rw [e1, e2]
  simp only [bind_s, Nat.zero_add, List.nil_append]
  rw [if_pos ⟨.inl hm, hc, rfl⟩, if_neg (by omega)]
theorem app_sr {h : Heap} {sz id n m : Nat} {f : Bool} {old cs : List AV} (hv : live h id = some old) (ho : old.length = n * sz) (hl : cs.length = m * sz) (h0 : 0 < m) (hm : n + m ≤ 4294967296) (hc : cs.all AV.cell = true) : opApp h sz (.rs sz id 0 n) (.is m f cs) = some (.rs sz h.length 0 (n + m), h.set id none ++ [some (old ++ cs)]) := by
  have e1 : elemsOf h sz (.is m f cs) = some (m, cs) := by
    show (if m * sz ≤ cs.length then some (m, cs.take (m * sz)) else none) = _
    rw [if_pos (by omega), List.take_of_length_le (by omega)]
  have e2 : elemsOf h sz (.rs sz id 0 n) = some (n, old) := by
    show ((live h id).bind fun cs => if sz = sz ∧ 0 + n * sz ≤ cs.length then some (n, (cs.drop 0).take (n * sz)) else none) = _
    rw [hv, bind_s, if_pos ⟨rfl, by omega⟩, List.drop_zero, List.take_of_length_le (by omega)]
  unfold opApp
  rw [e1, e2]
  simp only [bind_s]
  rw [if_pos ⟨.inl hm, hc, rfl⟩, if_neg (by omega)]

theorem app_w0 {h : Heap} {m : Nat} {f : Bool} {cs : List AV} (hl : cs.length = m * 1) (h0 : 0 < m) (hm : m ≤ 8796093022208) (hc : cs.all AV.cell = true) : opApp h 1 (.is 0 true []) (.is m f cs) = some (.rs 1 h.length 0 m, h ++ [some cs]) := by
  have e1 : elemsOf h 1 (.is m f cs) = some (m, cs) := by
    show (if m * 1 ≤ cs.length then some (m, cs.take (m * 1)) else none) = _
    rw [if_pos (by omega), List.take_of_length_le (by omega)]
  have e2 : elemsOf h 1 (.is 0 true []) = some (0, []) := by simp [elemsOf]
  unfold opApp
  rw [e1, e2]
  simp only [bind_s, Nat.zero_add, List.nil_append]
  rw [if_pos ⟨.inr ⟨by first | rfl | trivial, hm⟩, hc, rfl⟩, if_neg (by omega)]
theorem app_wr {h : Heap} {id n m : Nat} {f : Bool} {old cs : List AV} (hv : live h id = some old) (ho : old.length = n * 1) (hl : cs.length = m * 1) (h0 : 0 < m) (hm : n + m ≤ 8796093022208) (hc : cs.all AV.cell = true) : opApp h 1 (.rs 1 id 0 n) (.is m f cs) = some (.rs 1 h.length 0 (n + m), h.set id none ++ [some (old ++ cs)]) := by
  have e1 : elemsOf h 1 (.is m f cs) = some (m, cs) := by
    show (if m * 1 ≤ cs.length then some (m, cs.take (m * 1)) else none) = _
    rw [if_pos (by omega), List.take_of_length_le (by omega)]
  have e2 : elemsOf h 1 (.rs 1 id 0 n) = some (n, old) := by
    show ((live h id).bind fun cs => if 1 = 1 ∧ 0 + n * 1 ≤ cs.length then some (n, (cs.drop 0).take (n * 1)) else none) = _
    rw [hv, bind_s, if_pos ⟨rfl, by omega⟩, List.drop_zero, List.take_of_length_le (by omega)]
  unfold opApp
  rw [e1, e2]
  simp only [bind_s]
  rw [if_pos ⟨.inr ⟨by first | rfl | trivial, hm⟩, hc, rfl⟩, if_neg (by omega)]

theorem beq_f {x y : Bool} : opBeq false (.bool x) (.bool y) = some (.bool (x == y)) := Eq.trans rfl rfl
theorem beq_t {x y : Bool} : opBeq true (.bool x) (.bool y) = some (.bool (!(x == y))) := Eq.trans rfl rfl
theorem un_not {b : Bool} : opUn .not (.bool b) = some (.bool (!b)) := Eq.trans rfl rfl
theorem un_notd {p : Prop} [Decidable p] : opUn .not (.bool (decide p)) = some (.bool (decide (¬ p))) := by by_cases h : p <;> simp [opUn, h]
theorem un_t : opUn .not (.bool true) = some (.bool false) := Eq.trans rfl rfl
theorem un_f : opUn .not (.bool false) = some (.bool true) := Eq.trans rfl rfl

theorem frz_i2 {h : Heap} {b : Bool} {l : List Nat} : freeze h (.agg [.bool b, str l]) = some (.agg [.bool b, str l]) := Eq.trans rfl rfl
theorem frz_i2e {h : Heap} {b : Bool} {l : List Nat} {k : IntKind} {z : Int} : freeze h (.tup [.agg [.bool b, str l], .int k z]) = some (.tup [.agg [.bool b, str l], .int k z]) := Eq.trans rfl rfl
theorem frz_i22e {h : Heap} {b b' : Bool} {l l' : List Nat} {k : IntKind} {z : Int} : freeze h (.tup [.agg [.bool b, str l], .agg [.bool b', str l'], .int k z]) = some (.tup [.agg [.bool b, str l], .agg [.bool b', str l'], .int k z]) := Eq.trans rfl rfl
theorem frz_r {h : Heap} {b : Bool} {l m : List Nat} : freeze h (.agg [.bool b, str l, str m]) = some (.agg [.bool b, str l, str m]) := Eq.trans rfl rfl
theorem frz_re {h : Heap} {b : Bool} {l m : List Nat} {k : IntKind} {z : Int} : freeze h (.tup [.agg [.bool b, str l, str m], .int k z]) = some (.tup [.agg [.bool b, str l, str m], .int k z]) := Eq.trans rfl rfl
theorem frz_ee {h : Heap} {k k' : IntKind} {z z' : Int} : freeze h (.tup [.int k z, .int k' z']) = some (.tup [.int k z, .int k' z']) := Eq.trans rfl rfl
theorem frz_n2 {h : Heap} {b : Bool} {l : List Nat} : freeze h (.agg [.bool b, nats l]) = some (.agg [.bool b, nats l]) :=
  (imm_agg (d := 2) (fun c hc => by
    simp only [List.mem_cons, List.not_mem_nil, or_false] at hc
    rcases hc with rfl | rfl
    · exact imm_bool.mono (by omega)
    · exact imm_nats)).frz (by omega) h
set_option linter.defProp false in
def W2d := And.intro @box_agg <| And.intro @box_bool <| And.intro @box_int <| And.intro @faddr_rp <| And.intro @faddr_ip <| And.intro @rc_one <| And.intro @rc2 <| And.intro @rc3 <| And.intro @rc4 <| And.intro @rc6 <| And.intro @fld_agg <| And.intro @live_s <| And.intro @h_setS <| And.intro @stc_one <| And.intro @stc_agg <| And.intro @bld_eq <| And.intro @fill_nil <| And.intro @fill_one <| And.intro @fill_agg <| And.intro @map_s <| And.intro @sidx_is0 <| And.intro @sidx_is1 <| And.intro @sidx_rs0 <| And.intro @sidx_rs1 <| And.intro @bslc_a1 <| And.intro @bslc_a2 <| And.intro @beq_f <| And.intro @beq_t <| And.intro @un_notd <| And.intro @un_t <| And.intro @un_f <| And.intro @frz_i2 <| And.intro @frz_i2e <| And.intro @frz_i22e <| And.intro @frz_r <| And.intro @frz_re <| And.intro @frz_ee <| And.intro @frz_n2 <| And.intro @List.drop_zero.{0} <| And.intro @List.drop_succ_cons.{0} <| And.intro @List.take_zero.{0} <| And.intro @List.take_succ_cons.{0} <| And.intro @List.cons_append.{0} <| And.intro @List.set_cons_zero.{0} <| And.intro @List.set_cons_succ.{0} <| And.intro @List.drop_nil.{0} <| And.intro @List.append_nil.{0} <| And.intro @i_add01 <| @Nat.one_mul
end Go.Proofs.YtiblnpnfaadmcaaGreat.Am
/- Layer 1's functions, called by value. -/
set_option linter.unusedVariables false
set_option linter.unusedSimpArgs false
namespace Go.Proofs.YtiblnpnfaadmcaaGreat.Am
open Go

section
variable {h : Heap}
theorem add_by {h : Heap} (l m : List Nat) (hl : Dg B64 l) (hm : Dg B64 m) (h1 : l.length ≤ 4000) (h2 : m.length ≤ 4000) : byVal (callW gp) h fid.zf4s [nats l, nats m] = some (.tup [nats (dig B64 (val B64 l + val B64 m)), .int .i64 0]) := by
  rw [byVal_imm (imm_l2 imm_nats imm_nats (by omega) (by omega)) (limb_add l m hl hm), if_neg (by omega)]
theorem mulr_by {h : Heap} (l m : List Nat) (hl : Dg B64 l) (hm : Dg B64 m) (h1 : l.length ≤ 4000) (h2 : m.length ≤ 4000) : byVal (callW gp) h fid.zf2v [nats l, nats m] = some (.tup [nats (dig B64 (val B64 l * val B64 m)), .int .i64 0]) := by
  rw [byVal_imm (imm_l2 imm_nats imm_nats (by omega) (by omega)) (limb_mul l m hl hm), if_neg (by omega)]
theorem c_add {a b : List Nat} (ha : Dg B64 a) (hb : Dg B64 b) (h1 : a.length ≤ 4000) (h2 : b.length ≤ 4000) : byVal (callW gp) h fid.zf4s [nats a, nats b] = some (.tup [nats (dig B64 (val B64 a + val B64 b)), .int .i64 0]) := add_by a b ha hb h1 h2
theorem c_mul {a b : List Nat} (ha : Dg B64 a) (hb : Dg B64 b) (h1 : a.length ≤ 4000) (h2 : b.length ≤ 4000) : byVal (callW gp) h fid.zf2v [nats a, nats b] = some (.tup [nats (dig B64 (val B64 a * val B64 b)), .int .i64 0]) := mulr_by a b ha hb h1 h2
theorem c_cmp {a b : List Nat} (ha : Dg B64 a) (hb : Dg B64 b) (h1 : a.length ≤ 4000) (h2 : b.length ≤ 4000) : byVal (callW gp) h fid.zf2u [nats a, nats b] = some (.tup [.int .i64 (cmpI (val B64 a) (val B64 b)), .int .i64 0]) := by
  rw [byVal_imm (imm_l2 imm_nats imm_nats (by omega) (by omega)) (limb_cmp a b ha hb), if_neg (by omega)]
theorem c_sub {a b : List Nat} (ha : Dg B64 a) (hb : Dg B64 b) (h1 : a.length ≤ 4000) (h2 : b.length ≤ 4000) (hlt : val B64 b ≤ val B64 a) : byVal (callW gp) h fid.zf4t [nats a, nats b] = some (.tup [nats (dig B64 (val B64 a - val B64 b)), .int .i64 0]) := by
  rw [byVal_imm (imm_l2 imm_nats imm_nats (by omega) (by omega)) (limb_sub a b ha hb), if_neg (by omega), if_neg (by omega)]
theorem c_subn {a b : List Nat} (ha : Dg B64 a) (hb : Dg B64 b) (h1 : a.length ≤ 4000) (h2 : b.length ≤ 4000) (hlt : val B64 a < val B64 b) : byVal (callW gp) h fid.zf4t [nats a, nats b] = some (.tup [nats [], .int .i64 2]) := by
  rw [byVal_imm (imm_l2 imm_nats imm_nats (by omega) (by omega)) (limb_sub a b ha hb), if_neg (by omega), if_pos (by omega)]
theorem c_dm {a b : List Nat} (ha : Dg B64 a) (hb : Dg B64 b) (h1 : a.length ≤ 4000) (h2 : b.length ≤ 4000) (h0 : 0 < val B64 b) : byVal (callW gp) h fid.zf3s [nats a, nats b] = some (.tup [nats (dig B64 (val B64 a / val B64 b)), nats (dig B64 (val B64 a % val B64 b)), .int .i64 0]) := by
  rw [byVal_imm (imm_l2 imm_nats imm_nats (by omega) (by omega)) (limb_divmod a b ha hb), if_neg (by omega), if_neg (by omega)]
theorem c_rnat {n : Nat} (hn : (dig B32 n).length ≤ 100000) : byVal (callW gp) h fid.zf23 [nats (dig B32 n)] = some (str (nb n)) := byVal_imm (imm_l1 imm_nats (by omega)) (rnat_cv n hn)
theorem c_nat {l : List Nat} (hl : Dg B64 l) (hn : l.length ≤ 4000) : byVal (callW gp) h fid.zf3i [nats l] = some (.tup [str (nb (val B64 l)), .int .i64 0]) := by
  rw [byVal_imm (imm_l1 imm_nats (by omega)) (lnat_cv l hl), if_neg (by omega)]
theorem c_of {l : List Nat} (hl : ∀ x ∈ l, x < 256) : byVal (callW gp) h fid.limb_Of [str l] = some (if 32000 < l.length then .tup [nats [], .int .i64 5] else if l.getD 0 1 = 0 then .tup [nats [], .int .i64 1] else .tup [nats (dig B64 (val 256 l.reverse)), .int .i64 0]) :=
  byVal_imm (imm_l1 imm_strl (by omega)) (of_cv l hl)
end

theorem len_add {B x y n : Nat} (hB : 2 ≤ B) (hx : (dig B x).length ≤ n) (hy : (dig B y).length ≤ n) : (dig B (x + y)).length ≤ n + 1 := dig_len_lt hB (by
  have h1 := lt_of_dig_len hB (n := x)
  have h2 := lt_of_dig_len hB (n := y)
  have h3 : B ^ (dig B x).length ≤ B ^ n := Nat.pow_le_pow_right (by omega) hx
  have h4 : B ^ (dig B y).length ≤ B ^ n := Nat.pow_le_pow_right (by omega) hy
  have h5 : B ^ n * 2 ≤ B ^ n * B := Nat.mul_le_mul_left _ hB
  rw [Nat.pow_succ]
  omega)
theorem len_mul {B x y n m : Nat} (hB : 2 ≤ B) (hx : (dig B x).length ≤ n) (hy : (dig B y).length ≤ m) : (dig B (x * y)).length ≤ n + m := dig_len_lt hB (by
  have h1 := lt_of_dig_len hB (n := x)
  have h2 := lt_of_dig_len hB (n := y)
  have h3 : B ^ (dig B x).length ≤ B ^ n := Nat.pow_le_pow_right (by omega) hx
  have h4 : B ^ (dig B y).length ≤ B ^ m := Nat.pow_le_pow_right (by omega) hy
  rw [Nat.pow_add]
  exact Nat.mul_lt_mul'' (by omega) (by omega))
theorem len_le {B x y : Nat} (hB : 2 ≤ B) (h : x ≤ y) : (dig B x).length ≤ (dig B y).length := by
  rcases Nat.lt_or_ge (dig B y).length (dig B x).length with h1 | h1
  · have := lt_of_len_lt hB h1; omega
  · exact h1

end Go.Proofs.YtiblnpnfaadmcaaGreat.Am
/- The document's greatest common divisor. -/
set_option linter.unusedVariables false
set_option linter.unusedSimpArgs false
namespace Go.Proofs.YtiblnpnfaadmcaaGreat.Am
open Go

theorem dig0 {B : Nat} (hB : 2 ≤ B) {n : Nat} (h : n ≠ 0) : (dig B n).getD 0 0 = n % B ∧ 0 < (dig B n).length := by
  rw [dig_pos hB h]; exact ⟨rfl, by simp⟩
end Go.Proofs.YtiblnpnfaadmcaaGreat.Am
