import Derived.Test.YtiblnpnfaadmcaaGreatAmFix
import Derived.Laws.Strings
/- What operations give on whole numbers, rows and heaps of a known shape. -/
set_option linter.unusedVariables false
set_option maxRecDepth 10000
set_option linter.unusedSimpArgs false
namespace Go.Proofs.YtiblnpnfaadmcaaGreat.Am
open Go

theorem dD {p : Prop} (h : p := by first | omega | assumption | rfl | exact of_decide_eq_true rfl | exact ⟨rfl, rfl⟩ | (simp only [List.length_append, List.length_cons, List.length_nil]; omega) | fail) : p := h

theorem zy13 {α β : Type} {a : α} {f : α → Option β} : (some a).bind f = f a := Eq.trans rfl rfl


theorem zyii {x : Int} (h1 : -9223372036854775808 ≤ x) (h2 : x ≤ 9223372036854775807) : IntKind.i64.wrap x = x := by
 have e : IntKind.i64.wrap x = (if (true && decide (x % 18446744073709551616 ≥ 9223372036854775808)) = true then x % 18446744073709551616 - 18446744073709551616 else x % 18446744073709551616) := rfl
 rw [e]
 simp only [Bool.true_and, decide_eq_true_eq]
 split <;> omega

theorem zyil (x : Int) : IntKind.u64.wrap x = x % 18446744073709551616 := Eq.trans rfl rfl
theorem wrap_b (x : Int) : IntKind.u8.wrap x = x % 256 := Eq.trans rfl rfl

section
variable {k : IntKind} {x y : Int} {a b : Nat}
theorem zy11 : opBin .lss (.int k x) (.int k y) = some (.bool (decide (x < y))) := by simp [opBin, zy7u]
theorem zy10 : opBin .leq (.int k x) (.int k y) = some (.bool (decide (x ≤ y))) := by simp [opBin, zy7u]
theorem zy0z : opBin .gtr (.int k x) (.int k y) = some (.bool (decide (y < x))) := by simp [opBin, zy7u]
theorem zy0y : opBin .geq (.int k x) (.int k y) = some (.bool (decide (y ≤ x))) := by simp [opBin, zy7u]
theorem zy0x : opBin .eql (.int k x) (.int k y) = some (.bool (decide (x = y))) := by simp [opBin, zy7u]; rfl
theorem zy12 : opBin .neq (.int k x) (.int k y) = some (.bool (decide (x ≠ y))) := by simp [opBin, zy7u]; by_cases h : x = y <;> simp [h]
theorem nat_lss : opBin .lss (nat k a) (nat k b) = some (.bool (decide (a < b))) := by simp [nat, zy11]
theorem nat_leq : opBin .leq (nat k a) (nat k b) = some (.bool (decide (a ≤ b))) := by simp [nat, zy10]
theorem zybq : opBin .gtr (nat k a) (nat k b) = some (.bool (decide (b < a))) := by simp [nat, zy0z]
theorem zybp : opBin .geq (nat k a) (nat k b) = some (.bool (decide (b ≤ a))) := by simp [nat, zy0y]
theorem zybo : opBin .eql (nat k a) (nat k b) = some (.bool (decide (a = b))) := by simp only [nat, zy0x, Int.natCast_inj]
theorem zybr : opBin .neq (nat k a) (nat k b) = some (.bool (decide (a ≠ b))) := by simp only [nat, zy12, ne_eq, Int.natCast_inj]
end

theorem zy7w {x y : Int} (h1 : -9223372036854775808 ≤ x + y) (h2 : x + y ≤ 9223372036854775807) : opBin .add (.int .i64 x) (.int .i64 y) = some (.int .i64 (x + y)) := by simp [opBin, zy7u, zyii h1 h2]
theorem zy7z {x y : Int} (h1 : -9223372036854775808 ≤ x - y) (h2 : x - y ≤ 9223372036854775807) : opBin .sub (.int .i64 x) (.int .i64 y) = some (.int .i64 (x - y)) := by simp [opBin, zy7u, zyii h1 h2]
theorem int_mul {x y : Int} (h1 : -9223372036854775808 ≤ x * y) (h2 : x * y ≤ 9223372036854775807) : opBin .mul (.int .i64 x) (.int .i64 y) = some (.int .i64 (x * y)) := by simp [opBin, zy7u, zyii h1 h2]
theorem zy7x {x y : Int} (h1 : 0 ≤ x) (h2 : 0 < y) (h3 : x ≤ 9223372036854775807) : opBin .quo (.int .i64 x) (.int .i64 y) = some (.int .i64 (x / y)) := by
 have h4 : x.tdiv y = x / y := Int.tdiv_eq_ediv_of_nonneg h1
 have h5 : x / y ≤ x := Int.ediv_le_self _ h1
 have h6 : 0 ≤ x / y := Int.ediv_nonneg h1 (by omega)
 have h7 : y ≠ 0 := by omega
 simp [opBin, zy7u, h4, h7, zyii (x := x / y) (by omega) (by omega)]
theorem zy7y {x y : Int} (h1 : 0 ≤ x) (h2 : 0 < y) : opBin .rem (.int .i64 x) (.int .i64 y) = some (.int .i64 (x % y)) := by
 have h4 : x.tmod y = x % y := Int.tmod_eq_emod_of_nonneg h1
 have h7 : y ≠ 0 := by omega
 simp [opBin, zy7u, h4, h7]

theorem u_add {a b : Nat} : opBin .add (nat .u64 a) (nat .u64 b) = some (nat .u64 ((a + b) % 18446744073709551616)) := by
 simp [opBin, zy7u, nat, zyil]
theorem u_sub {a b : Nat} (h : b ≤ 18446744073709551616) : opBin .sub (nat .u64 a) (nat .u64 b) = some (nat .u64 ((a + 18446744073709551616 - b) % 18446744073709551616)) := by
 simp only [opBin, zy7u, nat, zyil, if_true, Option.some.injEq, AV.int.injEq, true_and]
 omega
theorem u_mul {a b : Nat} : opBin .mul (nat .u64 a) (nat .u64 b) = some (nat .u64 ((a * b) % 18446744073709551616)) := by
 simp [opBin, zy7u, nat, zyil]
theorem u_quo {a b : Nat} (ha : a < 18446744073709551616) (hb : 0 < b) : opBin .quo (nat .u64 a) (nat .u64 b) = some (nat .u64 (a / b)) := by
 have h : ((b : Nat) : Int) ≠ 0 := by omega
 have h1 : ((a : Nat) : Int).tdiv (b : Int) = ((a / b : Nat) : Int) := by rw [Int.tdiv_eq_ediv_of_nonneg (by omega)]; rfl
 have h2 : a / b ≤ a := Nat.div_le_self _ _
 simp only [opBin, zy7u, nat, if_true, h, if_false, h1, zyil]
 generalize a / b = q at h2
 congr 2
 omega
theorem u_rem {a b : Nat} (hb : 0 < b) : opBin .rem (nat .u64 a) (nat .u64 b) = some (nat .u64 (a % b)) := by
 have h : ((b : Nat) : Int) ≠ 0 := by omega
 have h1 : ((a : Nat) : Int).tmod (b : Int) = ((a % b : Nat) : Int) := by rw [Int.tmod_eq_emod_of_nonneg (by omega)]; rfl
 simp only [opBin, zy7u, nat, if_true, h, if_false, h1]
theorem zych {a : Nat} (ha : a < 18446744073709551616) : (BitVec.ofInt 64 (a : Int)).toNat = a := by
 simp; omega
theorem u_and {a b : Nat} (ha : a < 18446744073709551616) (hb : b < 18446744073709551616) : opBin .and (nat .u64 a) (nat .u64 b) = some (nat .u64 (a &&& b)) := by
 have h : (a &&& b) < 18446744073709551616 := Nat.lt_of_le_of_lt Nat.and_le_left ha
 show some (AV.int .u64 (IntKind.u64.wrap (((BitVec.ofInt 64 (a : Int) &&& BitVec.ofInt 64 (b : Int)).toNat : Nat) : Int))) = _
 rw [BitVec.toNat_and, zych ha, zych hb, zyil]
 generalize a &&& b = q at h
 unfold nat
 congr 2
 omega
theorem u_or {a b : Nat} (ha : a < 18446744073709551616) (hb : b < 18446744073709551616) : opBin .or (nat .u64 a) (nat .u64 b) = some (nat .u64 (a ||| b)) := by
 have h : (a ||| b) < 2 ^ 64 := Nat.or_lt_two_pow ha hb
 show some (AV.int .u64 (IntKind.u64.wrap (((BitVec.ofInt 64 (a : Int) ||| BitVec.ofInt 64 (b : Int)).toNat : Nat) : Int))) = _
 rw [BitVec.toNat_or, zych ha, zych hb, zyil]
 generalize a ||| b = q at h
 unfold nat
 congr 2
 omega
theorem zyg6 {a n : Nat} : zydf true .u64 (a : Int) (n : Int) = some (nat .u64 ((a * 2 ^ n) % 18446744073709551616)) := by
 have hn : ¬ ((n : Int) < 0) := by omega
 simp only [zydf, hn, if_false, cond_true, IntKind.bits, Int.toNat_natCast, zyil, nat]
 congr 2
 rcases Nat.lt_or_ge n 64 with h | h
 ·rw [Nat.min_eq_left (by omega)]; simp
 ·rw [Nat.min_eq_right h]
  have h1 : (a * 2 ^ n) % 18446744073709551616 = 0 := by
   obtain ⟨m, rfl⟩ : ∃ m, n = 64 + m := ⟨n - 64, by omega⟩
   rw [Nat.pow_add, ← Nat.mul_assoc, Nat.mul_comm a, Nat.mul_assoc]
   exact Nat.mul_mod_right _ _
  rw [h1]
  omega
theorem zyg7 {a n : Nat} (ha : a < 18446744073709551616) : zydf false .u64 (a : Int) (n : Int) = some (nat .u64 (a / 2 ^ n)) := by
 have hn : ¬ ((n : Int) < 0) := by omega
 simp only [zydf, hn, if_false, cond_false, IntKind.bits, Int.toNat_natCast, nat]
 congr 2
 rw [Int.fdiv_eq_ediv_of_nonneg _ (by exact Int.le_of_lt (Int.pow_pos (by omega)))]
 rcases Nat.lt_or_ge n 64 with h | h
 ·rw [Nat.min_eq_left (by omega)]; simp
 ·rw [Nat.min_eq_right h]
  have h1 : a / 2 ^ n = 0 := Nat.div_eq_of_lt (Nat.lt_of_lt_of_le ha (Nat.pow_le_pow_right (n := 2) (by omega) h))
  rw [h1]
  omega
theorem u_shl {a n : Nat} {k : IntKind} : opBin .shl (nat .u64 a) (nat k n) = some (nat .u64 ((a * 2 ^ n) % 18446744073709551616)) := zyg6
theorem u_shr {a n : Nat} {k : IntKind} (ha : a < 18446744073709551616) : opBin .shr (nat .u64 a) (nat k n) = some (nat .u64 (a / 2 ^ n)) := zyg7 ha
theorem u_shl_i {a : Nat} {z : Int} (hz : 0 ≤ z) : opBin .shl (nat .u64 a) (.int .i64 z) = some (nat .u64 ((a * 2 ^ z.toNat) % 18446744073709551616)) := by
 obtain ⟨n, rfl⟩ := Int.eq_ofNat_of_zero_le hz
 exact zyg6
theorem u_shr_i {a : Nat} {z : Int} (ha : a < 18446744073709551616) (hz : 0 ≤ z) : opBin .shr (nat .u64 a) (.int .i64 z) = some (nat .u64 (a / 2 ^ z.toNat)) := by
 obtain ⟨n, rfl⟩ := Int.eq_ofNat_of_zero_le hz
 exact zyg7 ha

theorem conv_uu {k : IntKind} {n : Nat} : zyd0 .u64 (nat k n) = some (nat .u64 (n % 18446744073709551616)) := by simp [zyd0, nat, zyil]
theorem zy3k {k : IntKind} {n : Nat} : zyd0 .u8 (nat k n) = some (nat .u8 (n % 256)) := by simp [zyd0, nat, wrap_b]
theorem conv_iu {k : IntKind} {n : Nat} (h : n ≤ 9223372036854775807) : zyd0 .i64 (nat k n) = some (.int .i64 n) := by simp [zyd0, nat, zyii (x := n) (by omega) (by omega)]
theorem zy3l {z : Int} (h : 0 ≤ z) (h2 : z < 18446744073709551616) : zyd0 .u64 (.int .i64 z) = some (nat .u64 z.toNat) := by
 simp only [zyd0, nat, zyil]; congr 2; omega

theorem add64 {x y c : Nat} (h : c ≤ 1) : zyco (nat .u64 x) (nat .u64 y) (nat .u64 c) = some (.tup [nat .u64 ((x + y + c) % 18446744073709551616), nat .u64 ((x + y + c) / 18446744073709551616)]) := by
 simp only [zyco, nat, Int.toNat_natCast]
 rw [if_pos (by omega)]
theorem sub64 {x y c : Nat} (h : c ≤ 1) : zydq (nat .u64 x) (nat .u64 y) (nat .u64 c) = some (.tup [nat .u64 ((x + 18446744073709551616 - y - c) % 18446744073709551616), nat .u64 (if x < y + c then 1 else 0)]) := by
 simp only [zydq, nat, Int.toNat_natCast]
 rw [if_pos (by omega)]

theorem ext0 {v : AV} {l : List AV} : opExt 0 (.tup (v :: l)) = some v := Eq.trans rfl rfl
theorem ext1 {u v : AV} {l : List AV} : opExt 1 (.tup (u :: v :: l)) = some v := Eq.trans rfl rfl
theorem ext2 {t u v : AV} {l : List AV} : opExt 2 (.tup (t :: u :: v :: l)) = some v := Eq.trans rfl rfl


section
variable {R : Type} {A B : Option R}
theorem cond_t : condK (.bool true) A B = A := Eq.trans rfl rfl
theorem zy3d : condK (.bool false) A B = B := Eq.trans rfl rfl
theorem zy3c {p : Prop} [Decidable p] : condK (.bool (decide p)) A B = if p then A else B := by by_cases h : p <;> simp [h, condK]
theorem zy6k {p : Prop} [Decidable p] : zy6i (.bool (decide p)) true A B = if p then A else B := by by_cases h : p <;> simp [h, zy6i]
theorem zy6j {p : Prop} [Decidable p] : zy6i (.bool (decide p)) false A B = if p then B else A := by by_cases h : p <;> simp [h, zy6i]
end


def nl (k : IntKind) (l : List Nat) : List AV := l.map (nat k)
def nats (l : List Nat) : AV := .is l.length false (nl .u64 l)

theorem zyc6 (k : IntKind) (l : List Nat) : (nl k l).length = l.length := by simp [nl]
theorem nl_append (k : IntKind) (l m : List Nat) : nl k (l ++ m) = nl k l ++ nl k m := by simp [nl]
theorem zyc7 (k : IntKind) (l : List Nat) (n : Nat) : (nl k l).take n = nl k (l.take n) := by simp [nl, List.map_take]
theorem nl_drop (k : IntKind) (l : List Nat) (n : Nat) : (nl k l).drop n = nl k (l.drop n) := by simp [nl, List.map_drop]
theorem nl_set (k : IntKind) (l : List Nat) (n a : Nat) : (nl k l).set n (nat k a) = nl k (l.set n a) := by simp [nl, List.map_set]

theorem zy9y {n : Nat} {f : Bool} {cs : List AV} : opLen false (.is n f cs) = some (.int .i64 n) := Eq.trans rfl rfl
theorem zya2 {sz id off n : Nat} : opLen false (.rs sz id off n) = some (.int .i64 n) := Eq.trans rfl rfl
theorem zya1 {l : List Nat} : opLen false (nats l) = some (.int .i64 l.length) := Eq.trans rfl rfl

theorem zyg8 {sz n : Nat} {f : Bool} {cs : List AV} {k : IntKind} {z : Int} (h1 : 0 ≤ z) (h2 : z < n) : zydh sz (.is n f cs) (.int k z) = some (.ip (cs.drop (z.toNat * sz))) := by
 simp only [zydh]; rw [if_pos ⟨h1, h2⟩]
theorem zyg9 {sz id off n : Nat} {k : IntKind} {z : Int} (h1 : 0 ≤ z) (h2 : z < n) : zydh sz (.rs sz id off n) (.int k z) = some (.rp id (off + z.toNat * sz)) := by
 simp only [zydh]; rw [if_pos ⟨trivial, h1, h2⟩]
theorem sidx_nats {l : List Nat} {k : IntKind} {z : Int} (h1 : 0 ≤ z) (h2 : z < l.length) : zydh 1 (nats l) (.int k z) = some (.ip ((nl .u64 l).drop z.toNat)) := by
 unfold nats; rw [zyg8 h1 h2, Nat.mul_one]

theorem rd_nl {k : IntKind} {l : List Nat} {j : Nat} (h : j < l.length) : zyem ((nl k l).drop j) none = some (nat k (l.getD j 0)) := by
 simp only [zyem, nl, List.head?_drop, List.getElem?_map, List.getElem?_eq_getElem h, Option.map_some, List.getD_eq_getElem?_getD, Option.getD_some]

theorem load_ip {h : Heap} {ag : Option Nat} {cs : List AV} : zyd4 h ag (.ip cs) = zyem cs ag := Eq.trans rfl rfl
theorem load_rp {h : Heap} {ag : Option Nat} {id off : Nat} {cs : List AV} (hl : live h id = some cs) : zyd4 h ag (.rp id off) = zyem (cs.drop off) ag := by simp [zyd4, hl]
theorem zyam {h : Heap} {k : IntKind} {l : List Nat} {id off : Nat} (hl : live h id = some (nl k l)) (ho : off < l.length) : zyd4 h none (.rp id off) = some (nat k (l.getD off 0)) := by rw [load_rp hl, rd_nl ho]
theorem load_nats {h : Heap} {k : IntKind} {l : List Nat} {j : Nat} (hj : j < l.length) : zyd4 h none (.ip ((nl k l).drop j)) = some (nat k (l.getD j 0)) := rd_nl hj

theorem zygf {k : IntKind} {l : List Nat} {off a : Nat} (h : off < l.length) : zygd (nl k l) off [nat k a] = nl k (l.set off a) := by
 rw [← nl_set]
 unfold zygd
 apply List.ext_getElem?
 intro j
 rw [List.getElem?_set, List.append_assoc, List.getElem?_append, List.length_take, zyc6, Nat.min_eq_left (by omega), List.getElem?_take]
 by_cases h1 : j < off
 ·rw [if_pos h1, if_pos h1, if_neg (by omega)]
 ·rw [if_neg h1]
  by_cases h2 : off = j
  ·subst h2; simp [zyc6, h]
  ·rw [if_neg h2, List.getElem?_append_right (by simp; omega), List.getElem?_drop]
   congr 1
   simp; omega

theorem zygw {h : Heap} {k : IntKind} {l : List Nat} {id off a : Nat} (hl : live h id = some (nl k l)) (ho : off < l.length) : zydm h 1 (.rp id off) (nat k a) = some (h.set id (some (nl k (l.set off a)))) := by
 have e : (nat k a).cells = [nat k a] := rfl
 simp only [zydm, hl, Option.bind_some, e, zygf ho, zyc6]
 rw [if_pos]
 refine ⟨rfl, by simp [AV.cell, nat], by omega⟩

theorem zyae {h : Heap} {id : Nat} {cs : List AV} (hl : live h id = some cs) : id < h.length := by
 rcases Nat.lt_or_ge id h.length with h1 | h1
 ·exact h1
 ·simp [live, List.getElem?_eq_none h1] at hl
theorem zyai {h : Heap} {id : Nat} {cs ds : List AV} (hl : live h id = some ds) : live (h.set id (some cs)) id = some cs := by
 simp [live, List.getElem?_set, zyae hl]
theorem zyah {h : Heap} {id j : Nat} {x : Option (List AV)} (hne : id ≠ j) : live (h.set id x) j = live h j := by
 simp [live, List.getElem?_set, hne]
theorem zya9 {h : Heap} {cs : List AV} : live (h ++ [some cs]) h.length = some cs := by simp [live]
theorem zyaa {h : Heap} {cs : List AV} {n : Nat} (hn : n = h.length) : live (h ++ [some cs]) n = some cs := by subst hn; exact zya9
theorem zya8 {h : Heap} {id : Nat} {cs : List AV} {x : Option (List AV)} (hl : live h id = some cs) : live (h ++ [x]) id = some cs := by
 have := zyae hl
 simp only [live] at hl ⊢
 rw [List.getElem?_append_left this]; exact hl
theorem zya7 {h : Heap} {id : Nat} {x : Option (List AV)} (hl : id < h.length) : live (h ++ [x]) id = live h id := by
 simp only [live]
 rw [List.getElem?_append_left hl]
theorem zyaf {cs : List AV} : live [some cs] 0 = some cs := Eq.trans rfl rfl

theorem zyiq {k : IntKind} : ∀ n, zeros [nat k 0] n = nl k (List.replicate n 0)
 | 0 => rfl
 | n + 1 => by rw [zeros, zyiq n]; rfl
theorem zybk {h : Heap} {k : IntKind} {n c : Int} (h1 : 0 ≤ n) (h2 : n ≤ c) (h3 : c ≤ 4294967296) : opMks h 1 [nat k 0] (.int .i64 n) (.int .i64 c) = some (.rs 1 h.length 0 n.toNat, h ++ [some (nl k (List.replicate n.toNat 0))]) := by
 simp only [opMks]; rw [if_pos ⟨h1, h2, h3⟩, zyiq]


theorem slc_rs {sz id off n : Nat} {k k' : IntKind} {a b : Int} (h1 : 0 ≤ a) (h2 : a ≤ b) (h3 : b ≤ n) : opSlc sz (.rs sz id off n) (some (.int k a)) (some (.int k' b)) none = some (.rs sz id (off + a.toNat * sz) (b.toNat - a.toNat)) := by
 have h4 : 0 ≤ b := by omega
 simp only [opSlc, bnd, if_pos h4, if_pos h1, Option.bind_some]
 rw [if_pos (by refine ⟨trivial, ?_, ?_, ?_⟩ <;> omega)]
theorem slc_rs0 {sz id off n : Nat} {k' : IntKind} {b : Int} (h2 : 0 ≤ b) (h3 : b ≤ n) : opSlc sz (.rs sz id off n) none (some (.int k' b)) none = some (.rs sz id off b.toNat) := by
 simp only [opSlc, bnd, if_pos h2, Option.bind_some]
 rw [if_pos (by refine ⟨trivial, ?_, ?_, ?_⟩ <;> omega)]
 simp
theorem slc_rs3 {sz id off n : Nat} {k k' : IntKind} {b : Int} (h2 : 0 ≤ b) (h3 : b ≤ n) : opSlc sz (.rs sz id off n) none (some (.int k b)) (some (.int k' b)) = some (.rs sz id off b.toNat) := by
 simp only [opSlc, bnd, if_pos h2, Option.bind_some]
 rw [if_pos (by refine ⟨trivial, ?_, ?_, ?_⟩ <;> omega)]
 simp
theorem slc_rsl {sz id off n : Nat} {k : IntKind} {a : Int} (h1 : 0 ≤ a) (h2 : a ≤ n) : opSlc sz (.rs sz id off n) (some (.int k a)) none none = some (.rs sz id (off + a.toNat * sz) (n - a.toNat)) := by
 simp only [opSlc, bnd, if_pos h1, Option.bind_some]
 rw [if_pos (by refine ⟨trivial, ?_, ?_, ?_⟩ <;> omega)]
theorem slc_is0 {sz n : Nat} {f : Bool} {cs : List AV} {k' : IntKind} {b : Int} (h2 : 0 ≤ b) (h3 : b ≤ n) : opSlc sz (.is n f cs) none (some (.int k' b)) none = some (.is b.toNat (f && b.toNat == n) (cs.take (b.toNat * sz))) := by
 simp only [opSlc, bnd, if_pos h2, Option.bind_some]
 rw [if_pos (by refine ⟨?_, ?_, ?_⟩ <;> omega)]
 simp [zy6b]
theorem slc_is3 {sz n : Nat} {f : Bool} {cs : List AV} {k k' : IntKind} {b : Int} (h2 : 0 ≤ b) (h3 : b ≤ n) : opSlc sz (.is n f cs) none (some (.int k b)) (some (.int k' b)) = some (.is b.toNat true (cs.take (b.toNat * sz))) := by
 simp only [opSlc, bnd, if_pos h2, Option.bind_some]
 rw [if_pos (by refine ⟨?_, ?_, ?_⟩ <;> omega)]
 simp [zy6b]

theorem zyc5 (k : IntKind) (l : List Nat) : (nl k l).all AV.cell = true := by simp [nl, nat, AV.cell]
inductive Row (h : Heap) (k : IntKind) : AV → List Nat → Prop
 | is (f : Bool) (l : List Nat) : Row h k (.is l.length f (nl k l)) l
 | rs (id off : Nat) (cs : List AV) (l : List Nat) (hl : live h id = some cs) (hb : off + l.length ≤ cs.length) (hc : (cs.drop off).take l.length = nl k l) : Row h k (.rs 1 id off l.length) l

theorem Row.nats (h : Heap) (l : List Nat) : Row h .u64 (nats l) l := .is false l
theorem Row.nil (h : Heap) (k : IntKind) (f : Bool) : Row h k (.is 0 f []) [] := .is f []
theorem Row.own {h : Heap} {k : IntKind} {id : Nat} {l : List Nat} (hl : live h id = some (nl k l)) : Row h k (.rs 1 id 0 l.length) l := .rs id 0 _ l hl (by rw [zyc6]; omega) (by rw [List.drop_zero, ← zyc6 k l, List.take_length])
theorem Row.part {h : Heap} {k : IntKind} {id : Nat} {l : List Nat} (hl : live h id = some (nl k l)) {off n : Nat} (ho : off + n ≤ l.length) : Row h k (.rs 1 id off n) ((l.drop off).take n) := by
 have e : ((l.drop off).take n).length = n := by simp; omega
 have := Row.rs (h := h) (k := k) id off _ ((l.drop off).take n) hl (by rw [e, zyc6]; omega) (by rw [nl_drop, zyc7, e])
 rwa [e] at this

theorem Row.len {h : Heap} {k : IntKind} {x : AV} {l : List Nat} (hr : Row h k x l) : opLen false x = some (.int .i64 l.length) := by cases hr <;> rfl
theorem Row.notStr {h : Heap} {k : IntKind} {x : AV} {l : List Nat} (hr : Row h k x l) : x.notStr = true := by cases hr <;> rfl

theorem Row.elems {h : Heap} {k : IntKind} {x : AV} {l : List Nat} (hr : Row h k x l) : zy4j h 1 x = some (l.length, nl k l) := by
 cases hr with
 | is f l => simp [zy4j, zyc6, List.take_of_length_le]
 | rs id off cs l hl hb hc =>
  simp only [zy4j, hl, Option.bind_some, Nat.mul_one, hc]
  rw [if_pos ⟨trivial, hb⟩]

theorem Row.rd {h : Heap} {k k' : IntKind} {x : AV} {l : List Nat} (hr : Row h k x l) {z : Int} (h1 : 0 ≤ z) (h2 : z < l.length) {R : Type} (F : AV → Option R) :
  ((zydh 1 x (.int k' z)).bind fun a => (zyd4 h none a).bind F) = F (nat k (l.getD z.toNat 0)) := by
 have hz : z.toNat < l.length := by omega
 cases hr with
 | is f l => rw [zyg8 h1 h2, Nat.mul_one]; simp only [Option.bind_some]; rw [load_nats hz]; rfl
 | rs id off cs l hl hb hc =>
  rw [zyg9 h1 h2, Nat.mul_one]
  simp only [Option.bind_some]
  rw [load_rp hl]
  have : zyem (cs.drop (off + z.toNat)) none = zyem (((cs.drop off).take l.length).drop z.toNat) none := by
   simp only [zyem, List.head?_drop, List.getElem?_take, List.getElem?_drop]
   rw [if_pos hz]
  rw [this, hc, rd_nl hz]; rfl

def AV.cut : AV → Nat → AV
 | .is _ _ cs, m => .is m true (cs.take m)
 | .rs sz id off _, m => .rs sz id off m
 | x, _ => x

theorem Row.cut {h : Heap} {k : IntKind} {x : AV} {l : List Nat} (hr : Row h k x l) {m : Nat} (hm : m ≤ l.length) : Row h k (x.cut m) (l.take m) := by
 have e : (l.take m).length = m := by simp; omega
 cases hr with
 | is f l =>
  have := Row.is (h := h) (k := k) true (l.take m)
  rw [e] at this
  simpa [AV.cut, zyc7] using this
 | rs id off cs l hl hb hc =>
  have := Row.rs (h := h) (k := k) id off cs (l.take m) hl (by omega) (by
   rw [e, ← zyc7, ← hc, List.take_take, Nat.min_eq_left hm])
  rw [e] at this
  exact this

theorem Row.slc3 {h : Heap} {k k1 k2 : IntKind} {x : AV} {l : List Nat} (hr : Row h k x l) {b : Int} (h1 : 0 ≤ b) (h2 : b ≤ l.length) : opSlc 1 x none (some (.int k1 b)) (some (.int k2 b)) = some (x.cut b.toNat) := by
 cases hr with
 | is f l => rw [slc_is3 h1 h2, Nat.mul_one]; rfl
 | rs id off cs l hl hb hc => rw [slc_rs3 h1 h2]; rfl

theorem Row.mono {h h' : Heap} {k : IntKind} {x : AV} {l : List Nat} (hr : Row h k x l) (hh : ∀ id off n cs, x = .rs 1 id off n → live h id = some cs → live h' id = some cs) : Row h' k x l := by
 cases hr with
 | is f l => exact .is f l
 | rs id off cs l hl hb hc => exact .rs id off cs l (hh id off _ cs rfl hl) hb hc


theorem app_row {h : Heap} {k : IntKind} {id : Nat} {y : AV} {l m : List Nat} (hl : live h id = some (nl k l)) (hy : Row h k y m) (hm : m ≠ []) (hs : l.length + m.length ≤ 4294967296) :
  opApp h 1 (.rs 1 id 0 l.length) y = some (.rs 1 h.length 0 (l.length + m.length), h.set id none ++ [some (nl k (l ++ m))]) := by
 have h0 : m.length ≠ 0 := fun e => hm (List.length_eq_zero_iff.1 e)
 simp only [opApp, hy.elems, (Row.own hl).elems, Option.bind_some, zyc5, AV.notStr, and_true, hs, if_true, h0, if_false, nl_append]

theorem zy0n {h : Heap} {k : IntKind} {y : AV} {m : List Nat} (hy : Row h k y m) (hm : m ≠ []) (hs : m.length ≤ 4294967296) :
  opApp h 1 (.is 0 true []) y = some (.rs 1 h.length 0 m.length, h ++ [some (nl k m)]) := by
 have h0 : m.length ≠ 0 := fun e => hm (List.length_eq_zero_iff.1 e)
 have e : zy4j h 1 (.is 0 true []) = some (0, []) := rfl
 simp only [opApp, hy.elems, e, Option.bind_some, zyc5, AV.notStr, and_true, Nat.zero_add, hs, if_true, h0, if_false, List.nil_append]

theorem zy0o {h : Heap} {k : IntKind} {x y : AV} {l : List Nat} (hx : Row h k x l) (hy : Row h k y []) (hs : l.length ≤ 4294967296) : opApp h 1 x y = some (x, h) := by
 simp only [opApp, hy.elems, hx.elems, Option.bind_some, zyc5, hx.notStr, and_true, List.length_nil, Nat.add_zero, hs, if_true]

theorem bslc_0 {k : IntKind} : zycy 1 0 [nat k 0] [] = some (.is 0 true (nl k [])) := Eq.trans rfl rfl
theorem bslc_1 {k : IntKind} {a : Nat} : zycy 1 1 [nat k 0] [(0, nat k a)] = some (.is 1 true (nl k [a])) := by
 simp [zycy, fillA, zeros, zygd, AV.cells, AV.ok, nat, nl]
theorem bslc_2 {k : IntKind} {a b : Nat} : zycy 1 2 [nat k 0] [(0, nat k a), (1, nat k b)] = some (.is 2 true (nl k [a, b])) := by
 simp [zycy, fillA, zeros, zygd, AV.cells, AV.ok, nat, nl]
theorem zy1g {n : Nat} {f : Bool} {cs : List AV} : zycy 1 1 [.is 0 true []] [(0, .is n f cs)] = some (.is 1 true [.is n f cs]) := by
 simp [zycy, fillA, zeros, zygd, AV.cells, AV.ok]
theorem zy1h {n m : Nat} {f g : Bool} {cs ds : List AV} : zycy 1 2 [.is 0 true []] [(0, .is n f cs), (1, .is m g ds)] = some (.is 2 true [.is n f cs, .is m g ds]) := by
 simp [zycy, fillA, zeros, zygd, AV.cells, AV.ok]


def Imm (d : Nat) (a : AV) : Prop := ∀ n, d ≤ n → zyca n a = true ∧ ∀ h, zy5w n h a = some a

theorem Imm.mono {d e : Nat} {a : AV} (h : Imm d a) (hd : d ≤ e) : Imm e a := fun n hn => h n (by omega)
theorem imm_int {k : IntKind} {z : Int} : Imm 1 (.int k z) := fun n hn => by cases n with | zero => omega | succ n => exact ⟨rfl, fun _ => rfl⟩
theorem zy7j {k : IntKind} {z : Nat} : Imm 1 (nat k z) := imm_int
theorem imm_bool {b : Bool} : Imm 1 (.bool b) := fun n hn => by cases n with | zero => omega | succ n => exact ⟨rfl, fun _ => rfl⟩
theorem imm_str {s : ByteArray} : Imm 1 (.str s) := fun n hn => by cases n with | zero => omega | succ n => exact ⟨rfl, fun _ => rfl⟩

theorem zy7i {d : Nat} {cs : List AV} (h : ∀ c ∈ cs, Imm d c) {n : Nat} (hn : d ≤ n) (hp : Heap) : cs.mapM (zy5w n hp) = some cs := by
 induction cs with
 | nil => rfl
 | cons c cs ih =>
  rw [List.mapM_cons, (h c (List.mem_cons_self ..) n hn).2 hp, ih fun x hx => h x (List.mem_cons_of_mem _ hx)]
  rfl
theorem zy78 {d : Nat} {cs : List AV} (h : ∀ c ∈ cs, Imm d c) {n : Nat} (hn : d ≤ n) : cs.all (zyca n) = true := List.all_eq_true.2 fun c hc => (h c hc n hn).1

theorem fz_is {m n : Nat} {f : Bool} {h : Heap} {cs : List AV} : zy5w (m + 1) h (.is n f cs) = (cs.mapM (zy5w m h)).map (.is n false) := Eq.trans rfl rfl
theorem fz_agg {m : Nat} {h : Heap} {cs : List AV} : zy5w (m + 1) h (.agg cs) = (cs.mapM (zy5w m h)).map .agg := Eq.trans rfl rfl
theorem fz_rs {m sz id off n : Nat} {h : Heap} : zy5w (m + 1) h (.rs sz id off n) = (live h id).bind fun cs => if off + n * sz ≤ cs.length then (((cs.drop off).take (n * sz)).mapM (zy5w m h)).map (.is n false) else none := Eq.trans rfl rfl

theorem zy7d {d n : Nat} {cs : List AV} (h : ∀ c ∈ cs, Imm d c) : Imm (d + 1) (.is n false cs) := fun m hm => by
 cases m with
 | zero => omega
 | succ m => exact ⟨zy78 h (by omega), fun hp => by rw [fz_is, zy7i h (by omega)]; rfl⟩
theorem zy77 {d : Nat} {cs : List AV} (h : ∀ c ∈ cs, Imm d c) : Imm (d + 1) (.agg cs) := fun m hm => by
 cases m with
 | zero => omega
 | succ m => exact ⟨zy78 h (by omega), fun hp => by rw [fz_agg, zy7i h (by omega)]; rfl⟩
theorem zy7k (k : IntKind) (l : List Nat) : ∀ c ∈ nl k l, Imm 1 c := fun c hc => by
 obtain ⟨a, _, rfl⟩ := List.mem_map.1 hc
 exact zy7j
theorem imm_nats {l : List Nat} : Imm 2 (nats l) := zy7d (zy7k _ l)
theorem zy7t {d : Nat} {a b : AV} (ha : Imm d a) (hb : Imm d b) : ∀ c ∈ [a, b], Imm d c := fun c hc => by
 simp only [List.mem_cons, List.not_mem_nil, or_false] at hc
 rcases hc with rfl | rfl <;> assumption
theorem zy7s {d : Nat} {a b c : AV} (ha : Imm d a) (hb : Imm d b) (hc : Imm d c) : ∀ x ∈ [a, b, c], Imm d x := fun x hx => by
 simp only [List.mem_cons, List.not_mem_nil, or_false] at hx
 rcases hx with rfl | rfl | rfl <;> assumption

theorem Imm.frz {d : Nat} {a : AV} (h : Imm d a) (hd : d ≤ 12) (hp : Heap) : zy5v hp a = some a := (h 12 hd).2 hp
theorem zy64 {h : Heap} {k : IntKind} {z : Int} : zy5v h (.int k z) = some (.int k z) := Eq.trans rfl rfl
theorem frz_nat {h : Heap} {k : IntKind} {z : Nat} : zy5v h (nat k z) = some (nat k z) := Eq.trans rfl rfl
theorem zy63 {h : Heap} {b : Bool} : zy5v h (.bool b) = some (.bool b) := Eq.trans rfl rfl
theorem Row.frzN {h : Heap} {k : IntKind} {x : AV} {l : List Nat} (hr : Row h k x l) {n : Nat} (hn : 2 ≤ n) : zy5w n h x = some (.is l.length false (nl k l)) := by
 obtain ⟨n, rfl⟩ : ∃ m, n = m + 1 := ⟨n - 1, by omega⟩
 cases hr with
 | is f l => rw [fz_is, zy7i (zy7k k l) (by omega)]; rfl
 | rs id off cs l hl hb hc =>
  simp only [fz_rs, hl, Option.bind_some, Nat.mul_one, hc]
  rw [if_pos hb, zy7i (zy7k k l) (by omega)]; rfl

theorem Row.frz {h : Heap} {x : AV} {l : List Nat} (hr : Row h .u64 x l) : zy5v h x = some (Am.nats l) := hr.frzN (by omega)

theorem zy6a {h : Heap} {a b a' b' : AV} (ha : zy5w 11 h a = some a') (hb : zy5w 11 h b = some b') : zy5v h (.tup [a, b]) = some (.tup [a', b']) := by
 show ((([a, b] : List AV).mapM (zy5w 11 h)).map AV.tup) = _
 simp [List.mapM_cons, ha, hb]
theorem frz_tup3 {h : Heap} {a b c a' b' c' : AV} (ha : zy5w 11 h a = some a') (hb : zy5w 11 h b = some b') (hc : zy5w 11 h c = some c') : zy5v h (.tup [a, b, c]) = some (.tup [a', b', c']) := by
 show ((([a, b, c] : List AV).mapM (zy5w 11 h)).map AV.tup) = _
 simp [List.mapM_cons, ha, hb, hc]

theorem zy1m {G : Prog} {h : Heap} {f : Nat} {args : List AV} {r : Option AV} (ha : ∀ a ∈ args, Imm 12 a) (hc : cv G f args = r) : byVal (callW G) h f args = r := by
 rw [zy1k]
 have h1 : args.mapM (zy5v h) = some args := zy7i ha (Nat.le_refl _) h
 have h2 : args.all noRef = true := zy78 ha (Nat.le_refl _)
 rw [h1]
 simp only [Option.bind_some, hc, h2, Bool.true_or, if_true]
 cases r <;> rfl

theorem zy1l {G : Prog} {h : Heap} {f : Nat} {args xs : List AV} {v : AV} (ha : args.mapM (zy5v h) = some xs) (hc : cv G f xs = some v) (hf : flatV v = true) : byVal (callW G) h f args = some v := by
 rw [zy1k, ha]
 simp only [Option.bind_some, hc, hf, Bool.or_true, if_true]

theorem mapM1 {f : AV → Option AV} {a a' : AV} (h1 : f a = some a') : [a].mapM f = some [a'] := by simp [List.mapM_cons, h1]
theorem mapM2 {f : AV → Option AV} {a b a' b' : AV} (h1 : f a = some a') (h2 : f b = some b') : [a, b].mapM f = some [a', b'] := by simp [List.mapM_cons, h1, h2]

def str (l : List Nat) : AV := .str ⟨(l.map UInt8.ofNat).toArray⟩
def zy1w (s : ByteArray) : List Nat := s.data.toList.map (·.toNat)

theorem zygz (s : ByteArray) : str (zy1w s) = .str s := by
 unfold str zy1w
 congr 1
 rw [List.map_map]
 have : (s.data.toList.map (UInt8.ofNat ∘ fun x => x.toNat)) = s.data.toList := by
  rw [List.map_congr_left (g := id) fun x _ => by simp, List.map_id]
 rw [this]
theorem zy20 (s : ByteArray) : ∀ x ∈ zy1w s, x < 256 := fun x hx => by
 obtain ⟨b, _, rfl⟩ := List.mem_map.1 hx
 exact b.toNat_lt
theorem len_str {l : List Nat} : opLen true (str l) = some (.int .i64 l.length) := by
 simp [opLen, str, ByteArray.size]
theorem imm_strl {l : List Nat} : Imm 1 (str l) := imm_str
theorem zyh5 {l : List Nat} {k : IntKind} {z : Int} (hb : ∀ x ∈ l, x < 256) (h1 : 0 ≤ z) (h2 : z < l.length) : zydo (str l) (.int k z) = some (nat .u8 (l.getD z.toNat 0)) := by
 have hz : z.toNat < l.length := by omega
 simp only [zydo, str]
 rw [if_pos h1]
 have : (l.map UInt8.ofNat).toArray[z.toNat]? = some (UInt8.ofNat l[z.toNat]) := by simp [hz]
 rw [this]
 simp only [Option.map_some, nat, List.getD_eq_getElem?_getD, List.getElem?_eq_getElem hz, Option.getD_some]
 have : (UInt8.ofNat l[z.toNat]).toNat = l[z.toNat] := by
  rw [UInt8.toNat_ofNat']
  exact Nat.mod_eq_of_lt (hb _ (List.getElem_mem hz))
 rw [this]

theorem zybd : ∀ {l m : List Nat}, (∀ x ∈ l, x < 256) → (∀ x ∈ m, x < 256) → l.map UInt8.ofNat = m.map UInt8.ofNat → l = m
 | [], [], _, _, _ => rfl
 | [], _ :: _, _, _, h => by simp at h
 | _ :: _, [], _, _, h => by simp at h
 | a :: l, b :: m, hl, hm, h => by
  simp only [List.map_cons, List.cons.injEq] at h
  have ha := hl a (List.mem_cons_self ..)
  have hb := hm b (List.mem_cons_self ..)
  have h1 : a = b := by
   have := congrArg UInt8.toNat h.1
   rwa [UInt8.toNat_ofNat', UInt8.toNat_ofNat', Nat.mod_eq_of_lt ha, Nat.mod_eq_of_lt hb] at this
  rw [h1, zybd (fun x hx => hl x (List.mem_cons_of_mem _ hx)) (fun x hx => hm x (List.mem_cons_of_mem _ hx)) h.2]
theorem zyhd {l : List Nat} : (ByteArray.mk (l.map UInt8.ofNat).toArray).toList = l.map UInt8.ofNat := ByteArray.toList_eq _

theorem str_eq {l m : List Nat} (hl : ∀ x ∈ l, x < 256) (hm : ∀ x ∈ m, x < 256) : (l.map UInt8.ofNat == m.map UInt8.ofNat) = decide (l = m) := by
 by_cases h : l = m
 ·subst h; simp
 ·rw [decide_eq_false h, ← Bool.not_eq_true, beq_iff_eq]
  exact fun e => h (zybd hl hm e)
theorem zyh1 {l m : List Nat} (hl : ∀ x ∈ l, x < 256) (hm : ∀ x ∈ m, x < 256) : opBin .eql (str l) (str m) = some (.bool (decide (l = m))) := by
 simp only [opBin, zygx, str, zyhd, str_eq hl hm]
theorem zyh2 {l m : List Nat} (hl : ∀ x ∈ l, x < 256) (hm : ∀ x ∈ m, x < 256) : opBin .neq (str l) (str m) = some (.bool (decide (l ≠ m))) := by
 simp only [opBin, zygx, str, zyhd, str_eq hl hm, decide_not]
theorem zyh3 : AV.str ⟨#[]⟩ = str [] := Eq.trans rfl rfl

theorem zy1y {l : List Nat} : zy1x (nl .u8 l) = some (l.map UInt8.ofNat) := by
 induction l with
 | nil => rfl
 | cons a l ih =>
  show (zy1x (nl .u8 l)).map _ = _
  rw [ih]; rfl
theorem Row.b2s {h : Heap} {x : AV} {l : List Nat} (hr : Row h .u8 x l) : opB2s h x = some (str l) := by
 have : opB2s h x = (zy4j h 1 x).bind fun (_, cs) => (zy1x cs).map fun l => .str ⟨l.toArray⟩ := by cases hr <;> rfl
 rw [this, hr.elems]
 simp only [Option.bind_some, zy1y, Option.map_some]
 rfl
end Go.Proofs.YtiblnpnfaadmcaaGreat.Am
