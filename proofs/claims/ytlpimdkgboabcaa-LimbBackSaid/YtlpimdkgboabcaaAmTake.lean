/- The limbs' functions that write: a row taken off, a product added. -/
import Derived.Test.YtlpimdkgboabcaaAmLimb
set_option linter.unusedVariables false
set_option linter.unusedSimpArgs false
namespace Go.Proofs.Ytlpimdkgboabcaa.Am
open Go

theorem val_cut {B : Nat} (l : List Nat) (i k : Nat) : val B ((l.drop i).take (k + 1)) = l.getD i 0 + B * val B ((l.drop (i + 1)).take k) := by
  rcases Nat.lt_or_ge i l.length with h | h
  · rw [drop_cons l i h, List.take_succ_cons, val_cons]
  · rw [List.drop_of_length_le h, List.drop_of_length_le (by omega), getD_out l i h]
    simp [val]
theorem set_take_succ (l : List Nat) (p x : Nat) (hp : p < l.length) : (l.set p x).take (p + 1) = l.take p ++ [x] := by
  rw [take_snoc _ _ (by simpa using hp), List.take_set_of_le (Nat.le_refl _), getD_set, if_pos ⟨rfl, hp⟩]
theorem set_drop_lt (l : List Nat) (p q x : Nat) (h : p < q) : (l.set p x).drop q = l.drop q := by
  rw [List.drop_set, if_pos h]

/-- A row that does not stand in this block. -/
def Off (id : Nat) (y : AV) : Prop := ∀ id' off n, y = .rs 1 id' off n → id' ≠ id
theorem Off.nats (id : Nat) (l : List Nat) : Off id (nats l) := fun _ _ _ h => by cases h
theorem Off.is (id n : Nat) (f : Bool) (cs : List AV) : Off id (.is n f cs) := fun _ _ _ h => by cases h
theorem Off.rs {id id' off n : Nat} (h : id' ≠ id) : Off id (.rs 1 id' off n) := fun _ _ _ e => by cases e; exact h
theorem Off.cut {id : Nat} {y : AV} (h : Off id y) (m : Nat) : Off id (y.cut m) := by
  intro id' off n e
  cases y <;> simp only [AV.cut] at e <;> try (cases e; done)
  all_goals try exact h _ _ _ e
  cases e
  exact h _ _ _ rfl
theorem Row.other {h : Heap} {k : IntKind} {y : AV} {l : List Nat} {id : Nat} (hr : Row h k y l) (ho : Off id y) (x : Option (List AV)) : Row (h.set id x) k y l :=
  hr.mono fun id' off n cs e hl => by rw [live_set_ne (Ne.symm (ho id' off n e))]; exact hl

theorem set_set {h : Heap} {id : Nat} {a b : Option (List AV)} : (h.set id a).set id b = h.set id b := by simp

theorem set_same {h : Heap} {id : Nat} {cs : List AV} (hl : live h id = some cs) : h.set id (some cs) = h := by
  apply List.ext_getElem?
  intro j
  rw [List.getElem?_set]
  split
  · rename_i e
    subst e
    have h1 := live_lt hl
    simp only [live, List.getElem?_eq_getElem h1, Option.join_some] at hl
    rw [if_pos h1, List.getElem?_eq_getElem h1, hl]
  · rfl

theorem sub_digit {x y b : Nat} (hx : x < B64) (hy : y < B64) (hb : b ≤ 1) : (x + 18446744073709551616 - y - b) % 18446744073709551616 + y + b = x + (if x < y + b then 1 else 0) * B64 := by
  unfold B64 at *
  split <;> omega

theorem take_j0 {h : Heap} {id off n : Nat} {y1 y9 : AV} {cs : List Nat} (hl : live h id = some (nl .u64 cs)) {i : Nat} (hi : i < n) (hn : off + n ≤ cs.length) (hs : n ≤ 4611686018427387904) {y b : Nat} (hb : b ≤ 1) :
    limb_take.j0 (.rs 1 id off n) y1 (nat .u64 b) (.int .i64 i) (nat .u64 y) y9 (.int .i64 i) h =
      limb_take.l0 (.rs 1 id off n) y1 (nat .u64 (if cs.getD (off + i) 0 < y + b then 1 else 0)) y9 (.int .i64 ((i + 1 : Nat) : Int)) (h.set id (some (nl .u64 (cs.set (off + i) ((cs.getD (off + i) 0 + 18446744073709551616 - y - b) % 18446744073709551616))))) := by
  unfold limb_take.j0
  rw [sidx_rs (by omega) (by omega)]
  simp only [bind_s, Int.toNat_natCast, Nat.mul_one]
  rw [load_nl hl (by omega)]
  simp only [bind_s]
  rw [sub64 hb]
  simp only [bind_s, ext0, ext1]
  rw [store_nl hl (by omega)]
  simp only [bind_s]
  rw [int_add (by omega) (by omega)]
  rfl

/-- A row is taken off another one. -/
theorem take_l0 {id off n : Nat} {y1 : AV} {l : List Nat} (ho : Off id y1) (hdl : Dg B64 l) (hs : n ≤ 4611686018427387904) (hsl : l.length ≤ 4611686018427387904) : ∀ (k i : Nat) (h : Heap) (cs : List Nat) (b : Nat), i + k = n → live h id = some (nl .u64 cs) → Row h .u64 y1 l → off + n ≤ cs.length → Dg B64 cs → b ≤ 1 →
    ∃ f b', limb_take.l0 (.rs 1 id off n) y1 (nat .u64 b) (.int .i64 n) (.int .i64 i) h = some (nat .u64 b', h.set id (some (nl .u64 (cs.take (off + i) ++ f ++ cs.drop (off + n))))) ∧ f.length = k ∧ Dg B64 f ∧ b' ≤ 1 ∧
      val B64 f + val B64 ((l.drop i).take k) + b = val B64 ((cs.drop (off + i)).take k) + b' * B64 ^ k := by
  intro k
  induction k with
  | zero =>
    intro i h cs b hik hl hr hn hd hb
    refine ⟨[], b, ?_, rfl, .nil, hb, by simp [val]⟩
    rw [limb_take.l0_eq]
    simp only [bin_lss, bind_s, cond_d]
    rw [if_neg (by omega)]
    have : cs.take (off + i) ++ [] ++ cs.drop (off + n) = cs := by rw [List.append_nil, show i = n by omega, List.take_append_drop]
    rw [this]
    rw [set_same hl]
  | succ k ih =>
    intro i h cs b hik hl hr hn hd hb
    rw [limb_take.l0_eq]
    simp only [bin_lss, bind_s, cond_d]
    rw [if_pos (by omega), hr.len]
    simp only [bind_s, bin_lss, cond_d]
    have hx : cs.getD (off + i) 0 < B64 := hd.getD (by decide)
    have key : ∀ y, y = l.getD i 0 → ∃ f b', limb_take.j0 (.rs 1 id off n) y1 (nat .u64 b) (.int .i64 i) (nat .u64 y) (.int .i64 n) (.int .i64 i) h = some (nat .u64 b', h.set id (some (nl .u64 (cs.take (off + i) ++ f ++ cs.drop (off + n))))) ∧ f.length = k + 1 ∧ Dg B64 f ∧ b' ≤ 1 ∧
        val B64 f + val B64 ((l.drop i).take (k + 1)) + b = val B64 ((cs.drop (off + i)).take (k + 1)) + b' * B64 ^ (k + 1) := by
      intro y hy
      have hy64 : y < B64 := by rw [hy]; exact hdl.getD (by decide)
      rw [take_j0 hl (by omega) hn hs hb]
      have hsd := sub_digit hx hy64 hb
      have hxd : (cs.getD (off + i) 0 + 18446744073709551616 - y - b) % 18446744073709551616 < B64 := Nat.mod_lt _ (by omega)
      generalize (cs.getD (off + i) 0 + 18446744073709551616 - y - b) % 18446744073709551616 = x' at *
      obtain ⟨b1, hb1⟩ : ∃ b1, b1 = (if cs.getD (off + i) 0 < y + b then 1 else 0) := ⟨_, rfl⟩
      rw [← hb1] at hsd ⊢
      have hb11 : b1 ≤ 1 := by rw [hb1]; split <;> omega
      obtain ⟨f, b', e1, e2, e3, e4, e5⟩ := ih (i + 1) (h.set id (some (nl .u64 (cs.set (off + i) x')))) (cs.set (off + i) x') b1 (by omega) (live_set_self hl) (hr.other ho _) (by simpa using hn) (hd.set hxd) hb11
      refine ⟨x' :: f, b', ?_, by simp [e2], .cons hxd e3, e4, ?_⟩
      · rw [e1, set_set, show off + (i + 1) = off + i + 1 by omega, set_take_succ _ _ _ (by omega), set_drop_lt _ _ _ _ (by omega)]
        simp
      · rw [val_cons, val_cut, val_cut, ← hy]
        rw [show off + (i + 1) = off + i + 1 by omega, set_drop_lt _ _ _ _ (by omega)] at e5
        rw [Nat.pow_succ]
        generalize val B64 f = vf at *
        generalize val B64 ((l.drop (i + 1)).take k) = vl at *
        generalize val B64 ((cs.drop (off + i + 1)).take k) = vc at *
        generalize cs.getD (off + i) 0 = x at *
        have e6 : B64 * (vf + vl + b1) = B64 * (vc + b' * B64 ^ k) := by rw [e5]
        rw [Nat.mul_add, Nat.mul_add, Nat.mul_add] at e6
        have e7 : b' * (B64 ^ k * B64) = B64 * (b' * B64 ^ k) := by rw [← Nat.mul_assoc, Nat.mul_comm]
        rw [e7]
        have e8 : b1 * B64 = B64 * b1 := Nat.mul_comm _ _
        omega
    by_cases h1 : i < l.length
    · rw [if_pos (by omega), hr.rd (by omega) (by omega), Int.toNat_natCast]
      exact key _ rfl
    · rw [if_neg (by omega)]
      exact key 0 (getD_out l i (by omega)).symm

theorem take_run {h : Heap} {id off n : Nat} {y1 : AV} {l cs : List Nat} (ho : Off id y1) (hdl : Dg B64 l) (hs : n ≤ 4611686018427387904) (hsl : l.length ≤ 4611686018427387904) (hl : live h id = some (nl .u64 cs)) (hr : Row h .u64 y1 l) (hn : off + n ≤ cs.length) (hd : Dg B64 cs) :
    ∃ f b', callW gp fid.limb_take [.rs 1 id off n, y1] h = some (nat .u64 b', h.set id (some (nl .u64 (cs.take off ++ f ++ cs.drop (off + n))))) ∧ f.length = n ∧ Dg B64 f ∧ b' ≤ 1 ∧
      val B64 f + val B64 (l.take n) = val B64 ((cs.drop off).take n) + b' * B64 ^ n := by
  obtain ⟨f, b', e1, e2, e3, e4, e5⟩ := take_l0 ho hdl hs hsl n 0 h cs 0 (by omega) hl hr hn hd (by omega)
  refine ⟨f, b', ?_, e2, e3, e4, by simpa using e5⟩
  rw [limb_take.eq]
  unfold limb_take.f
  simp only [len_rs, bind_s]
  exact e1

/-! ### addProduct -/

theorem mul_digit {x y t c : Nat} (hx : x < B64) (hy : y < B64) (ht : t < B64) (hc : c < B64) :
    (((x * y % 18446744073709551616 + t + 0) % 18446744073709551616 + c + 0) % 18446744073709551616) + B64 * (((x * y / 18446744073709551616 + (x * y % 18446744073709551616 + t + 0) / 18446744073709551616) % 18446744073709551616 + ((x * y % 18446744073709551616 + t + 0) % 18446744073709551616 + c + 0) / 18446744073709551616) % 18446744073709551616) = x * y + t + c := by
  have hp : x * y ≤ 18446744073709551615 * 18446744073709551615 := Nat.mul_le_mul (by unfold B64 at hx; omega) (by unfold B64 at hy; omega)
  generalize x * y = p at *
  unfold B64 at *
  omega

theorem mul_by {h : Heap} {x y : Nat} (hx : x < B64) (hy : y < B64) : byVal (callW gp) h fid.bits_Mul64 [nat .u64 x, nat .u64 y] = some (.tup [nat .u64 (x * y / 18446744073709551616), nat .u64 (x * y % 18446744073709551616)]) :=
  byVal_imm (imm_l2 imm_nat imm_nat (by omega) (by omega)) (mul64 x y hx hy)

/-- A row times a digit is added to another one. -/
theorem addP_l0 {id off n x : Nat} {y13 : AV} {l : List Nat} (ho : Off id y13) (hdl : Dg B64 l) (hx : x < B64) (hs : n ≤ 4611686018427387904) (hsl : l.length = n) : ∀ (k i : Nat) (h : Heap) (cs : List Nat) (c : Nat), i + k = n → live h id = some (nl .u64 cs) → Row h .u64 y13 l → off + n ≤ cs.length → Dg B64 cs → c < B64 →
    ∃ f c', limb_addProduct.l0 (.rs 1 id off n) (nat .u64 x) (nat .u64 c) y13 (.int .i64 n) (.int .i64 i) h = some (nat .u64 c', h.set id (some (nl .u64 (cs.take (off + i) ++ f ++ cs.drop (off + n))))) ∧ f.length = k ∧ Dg B64 f ∧ c' < B64 ∧
      val B64 f + c' * B64 ^ k = val B64 ((cs.drop (off + i)).take k) + x * val B64 ((l.drop i).take k) + c := by
  intro k
  induction k with
  | zero =>
    intro i h cs c hik hl hr hn hd hc
    refine ⟨[], c, ?_, rfl, .nil, hc, by simp [val]⟩
    rw [limb_addProduct.l0_eq]
    simp only [bin_lss, bind_s, cond_d]
    rw [if_neg (by omega)]
    have : cs.take (off + i) ++ [] ++ cs.drop (off + n) = cs := by rw [List.append_nil, show i = n by omega, List.take_append_drop]
    rw [this, set_same hl]
  | succ k ih =>
    intro i h cs c hik hl hr hn hd hc
    rw [limb_addProduct.l0_eq]
    simp only [bin_lss, bind_s, cond_d]
    rw [if_pos (by omega), hr.rd (by omega) (by omega), Int.toNat_natCast]
    have hy : l.getD i 0 < B64 := hdl.getD (by decide)
    have ht : cs.getD (off + i) 0 < B64 := hd.getD (by decide)
    rw [mul_by hx hy]
    simp only [bind_s, ext0, ext1]
    rw [sidx_rs (by omega) (by omega)]
    simp only [bind_s, Int.toNat_natCast, Nat.mul_one]
    rw [load_nl hl (by omega)]
    simp only [bind_s]
    rw [add64 (by omega)]
    simp only [bind_s, ext0, ext1, u_add]
    rw [add64 (by omega)]
    simp only [bind_s, ext0, ext1]
    rw [store_nl hl (by omega)]
    simp only [bind_s, u_add]
    rw [int_add (by omega) (by omega)]
    simp only [bind_s]
    have hmd := mul_digit hx hy ht hc
    have hxd : (((x * l.getD i 0 % 18446744073709551616 + cs.getD (off + i) 0 + 0) % 18446744073709551616 + c + 0) % 18446744073709551616) < B64 := Nat.mod_lt _ (by omega)
    have hcd : (((x * l.getD i 0 / 18446744073709551616 + (x * l.getD i 0 % 18446744073709551616 + cs.getD (off + i) 0 + 0) / 18446744073709551616) % 18446744073709551616 + ((x * l.getD i 0 % 18446744073709551616 + cs.getD (off + i) 0 + 0) % 18446744073709551616 + c + 0) / 18446744073709551616) % 18446744073709551616) < B64 := Nat.mod_lt _ (by omega)
    generalize (((x * l.getD i 0 % 18446744073709551616 + cs.getD (off + i) 0 + 0) % 18446744073709551616 + c + 0) % 18446744073709551616) = x' at *
    generalize (((x * l.getD i 0 / 18446744073709551616 + (x * l.getD i 0 % 18446744073709551616 + cs.getD (off + i) 0 + 0) / 18446744073709551616) % 18446744073709551616 + ((x * l.getD i 0 % 18446744073709551616 + cs.getD (off + i) 0 + 0) % 18446744073709551616 + c + 0) / 18446744073709551616) % 18446744073709551616) = c1 at *
    obtain ⟨f, c', e1, e2, e3, e4, e5⟩ := ih (i + 1) (h.set id (some (nl .u64 (cs.set (off + i) x')))) (cs.set (off + i) x') c1 (by omega) (live_set_self hl) (hr.other ho _) (by simpa using hn) (hd.set hxd) hcd
    refine ⟨x' :: f, c', ?_, by simp [e2], .cons hxd e3, e4, ?_⟩
    · rw [show ((i : Int) + 1) = ((i + 1 : Nat) : Int) by omega, e1, set_set, show off + (i + 1) = off + i + 1 by omega, set_take_succ _ _ _ (by omega), set_drop_lt _ _ _ _ (by omega)]
      simp
    · rw [val_cons, val_cut, val_cut]
      rw [show off + (i + 1) = off + i + 1 by omega, set_drop_lt _ _ _ _ (by omega)] at e5
      rw [Nat.pow_succ]
      generalize val B64 f = vf at *
      generalize val B64 ((l.drop (i + 1)).take k) = vl at *
      generalize val B64 ((cs.drop (off + i + 1)).take k) = vc at *
      generalize cs.getD (off + i) 0 = t at *
      generalize l.getD i 0 = y at *
      have e6 : B64 * (vf + c' * B64 ^ k) = B64 * (vc + x * vl + c1) := by rw [e5]
      rw [Nat.mul_add, Nat.mul_add, Nat.mul_add] at e6
      have e7 : c' * (B64 ^ k * B64) = B64 * (c' * B64 ^ k) := by rw [← Nat.mul_assoc, Nat.mul_comm]
      have e8 : x * (y + B64 * vl) = x * y + B64 * (x * vl) := by rw [Nat.mul_add, ← Nat.mul_assoc, Nat.mul_comm x B64, Nat.mul_assoc]
      rw [e7, e8]
      omega

theorem addP_run {h : Heap} {id off n x : Nat} {y : AV} {l cs : List Nat} (ho : Off id y) (hdl : Dg B64 l) (hx : x < B64) (hs : n ≤ 4611686018427387904) (hsl : l.length = n) (hl : live h id = some (nl .u64 cs)) (hr : Row h .u64 y l) (hn : off + n ≤ cs.length) (hd : Dg B64 cs) :
    ∃ f c', callW gp fid.limb_addProduct [.rs 1 id off n, y, nat .u64 x] h = some (nat .u64 c', h.set id (some (nl .u64 (cs.take off ++ f ++ cs.drop (off + n))))) ∧ f.length = n ∧ Dg B64 f ∧ c' < B64 ∧
      val B64 f + c' * B64 ^ n = val B64 ((cs.drop off).take n) + x * val B64 l := by
  obtain ⟨f, c', e1, e2, e3, e4, e5⟩ := addP_l0 ho hdl hx hs hsl n 0 h cs 0 (by omega) hl hr hn hd (by decide)
  refine ⟨f, c', ?_, e2, e3, e4, ?_⟩
  · rw [limb_addProduct.eq]
    unfold limb_addProduct.f
    rw [hr.len, hsl]
    simp only [bind_s]
    exact e1
  · simpa [← hsl] using e5

end Go.Proofs.Ytlpimdkgboabcaa.Am
