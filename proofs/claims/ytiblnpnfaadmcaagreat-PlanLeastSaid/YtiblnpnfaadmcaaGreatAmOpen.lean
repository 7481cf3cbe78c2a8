import Derived.Test.YtiblnpnfaadmcaaGreatAmLoop
import Derived.WideShapes
import Derived.WalkKit
/- What a statement's arguments are, as the abstract machine sees them. -/
set_option linter.unusedVariables false
set_option maxRecDepth 10000
set_option linter.unusedSectionVars false
set_option linter.unusedSimpArgs false
namespace Go.Proofs.YtiblnpnfaadmcaaGreat.Am
open Go

variable [Gl] {P : Program} {w : World} {μ : Mu} {A : Nat → Prop}

def Dat (P : Program) : Nat → TypeId → List AV → Prop
 | 0, _, _ => False
 | k + 1, t, cs =>
  match P.underlying t with
  | some .bool => ∃ b, cs = [.bool b]
  | some (.int K) => ∃ n, cs = [.int K n] ∧ (Lit.int K n).wf = true
  | some .string => ∃ s, cs = [.str s] ∧ s.size ≤ maxLen
  | some (.slice e) => ∃ n xs, cs = [.is n false xs] ∧ n ≤ maxLen ∧ xs.length = n * P.cellsOf e ∧ ∀ i, i < n → Dat P k e ((xs.drop (i * P.cellsOf e)).take (P.cellsOf e))
  | some (.struct fs) => cs.length = P.cellsOf t ∧ ∀ f ∈ fs.toList, Dat P k f.type ((cs.drop f.offset).take (P.cellsOf f.type))
  | some (.array n e) => cs.length = P.cellsOf t ∧ ∀ i, i < n → Dat P k e ((cs.drop (i * P.cellsOf e)).take (P.cellsOf e))
  | _ => False

def zy3j (P : Program) : Nat → List Field → Option Nat
 | off, [] => some off
 | off, f :: fs => if f.offset = off then zy3j P (off + P.cellsOf f.type) fs else none

def okO (P : Program) : Nat → TypeId → Bool
 | 0, _ => false
 | k + 1, t =>
  match P.underlying t with
  | some .bool | some (.int _) | some .string => true
  | some (.slice e) => okO P k e
  | some (.struct fs) => (zy3j P 0 fs.toList == some (P.cellsOf t)) && fs.toList.all fun f => okO P k f.type
  | some (.array n e) => (n * P.cellsOf e == P.cellsOf t) && okO P k e
  | _ => false

theorem zyb5 {β : Type} {f : Nat → Option β} {n : Nat} {r : List β} (h : (List.range n).mapM f = some r) : r.length = n ∧ ∀ i, i < n → ∃ x, f i = some x ∧ r[i]? = some x := by
 obtain ⟨h1, h2⟩ := zyb6 h
 rw [List.length_range] at h1
 refine ⟨h1, fun i hi => ⟨r[i]'(by omega), h2 i i _ (List.getElem?_range hi) (List.getElem?_eq_getElem (by omega)), List.getElem?_eq_getElem (by omega)⟩⟩

theorem zy2w {b : Nat} {a : Addr} {n : Nat} {vs : List Value} (h : w.cells? b a n = some vs) : vs.length = n ∧ ∀ i, i < n → w.cell? (a.add i) = vs[i]? := by
 unfold World.cells? at h
 split at h
 ·obtain ⟨h1, h2⟩ := zyb5 h
  exact ⟨h1, fun i hi => let ⟨x, h3, h4⟩ := h2 i hi; by rw [h3, h4]⟩
 ·cases h

theorem add_add' (a : Addr) (m n : Nat) : (a.add m).add n = a.add (m + n) := by
 unfold Addr.add
 by_cases hm : m = 0
 ·subst hm; simp
 ·by_cases hn : n = 0
  ·subst hn; simp
  ·have : m + n ≠ 0 := by omega
   simp only [hm, hn, this, if_false]
   congr 1
   omega

theorem zyf9 (row : Nat → List Value) (c : Nat) : ∀ n, (∀ i, i < n → (row i).length = c) → (((List.range n).map row).flatten).length = n * c ∧ ∀ i r, i < n → r < c → (((List.range n).map row).flatten)[i * c + r]? = (row i)[r]?
 | 0, _ => ⟨by simp, fun i r h => by omega⟩
 | n + 1, h => by
  obtain ⟨h1, h2⟩ := zyf9 row c n (fun i hi => h i (by omega))
  have e : ((List.range (n + 1)).map row).flatten = ((List.range n).map row).flatten ++ row n := by rw [List.range_succ]; simp
  rw [e]
  refine ⟨by rw [List.length_append, h1, h n (by omega), Nat.add_mul, Nat.one_mul], fun i r hi hr => ?_⟩
  by_cases hin : i = n
  ·subst hin
   rw [List.getElem?_append_right (by omega), h1]
   congr 1; omega
  ·have : i * c + r < n * c := by
    have : (i + 1) * c ≤ n * c := Nat.mul_le_mul_right c (by omega)
    rw [Nat.add_mul, Nat.one_mul] at this
    omega
   rw [List.getElem?_append_left (by omega)]
   exact h2 i r (by omega) hr

theorem glue {Q : Nat → List AV → Prop} (c : Nat) (row : Nat → List Value) : ∀ n, (∀ i, i < n → (row i).length = c ∧ ∃ cs, RepL w μ A cs (row i) ∧ Q i cs) → ∃ xs, RepL w μ A xs ((List.range n).map row).flatten ∧ xs.length = n * c ∧ ∀ i, i < n → Q i ((xs.drop (i * c)).take c)
 | 0, _ => ⟨[], by simpa using RepL.nil _ _ _, by simp, fun i h => by omega⟩
 | n + 1, h => by
  obtain ⟨xs, h1, h2, h3⟩ := glue c row n (fun i hi => h i (by omega))
  obtain ⟨hl, cs, hr, hq⟩ := h n (by omega)
  have hcl : cs.length = c := by rw [← hr.1, hl]
  refine ⟨xs ++ cs, ?_, by simp [h2, hcl, Nat.add_mul], fun i hi => ?_⟩
  ·rw [List.range_succ]
   simpa using h1.append hr
  ·by_cases hin : i = n
   ·subst hin
    rw [List.drop_append, List.drop_of_length_le (by omega), h2, Nat.sub_self, List.drop_zero, List.nil_append, List.take_of_length_le (by omega)]
    exact hq
   ·have h4 : (i + 1) * c ≤ n * c := Nat.mul_le_mul_right c (by omega)
    rw [Nat.add_mul, Nat.one_mul] at h4
    rw [List.drop_append_of_le_length (by omega), List.take_append_of_le_length (by rw [List.length_drop]; omega)]
    exact h3 i (by omega)

theorem glueF {Q : Field → List AV → Prop} (vs : List Value) : ∀ (fs : List Field) (off n : Nat), zy3j P off fs = some n → vs.length = n → off ≤ n →
  (∀ f ∈ fs, ∃ cs, RepL w μ A cs ((vs.drop f.offset).take (P.cellsOf f.type)) ∧ Q f cs) → ∃ xs, RepL w μ A xs (vs.drop off) ∧ ∀ f ∈ fs, off ≤ f.offset ∧ Q f ((xs.drop (f.offset - off)).take (P.cellsOf f.type))
 | [], off, n, hc, hl, ho, _ => by
  cases hc
  rw [List.drop_of_length_le (by omega)]
  exact ⟨[], RepL.nil _ _ _, fun f hf => by simp at hf⟩
 | f :: fs, off, n, hc, hl, ho, h => by
  unfold zy3j at hc
  split at hc
  case isFalse => cases hc
  rename_i hoff
  have hmono : ∀ (fs : List Field) (off n : Nat), zy3j P off fs = some n → off ≤ n := by
   intro fs
   induction fs with
   | nil => intro off n h; cases h; exact Nat.le_refl _
   | cons f fs ih =>
    intro off n h
    unfold zy3j at h
    split at h
    ·have := ih _ _ h; omega
    ·cases h
  have hle := hmono _ _ _ hc
  obtain ⟨xs, h1, h2⟩ := glueF vs fs _ n hc hl hle (fun g hg => h g (List.mem_cons_of_mem _ hg))
  obtain ⟨cs, hr, hq⟩ := h f (List.mem_cons_self ..)
  have hcl : cs.length = P.cellsOf f.type := by
   rw [← hr.1, List.length_take, List.length_drop, hoff]
   omega
  refine ⟨cs ++ xs, ?_, fun g hg => ?_⟩
  ·have : vs.drop off = (vs.drop f.offset).take (P.cellsOf f.type) ++ vs.drop (off + P.cellsOf f.type) := by
    rw [hoff, ← List.drop_drop, List.take_append_drop]
   rw [this]
   exact hr.append h1
  ·rcases List.mem_cons.1 hg with rfl | hg
   ·refine ⟨by omega, ?_⟩
    rw [hoff, Nat.sub_self, List.drop_zero, ← hcl, List.take_left]
    exact hq
   ·obtain ⟨h3, h4⟩ := h2 g hg
    refine ⟨by omega, ?_⟩
    rw [List.drop_append, List.drop_of_length_le (by omega), List.nil_append, hcl]
    rwa [show g.offset - off - P.cellsOf f.type = g.offset - (off + P.cellsOf f.type) by omega]

theorem zyhn {H : Type} {enc : TypeId × Value → H} {sp : Nat → Bool} {base : Nat} : ∀ (k fuel : Nat) (t : TypeId) (vs : List Value) (d : DataW H) (ps : List MemPlace),
  okO P k t = true → DataW.trod enc P w base sp true fuel t vs = some (d, ps) → ∃ cs, RepL w [] (fun b => b < w.heap.size) cs vs ∧ Dat P k t cs
 | 0, _, _, _, _, _, h, _ => by cases h
 | _, 0, _, _, _, _, _, h => by cases h
 | k + 1, fuel + 1, t, vs, d, ps, ho, h => by
  unfold okO at ho
  unfold Dat
  unfold DataW.trod at h
  split at ho
  ·-- bool
   rename_i hu
   rw [hu] at h
   split at h <;> simp_all
   exact ⟨_, RepL.cons (.bool _) (RepL.nil _ _ _), by rename_i b _; cases b <;> simp⟩
  ·rename_i K hu
   rw [hu] at h
   split at h <;> simp_all
   rename_i k' n hkk
   obtain ⟨⟨rfl, hw⟩, _⟩ := h
   exact ⟨_, RepL.cons (.int _ _) (RepL.nil _ _ _), _, rfl, hw⟩
  ·rename_i hu
   rw [hu] at h
   split at h <;> simp_all
   exact ⟨_, RepL.cons (.str _) (RepL.nil _ _ _), _, rfl, h.1⟩
  ·-- slice
   rename_i e hu
   rw [hu] at h
   split at h <;> simp_all
   ·exact ⟨_, RepL.cons (.nils false) (RepL.nil _ _ _), 0, [], rfl, by simp, by simp, fun i hi => by omega⟩
   ·rename_i he a len cap _
    subst he
    obtain ⟨⟨hb, hlc, hcm⟩, h⟩ := h
    rw [Option.bind_eq_some_iff] at h
    obtain ⟨elems, hel, _⟩ := h
    obtain ⟨hle, hget⟩ := zyb5 hel
    let row : Nat → List Value := fun i => (w.cells? base (a.add (i * P.cellsOf e)) (P.cellsOf e)).getD []
    have hrow : ∀ i, i < len → w.cells? base (a.add (i * P.cellsOf e)) (P.cellsOf e) = some (row i) ∧ ∃ x, DataW.trod enc P w base sp true fuel e (row i) = some x := fun i hi => by
     obtain ⟨x, hx, _⟩ := hget i hi
     simp only [Option.bind_eq_some_iff] at hx
     obtain ⟨r, hr, hx⟩ := hx
     simp only [row, hr, Option.getD_some]
     exact ⟨trivial, x, hx⟩
    obtain ⟨xs, hx1, hx2, hx3⟩ := glue (w := w) (μ := []) (A := fun b => b < w.heap.size) (Q := fun _ cs => Dat P k e cs) (P.cellsOf e) row len (fun i hi => by
     obtain ⟨h1, x, h2⟩ := hrow i hi
     exact ⟨(zy2w h1).1, zyhn k fuel e (row i) x.1 x.2 ho h2⟩)
    obtain ⟨hr1, hr2⟩ := zyf9 row (P.cellsOf e) len (fun i hi => (zy2w (hrow i hi).1).1)
    have cell : ∀ (j : Nat) (c : AV), xs[j]? = some c → ∃ v, (((List.range len).map row).flatten)[j]? = some v ∧ w.cell? (a.add j) = some v := by
     intro j c hj
     have hjl : j < len * P.cellsOf e := by rw [← hx2]; exact (List.getElem?_eq_some_iff.1 hj).1
     have hc0 : 0 < P.cellsOf e := by
      rcases Nat.eq_zero_or_pos (P.cellsOf e) with h0 | h0
      ·rw [h0] at hjl; simp at hjl
      ·exact h0
     have hi : j / P.cellsOf e < len := (Nat.div_lt_iff_lt_mul hc0).2 hjl
     have hr : j % P.cellsOf e < P.cellsOf e := Nat.mod_lt _ hc0
     have hj' : j = j / P.cellsOf e * P.cellsOf e + j % P.cellsOf e := by rw [Nat.mul_comm]; exact (Nat.div_add_mod j _).symm
     obtain ⟨h1, h2⟩ := zy2w (hrow _ hi).1
     have h3 := hr2 _ _ hi hr
     rw [← hj'] at h3
     have h4 := h2 _ hr
     rw [add_add', ← hj'] at h4
     rw [h3, h4]
     have : (row (j / P.cellsOf e))[j % P.cellsOf e]? = some ((row (j / P.cellsOf e))[j % P.cellsOf e]'(by omega)) := List.getElem?_eq_getElem (by omega)
     exact ⟨_, this, this⟩
    have old : xs ≠ [] → a.spot = none ∧ a.block < w.heap.size := by
     intro hne
     cases xs with
     | nil => exact absurd rfl hne
     | cons c xs =>
      obtain ⟨v, _, hv⟩ := cell 0 c rfl
      rw [add_zero] at hv
      unfold World.cell? at hv
      split at hv
      ·rename_i hb2
       split at hv
       ·cases hv
       ·rename_i hs
        exact ⟨by simpa using hs, (Array.getElem?_eq_some_iff.1 hb2).1⟩
      ·cases hv
    refine ⟨_, RepL.cons (.is len false xs a cap (fun j => (((List.range len).map row).flatten).getD j undef) (fun h => (old h).1) (fun h => (old h).2) (fun j c hj => ?_) (fun j c hj => ?_) hlc (fun e => by cases e)) (RepL.nil _ _ _), len, xs, rfl, by omega, hx2, hx3⟩
    ·obtain ⟨v, h1, h2⟩ := cell j c hj
     rw [List.getD_eq_getElem?_getD, h1, h2]; rfl
    ·obtain ⟨v, h1, h2⟩ := cell j c hj
     rw [List.getD_eq_getElem?_getD, h1]
     exact hx1.2 j c v hj h1
  ·-- struct
   rename_i fs hu
   rw [hu] at h
   simp only [Bool.and_eq_true, beq_iff_eq, List.all_eq_true] at ho
   obtain ⟨hcont, hall⟩ := ho
   have h' : ∃ xs, vs.length = P.cellsOf t ∧ (fs.toList.mapM fun f => DataW.trod enc P w base sp true fuel f.type ((vs.drop f.offset).take (P.cellsOf f.type))) = some xs := by
    split at h <;> simp_all
    exact ⟨_, h.2.choose_spec.1⟩
   obtain ⟨xs, hl, hm⟩ := h'
   obtain ⟨hm1, hm2⟩ := zyb6 hm
   obtain ⟨cs, hr, hq⟩ := glueF (P := P) (w := w) (μ := []) (A := fun b => b < w.heap.size) (Q := fun f cs => Dat P k f.type cs) vs fs.toList 0 _ hcont hl (Nat.zero_le _) (fun f hf => by
    obtain ⟨j, hj⟩ := List.getElem?_of_mem hf
    have hjl : j < xs.length := by rw [hm1]; exact (List.getElem?_eq_some_iff.1 hj).1
    exact zyhn k fuel f.type _ _ _ (hall f hf) (hm2 j f _ hj (List.getElem?_eq_getElem hjl)))
   rw [List.drop_zero] at hr
   refine ⟨cs, hr, by rw [← hr.1]; exact hl, fun f hf => ?_⟩
   have := (hq f hf).2
   rwa [Nat.sub_zero] at this
  ·-- array
   rename_i n e hu
   rw [hu] at h
   simp only [Bool.and_eq_true, beq_iff_eq] at ho
   obtain ⟨hsz, hoe⟩ := ho
   have h' : ∃ xs, vs.length = P.cellsOf t ∧ ((List.range n).mapM fun i => DataW.trod enc P w base sp true fuel e ((vs.drop (i * P.cellsOf e)).take (P.cellsOf e))) = some xs := by
    split at h <;> simp_all
    exact ⟨_, h.2.choose_spec.1⟩
   obtain ⟨xs, hl, hm⟩ := h'
   obtain ⟨hm1, hm2⟩ := zyb5 hm
   let row : Nat → List Value := fun i => (vs.drop (i * P.cellsOf e)).take (P.cellsOf e)
   have hrl : ∀ i, i < n → (row i).length = P.cellsOf e := fun i hi => by
    have : (i + 1) * P.cellsOf e ≤ n * P.cellsOf e := Nat.mul_le_mul_right _ (by omega)
    rw [Nat.add_mul, Nat.one_mul] at this
    simp only [row, List.length_take, List.length_drop]
    omega
   obtain ⟨cs, hr, hcl, hq⟩ := glue (w := w) (μ := []) (A := fun b => b < w.heap.size) (Q := fun _ cs => Dat P k e cs) (P.cellsOf e) row n (fun i hi => by
    obtain ⟨x, hx, _⟩ := hm2 i hi
    exact ⟨hrl i hi, zyhn k fuel e _ x.1 x.2 hoe hx⟩)
   have hfl : ((List.range n).map row).flatten = vs := by
    obtain ⟨h1, h2⟩ := zyf9 row (P.cellsOf e) n hrl
    apply List.ext_getElem (by rw [h1, hl, hsz])
    intro j hj1 hj2
    have hjl : j < n * P.cellsOf e := by rw [← h1]; exact hj1
    have hc0 : 0 < P.cellsOf e := by
     rcases Nat.eq_zero_or_pos (P.cellsOf e) with h0 | h0
     ·rw [h0] at hjl; simp at hjl
     ·exact h0
    have hi : j / P.cellsOf e < n := (Nat.div_lt_iff_lt_mul hc0).2 hjl
    have hr : j % P.cellsOf e < P.cellsOf e := Nat.mod_lt _ hc0
    have hj' : j = j / P.cellsOf e * P.cellsOf e + j % P.cellsOf e := by rw [Nat.mul_comm]; exact (Nat.div_add_mod j _).symm
    have h3 := h2 _ _ hi hr
    rw [← hj'] at h3
    have h4 : (row (j / P.cellsOf e))[j % P.cellsOf e]? = vs[j]? := by
     simp only [row]
     rw [List.getElem?_take, if_pos hr, List.getElem?_drop, ← hj']
    rw [h4] at h3
    rw [List.getElem?_eq_getElem hj1, List.getElem?_eq_getElem hj2] at h3
    exact Option.some.inj h3
   rw [hfl] at hr
   exact ⟨cs, hr, by rw [hcl, hsz], hq⟩
  ·cases ho

def DatV (P : Program) (k : Nat) (t : TypeId) (a : AV) : Prop := if zy82 P t = true then ∃ cs, a = .agg cs ∧ Dat P k t cs else Dat P k t [a]

theorem arg_open {H : Type} {enc : TypeId × Value → H} {sp : Nat → Bool} {base b2 : Nat} {k : Nat} {t : TypeId} {v : Value} {d : DataW H} {ps : List MemPlace} (ho : okO P k t = true) (hv : Value.okWide P w .any b2 t v) (h : DataW.Trod enc P w base sp true t v d ps) :
  ∃ a, Rep w [] (fun b => b < w.heap.size) a v ∧ DatV P k t a := by
 obtain ⟨fuel, h⟩ := h
 obtain ⟨cs, hr, hd⟩ := zyhn k fuel t _ d ps ho h
 unfold DatV
 have one : zy82 P t = false → v.cells.toList = [v] → ∃ a, Rep w [] (fun b => b < w.heap.size) a v ∧ if zy82 P t = true then ∃ cs, a = .agg cs ∧ Dat P k t cs else Dat P k t [a] := by
  intro hag hvc
  rw [hvc] at hr
  rw [hag]
  match cs, hr with
  | [], hr => simp [RepL] at hr
  | [c], hr => exact ⟨c, hr.head, by simpa using hd⟩
  | _ :: _ :: _, hr => have := hr.1; simp at this
 cases k with
 | zero => cases ho
 | succ k =>
  unfold okO at ho
  split at ho
  ·rename_i hu; obtain ⟨b, rfl⟩ := Go.WideShapes.okWide_bool hu hv; exact one (by simp [zy82, hu]) rfl
  ·rename_i hu; obtain ⟨n, rfl⟩ := Go.WideShapes.okWide_int hu hv; exact one (by simp [zy82, hu]) rfl
  ·rename_i hu; obtain ⟨s, rfl⟩ := Go.WideShapes.okWide_string hu hv; exact one (by simp [zy82, hu]) rfl
  ·rename_i hu; obtain ⟨a, l, c, rfl⟩ := Go.WideShapes.okWide_slice hu hv; exact one (by simp [zy82, hu]) rfl
  ·rename_i hu
   obtain ⟨arr, rfl, _⟩ := Go.WideShapes.okWide_struct hu hv
   refine ⟨.agg cs, ?_, by rw [if_pos (by simp [zy82, hu])]; exact ⟨cs, rfl, hd⟩⟩
   have : Rep w [] (fun b => b < w.heap.size) (.agg cs) (.agg arr.toList.toArray) := .agg cs arr.toList hr.1 hr.2
   simpa using this
  ·rename_i hu
   have : ∃ arr, v = .agg arr := by
    simp only [Value.okWide, hu] at hv
    obtain ⟨cs, h1, _⟩ := hv
    exact ⟨cs, h1⟩
   obtain ⟨arr, rfl⟩ := this
   refine ⟨.agg cs, ?_, by rw [if_pos (by simp [zy82, hu])]; exact ⟨cs, rfl, hd⟩⟩
   have : Rep w [] (fun b => b < w.heap.size) (.agg cs) (.agg arr.toList.toArray) := .agg cs arr.toList hr.1 hr.2
   simpa using this
  ·cases ho

end Go.Proofs.YtiblnpnfaadmcaaGreat.Am
