import Derived.Test.YtcpmkohlmjakmaaGreatDoorAmRow
import Derived.MakeChecks
/- Package-level tables of whole numbers that a row lays. -/
set_option linter.unusedVariables false
set_option maxRecDepth 10000
set_option linter.unusedSectionVars false
namespace Go.Proofs.YtcpmkohlmjakmaaGreatDoor.Am
open Go

variable [Gl] {H : Type} {enc : TypeId × Value → H} {P : Program} {w : World} {base : Nat} {sp : Nat → Bool} {held : Bool}

/-- A whole number, or an array of such. -/
def tabT (P : Program) : Nat → TypeId → Bool
  | 0, _ => false
  | k + 1, t =>
    match P.underlying t with
    | some (.int _) => true
    | some (.array n e) => (n * P.cellsOf e == P.cellsOf t) && tabT P k e
    | _ => false
mutual
def dflat : DataW H → List Lit
  | .lit l => [l]
  | .agg ps => dflats ps
  | _ => []
def dflats : List (DataW H) → List Lit
  | [] => []
  | d :: r => dflat d ++ dflats r
end
def litV : Lit → Value
  | .int k n => .int k n
  | _ => undef
theorem pieces {α : Type} {c : Nat} : ∀ (n : Nat) (xs : List α) (f : Nat → List α), xs.length = n * c → (∀ i, i < n → (xs.drop (i * c)).take c = f i) → xs = (List.range n).flatMap f
  | 0, xs, f, hl, _ => by
    have : xs = [] := List.length_eq_zero_iff.1 (by simpa using hl)
    subst this; rfl
  | n + 1, xs, f, hl, h => by
    rw [Nat.add_mul, Nat.one_mul] at hl
    have e := pieces (c := c) n (xs.take (n * c)) f (by rw [List.length_take]; omega) fun i hi => by
      have hle : i * c + c ≤ n * c := by rw [← Nat.succ_mul]; exact Nat.mul_le_mul_right c hi
      have hm : min c (n * c - i * c) = c := Nat.min_eq_left (by omega)
      rw [List.drop_take, List.take_take, hm]
      exact h i (by omega)
    have h0 := h n (by omega)
    rw [List.take_of_length_le (by rw [List.length_drop]; omega)] at h0
    rw [List.range_succ, List.flatMap_append, ← e, List.flatMap_cons, List.flatMap_nil, List.append_nil, ← h0, List.take_append_drop]
theorem dflats_eq : ∀ ds : List (DataW H), dflats ds = ds.flatMap dflat
  | [] => by rw [dflats]; rfl
  | d :: r => by rw [dflats, dflats_eq r, List.flatMap_cons]
theorem trod_tab : ∀ (k fuel : Nat) (t : TypeId) (cs : List Value) (d : DataW H) (p : List MemPlace), tabT P k t = true → DataW.trod enc P w base sp held fuel t cs = some (d, p) → cs = (dflat d).map litV := by
  intro k
  induction k with
  | zero => intro fuel t cs d p h; cases h
  | succ k ih =>
    intro fuel t cs d p ht h
    unfold tabT at ht
    cases fuel with
    | zero => cases h
    | succ fuel =>
      unfold DataW.trod at h
      split at ht
      · rename_i K hu
        rw [hu] at h
        split at h
        all_goals rename_i hq
        all_goals first | (exfalso; simp at hq; done) | skip
        all_goals first | (cases h; done) | skip
        simp only [Option.some.injEq, TypeDesc.int.injEq] at hq
        split at h
        · rename_i hk
          simp only [Option.some.injEq, Prod.mk.injEq] at h
          obtain ⟨rfl, _⟩ := h
          rw [hk.1]
          rfl
        · cases h
      · rename_i n e hu
        rw [hu] at h
        simp only [Bool.and_eq_true, beq_iff_eq] at ht
        simp only at h
        split at h
        · rename_i hl
          simp only [Option.map_eq_some_iff, Prod.mk.injEq] at h
          obtain ⟨xs, hxs, rfl, _⟩ := h
          obtain ⟨hn, hx⟩ := mapM_range hxs
          have e1 := pieces (c := P.cellsOf e) n cs (fun i => ((xs[i]?).map fun x => (dflat x.1).map litV).getD []) (by omega) fun i hi => by
            obtain ⟨x, h1, h2⟩ := hx i hi
            rw [ih fuel e _ x.1 x.2 ht.2 h1, h2]
            rfl
          rw [e1, dflat, dflats_eq]
          have key : ∀ (xs : List (DataW H × List MemPlace)), (List.range xs.length).flatMap (fun i => ((xs[i]?).map fun x => (dflat x.1).map litV).getD []) = ((xs.map (·.1)).flatMap dflat).map litV := by
            intro xs
            induction xs with
            | nil => rfl
            | cons x xs ih2 =>
              rw [List.length_cons, List.range_succ_eq_map, List.flatMap_cons, List.flatMap_map, List.map_cons, List.flatMap_cons, List.map_append, ← ih2]
              rfl
          rw [← hn]
          exact key xs
        · cases h
      · cases ht
def litA : Lit → AV
  | .int k n => .int k n
  | _ => .junk
def isInt : Lit → Bool
  | .int _ _ => true
  | _ => false
theorem laid_mem : ∀ {laid : List (String × DataW Unit)} {ps : List MemPlace}, DataW.LaidVars P w laid ps → ∀ n d, (n, d) ∈ laid → ∃ g t cs fuel p, P.globalNamed n = some g ∧ (P.globals[g]?).map (·.type) = some t ∧ w.var? P n = some cs ∧ DataW.trod (fun _ => ()) P w 0 (fun _ => true) false fuel t cs.toList = some (d, p)
  | [], _, _, n, d, hm => by cases hm
  | (n', d') :: r, ps, h, n, d, hm => by
    obtain ⟨g, t, cs, fuel, p, q, h1, h2, h3, h4, h5, _⟩ := h
    rcases List.mem_cons.1 hm with hm | hm
    · simp only [Prod.mk.injEq] at hm
      obtain ⟨rfl, rfl⟩ := hm
      exact ⟨g, t, cs, fuel, p, h1, h2, h3, h4⟩
    · exact laid_mem h5 n d hm
theorem grep_laid {laid : List (String × DataW Unit)} (hc : ∀ g, Gl.cells g = [] ∨ ∃ n d t, (n, d) ∈ laid ∧ P.globalNamed n = some g ∧ (P.globals[g]?).map (·.type) = some t ∧ tabT P 5 t = true ∧ Gl.cells g = (dflat d).map litA ∧ (dflat d).all isInt = true)
    (h : laidMet P laid w) : GRep w (fun b => b < w.heap.size) := by
  obtain ⟨ps, hl, _⟩ := h
  intro g j c hj
  rcases hc g with h0 | ⟨n, d, t, hm, hg, ht, htab, hcs, hint⟩
  · rw [h0] at hj; cases hj
  · obtain ⟨g', t', cs, fuel, p, h1, h2, h3, h4⟩ := laid_mem hl n d hm
    obtain rfl := Option.some.inj (hg.symm.trans h1)
    obtain rfl := Option.some.inj (ht.symm.trans h2)
    have e := trod_tab 5 fuel t cs.toList d p htab h4
    unfold World.var? at h3
    rw [hg, Option.bind_some] at h3
    split at h3
    · rename_i cs' ty fr hh
      simp only [Option.some.injEq] at h3
      subst h3
      have hlt : g < w.heap.size := (Array.getElem?_eq_some_iff.1 hh).1
      rw [hcs, List.getElem?_map] at hj
      cases hd : (dflat d)[j]? with
      | none => rw [hd] at hj; cases hj
      | some l =>
        rw [hd] at hj
        simp only [Option.map_some, Option.some.injEq] at hj
        have hil : isInt l = true := List.all_eq_true.1 hint l (List.mem_of_getElem? hd)
        have hv : cs'.toList[j]? = some (litV l) := by rw [e, List.getElem?_map, hd]; rfl
        refine ⟨hlt, litV l, ?_, ?_⟩
        · unfold World.cell?
          simp only [hh]
          rw [← Array.getElem?_toList]
          exact hv
        · subst hj
          cases l <;> first | (simp [isInt] at hil; done) | skip
          rfl
    · cases h3
end Go.Proofs.YtcpmkohlmjakmaaGreatDoor.Am