import Derived.Test.YtojfiboeghonoaaGreatAmRowIn
/- Meshes: points, triangles, segments. -/
set_option linter.unusedVariables false
set_option maxRecDepth 10000
set_option linter.unusedSimpArgs false
namespace Go.Proofs.YtojfiboeghonoaaGreat.Am
open Go

def co (t : Tr) (k : Nat) : Int := if k = 0 then t.1 else if k = 1 then t.2.1 else t.2.2
def ed (t : Tr) (k : Nat) : Int × Int := (co t k, co t ((k + 1) % 3))
def tat (ts : List Tr) (i : Nat) : Tr := ts.getD i (0, 0, 0)
def edI (ts : List Tr) (i k : Nat) : Int × Int := ed (tat ts i) k
def gat (ss : List Sg) (i : Nat) : Sg := ss.getD i ⟨0, 0, false⟩
def ipx (ps : List (Rat × Rat)) (a : Int) : Rat := px ps a.toNat
def ipy (ps : List (Rat × Rat)) (a : Int) : Rat := py ps a.toNat
def areaT (ps : List (Rat × Rat)) (t : Tr) : Rat := area (ipx ps t.1) (ipy ps t.1) (ipx ps t.2.1) (ipy ps t.2.1) (ipx ps t.2.2) (ipy ps t.2.2)
def PsZ (ps : List (Rat × Rat)) (n : Nat) : Prop := ∀ p ∈ ps, Rz p.1 n ∧ Rz p.2 n
theorem PsZ.x {ps : List (Rat × Rat)} {n i : Nat} (h : PsZ ps n) (hi : i < ps.length) : Rz (px ps i) n ∧ Rz (py ps i) n := by
  have e : ps.getD i (0, 0) = ps[i] := by simp [List.getD, List.getElem?_eq_getElem hi]
  unfold px py
  rw [e]
  exact h _ (List.getElem_mem hi)
theorem PsZ.up {ps : List (Rat × Rat)} {n m : Nat} (h : PsZ ps n) (hm : n ≤ m) : PsZ ps m := fun r hr => ⟨(h r hr).1.mono hm, (h r hr).2.mono hm⟩
structure Mq where
  ps : List (Rat × Rat)
  ts : List Tr
  ss : List Sg
def Mq.ms (q : Mq) : Ms := ⟨q.ps.map pc, q.ts, q.ss⟩
def InR (n : Nat) (a : Int) : Prop := 0 ≤ a ∧ a < (n : Int)
instance (n : Nat) (a : Int) : Decidable (InR n a) := by unfold InR; infer_instance
def TrOk (ps : List (Rat × Rat)) (t : Tr) : Prop := (InR ps.length t.1 ∧ InR ps.length t.2.1 ∧ InR ps.length t.2.2) ∧ 0 < areaT ps t
instance (ps : List (Rat × Rat)) (t : Tr) : Decidable (TrOk ps t) := by unfold TrOk; infer_instance
def sameE (s : Sg) (a b : Int) : Prop := (s.a = a ∧ s.b = b) ∨ (s.a = b ∧ s.b = a)
instance (s : Sg) (a b : Int) : Decidable (sameE s a b) := by unfold sameE; infer_instance
structure Mq.ok (q : Mq) : Prop where
  zp : PsZ q.ps 40
  tr : ∀ i, i < q.ts.length → TrOk q.ps (tat q.ts i)
  dist : ∀ i j k l, i < q.ts.length → j < q.ts.length → k < 3 → l < 3 → edI q.ts i k = edI q.ts j l → i = j ∧ k = l
  sg : ∀ i, i < q.ss.length → ∃ j k, j < q.ts.length ∧ k < 3 ∧ (edI q.ts j k = ((gat q.ss i).a, (gat q.ss i).b) ∨ edI q.ts j k = ((gat q.ss i).b, (gat q.ss i).a))
  sd : ∀ i j, j < i → i < q.ss.length → ¬ sameE (gat q.ss j) (gat q.ss i).a (gat q.ss i).b
  n1 : q.ps.length ≤ 30
  n2 : q.ts.length ≤ 45
  n3 : q.ss.length ≤ 45
theorem tat_get {ts : List Tr} {i : Nat} (hi : i < ts.length) : tat ts i = ts[i] := by simp [tat, List.getD, List.getElem?_eq_getElem hi]
theorem gat_get {ss : List Sg} {i : Nat} (hi : i < ss.length) : gat ss i = ss[i] := by simp [gat, List.getD, List.getElem?_eq_getElem hi]
theorem tc_at {ts : List Tr} {i : Nat} (hi : i < ts.length) : (ts.flatMap tc).drop (i * 3) = .int .i64 (tat ts i).1 :: .int .i64 (tat ts i).2.1 :: .int .i64 (tat ts i).2.2 :: (ts.drop (i + 1)).flatMap tc := by
  rw [drop_flatMap tc_len, List.drop_eq_getElem_cons hi, List.flatMap_cons, tat_get hi]
  rfl
theorem sg_at {ss : List Sg} {i : Nat} (hi : i < ss.length) : (ss.flatMap sgc).drop (i * 3) = .int .i64 (gat ss i).a :: .int .i64 (gat ss i).b :: .bool (gat ss i).f :: (ss.drop (i + 1)).flatMap sgc := by
  rw [drop_flatMap sgc_len, List.drop_eq_getElem_cons hi, List.flatMap_cons, gat_get hi]
  rfl
section
variable {m : Ms} {q : Mq}
theorem ms_rc : readCells (msc m) (some 3) = some (.agg (msc m)) := Eq.trans rfl rfl
theorem ms_0 : readCells (msc m) none = some (.is m.pts.length false (m.pts.flatMap ptc)) := Eq.trans rfl rfl
theorem ms_1 : readCells (List.drop 1 (msc m)) none = some (.is m.tris.length false (m.tris.flatMap tc)) := Eq.trans rfl rfl
theorem ms_2 : readCells (List.drop 2 (msc m)) none = some (.is m.segs.length false (m.segs.flatMap sgc)) := Eq.trans rfl rfl
theorem mq_0 : readCells (msc q.ms) none = some (.is q.ps.length false (pcs q.ps)) := by rw [ms_0]; unfold pcs Mq.ms; simp only [List.length_map]
theorem mq_1 : readCells (List.drop 1 (msc q.ms)) none = some (.is q.ts.length false (q.ts.flatMap tc)) := ms_1
theorem mq_2 : readCells (List.drop 2 (msc q.ms)) none = some (.is q.ss.length false (q.ss.flatMap sgc)) := ms_2
end
def findI (ts : List Tr) (a b : Int) : Nat → Nat → Option (Nat × Nat)
  | 0, _ => none
  | m + 1, i => if edI ts i 0 = (a, b) then some (i, 0) else if edI ts i 1 = (a, b) then some (i, 1) else if edI ts i 2 = (a, b) then some (i, 2) else findI ts a b m (i + 1)
theorem findI_some {ts : List Tr} {a b : Int} : ∀ {m i : Nat} {r : Nat × Nat}, findI ts a b m i = some r → i ≤ r.1 ∧ r.1 < i + m ∧ r.2 < 3 ∧ edI ts r.1 r.2 = (a, b)
  | 0, _, _, h => by cases h
  | m + 1, i, r, h => by
    unfold findI at h
    split at h
    · cases h; exact ⟨Nat.le_refl _, by simp, by simp, ‹_›⟩
    split at h
    · cases h; exact ⟨Nat.le_refl _, by simp, by simp, ‹_›⟩
    split at h
    · cases h; exact ⟨Nat.le_refl _, by simp, by simp, ‹_›⟩
    · obtain ⟨h1, h2, h3, h4⟩ := findI_some h
      exact ⟨by omega, by omega, h3, h4⟩
theorem findI_none {ts : List Tr} {a b : Int} : ∀ {m i : Nat}, findI ts a b m i = none → ∀ j k, i ≤ j → j < i + m → k < 3 → edI ts j k ≠ (a, b)
  | 0, i, _, j, k, h1, h2, _ => by omega
  | m + 1, i, h, j, k, h1, h2, h3 => by
    unfold findI at h
    split at h
    · cases h
    split at h
    · cases h
    split at h
    · cases h
    by_cases hj : j = i
    · subst hj
      rcases (by omega : k = 0 ∨ k = 1 ∨ k = 2) with rfl | rfl | rfl <;> assumption
    · exact findI_none h j k (by omega) (by omega) h3
def segI (ss : List Sg) (a b : Int) : Nat → Nat → Option Nat
  | 0, _ => none
  | m + 1, i => if sameE (gat ss i) a b then some i else segI ss a b m (i + 1)
theorem segI_first {ss : List Sg} {a b : Int} : ∀ {m i j : Nat}, segI ss a b m i = some j → i ≤ j ∧ j < i + m ∧ sameE (gat ss j) a b ∧ ∀ l, i ≤ l → l < j → ¬ sameE (gat ss l) a b
  | 0, _, _, h => by cases h
  | m + 1, i, j, h => by
    unfold segI at h
    split at h
    · cases h; exact ⟨Nat.le_refl _, by omega, ‹_›, fun l h1 h2 => by omega⟩
    · obtain ⟨h1, h2, h3, h4⟩ := segI_first h
      refine ⟨by omega, by omega, h3, fun l g1 g2 => ?_⟩
      by_cases hl : l = i
      · subst hl; assumption
      · exact h4 l (by omega) g2
end Go.Proofs.YtojfiboeghonoaaGreat.Am
