import Derived.Test.YtojfiboeghonoaaGreatAmLem
/- Maps whose keys are two whole numbers. -/
set_option linter.unusedVariables false
set_option maxRecDepth 10000
set_option linter.unusedSimpArgs false
namespace Go.Proofs.YtojfiboeghonoaaGreat.Am
open Go

def kv (a b : Int) : AV := .agg [.int .i64 a, .int .i64 b]
def ent (x : (Int × Int) × AV) : AV := .tup [kv x.1.1 x.1.2, x.2]
def lkp (l : List ((Int × Int) × AV)) (k : Int × Int) : Option AV :=
  match l with
  | [] => none
  | x :: l => if x.1 = k then some x.2 else lkp l k
theorem keyEq_kv {a b c d : Int} : keyEq [.i, .i] (kv a b) (kv c d) = some (decide ((c, d) = (a, b))) := by
  show (if (IntKind.i64 = IntKind.i64 ∧ IntKind.i64 = IntKind.i64) then some (bif a == c then b == d else false) else none : Option Bool) = _
  rw [if_pos ⟨rfl, rfl⟩]
  congr 1
  by_cases h1 : a = c
  · subst h1
    by_cases h2 : b = d
    · subst h2; simp
    · have : ¬ d = b := fun e => h2 e.symm
      simp [h2, this]
  · have : ¬ c = a := fun e => h1 e.symm
    have hb : (a == c) = false := by simpa using h1
    simp [hb, this]
theorem findE_lkp {a b : Int} : ∀ (l : List ((Int × Int) × AV)) (i : Nat), ∃ r, findE [.i, .i] (kv a b) (l.map ent) i = some r ∧ r.map Prod.snd = lkp l (a, b)
  | [], i => ⟨none, rfl, rfl⟩
  | x :: l, i => by
    obtain ⟨r, h1, h2⟩ := findE_lkp l (i + 1)
    unfold lkp
    show ∃ r, findE [.i, .i] (kv a b) (.tup [kv x.1.1 x.1.2, x.2] :: l.map ent) i = some r ∧ _
    unfold findE
    rw [keyEq_kv, Option.bind_some]
    by_cases h : x.1 = (a, b)
    · rw [if_pos h, h, decide_eq_true rfl]
      exact ⟨_, rfl, rfl⟩
    · have : ¬ (x.1.1, x.1.2) = (a, b) := h
      rw [if_neg h, decide_eq_false this]
      exact ⟨r, h1, h2⟩
section
variable {h : Heap} {id : Nat} {l : List ((Int × Int) × AV)} {a b : Int} {z v : AV}
theorem lkp_ok (hl : live h id = some [.mpc (l.map ent)]) : opLkp h [.i, .i] z true (.rm id) (kv a b) = some (.tup [(lkp l (a, b)).getD z, .bool (lkp l (a, b)).isSome]) := by
  obtain ⟨r, h1, h2⟩ := findE_lkp (a := a) (b := b) l 0
  unfold opLkp
  simp only [mapOf, hl, Option.bind_some, h1, Option.map_some]
  rw [if_pos (show keyOk [.i, .i] (kv a b) = true from rfl), ← h2]
  cases r <;> rfl
theorem lkp_v (hl : live h id = some [.mpc (l.map ent)]) : opLkp h [.i, .i] z false (.rm id) (kv a b) = some ((lkp l (a, b)).getD z) := by
  obtain ⟨r, h1, h2⟩ := findE_lkp (a := a) (b := b) l 0
  unfold opLkp
  simp only [mapOf, hl, Option.bind_some, h1, Option.map_some]
  rw [if_pos (show keyOk [.i, .i] (kv a b) = true from rfl), ← h2]
  cases r <;> rfl
theorem lkp_iok : opLkp h [.i, .i] z true (.im (l.map ent)) (kv a b) = some (.tup [(lkp l (a, b)).getD z, .bool (lkp l (a, b)).isSome]) := by
  obtain ⟨r, h1, h2⟩ := findE_lkp (a := a) (b := b) l 0
  unfold opLkp
  simp only [mapOf, Option.bind_some, h1, Option.map_some]
  rw [if_pos (show keyOk [.i, .i] (kv a b) = true from rfl), ← h2]
  cases r <;> rfl
theorem mup_new (hl : live h id = some [.mpc (l.map ent)]) (hn : lkp l (a, b) = none) (hv : v.ent = true) : opMup h [.i, .i] (.rm id) (kv a b) v = some (h.set id (some [.mpc ((l ++ [((a, b), v)]).map ent)])) := by
  obtain ⟨r, h1, h2⟩ := findE_lkp (a := a) (b := b) l 0
  have hr : r = none := by cases r <;> rw [hn] at h2 <;> first | rfl | cases h2
  subst hr
  unfold opMup
  simp only [mapOf, hl, Option.bind_some, h1]
  rw [if_pos ⟨hv, rfl⟩, List.map_append]
  rfl
end
theorem lkp_none {l : List ((Int × Int) × AV)} {k : Int × Int} : lkp l k = none ↔ ∀ x ∈ l, x.1 ≠ k := by
  induction l with
  | nil => simp [lkp]
  | cons x l ih =>
    unfold lkp
    by_cases h : x.1 = k
    · rw [if_pos h]; simp [h]
    · rw [if_neg h, ih]; simp [h]
theorem lkp_mem {l : List ((Int × Int) × AV)} {k : Int × Int} {v : AV} (h : lkp l k = some v) : (k, v) ∈ l := by
  induction l with
  | nil => cases h
  | cons x l ih =>
    rw [lkp] at h
    by_cases hx : x.1 = k
    · rw [if_pos hx] at h; cases h; subst hx; exact List.mem_cons_self ..
    · rw [if_neg hx] at h; exact List.mem_cons_of_mem _ (ih h)
end Go.Proofs.YtojfiboeghonoaaGreat.Am
