import Derived.Test.YtiblnpnfaadmcaaGreatAmPure
/- The operations that make or write memory do what the abstract machine says. -/
set_option linter.unusedVariables false
set_option maxRecDepth 10000
set_option linter.unusedSectionVars false
set_option linter.unusedSimpArgs false
namespace Go.Proofs.YtiblnpnfaadmcaaGreat.Am
open Go

variable [Gl] {P : Program} {w : World} {μ : Mu} {A : Nat → Prop}

theorem HRep.glbStep {h : Heap} (hh : HRep w μ A h) {w' : World} {μ' : Mu} {A' : Nat → Prop} (m : Move w μ A w' μ' A') : GRep w' A' :=
 hh.glb.move (fun b hb => m.keep b (hh.old b hb) (hh.off b hb)) m.a

theorem MpRep.lt {R : AV → Value → Prop} {cs : List AV} {b : Addr} (h : MpRep w R cs b) : b.block < w.heap.size := by
 rcases h with ⟨_, _, r, h⟩ | ⟨es, ent, ck, _, _, hb, _⟩
 ·exact (Array.getElem?_eq_some_iff.1 h).1
 ·exact (Array.getElem?_eq_some_iff.1 hb).1

theorem MpRep.to {R R' : AV → Value → Prop} {cs : List AV} {b : Addr} {w' : World} (h : MpRep w R cs b) (hw : w'.heap[b.block]? = w.heap[b.block]?) (hR : ∀ c v, R c v → R' c v) : MpRep w' R' cs b := by
 rcases h with ⟨h1, h2, h3⟩ | ⟨es, ent, ck, h1, h2, h3, h4⟩
 ·obtain ⟨r, h3⟩ := h3
  exact .inl ⟨h1, h2, r, by rw [hw]; exact h3⟩
 ·exact .inr ⟨es, ent, ck, h1, h2, by rw [hw]; exact h3, fun j c hj => hR _ _ (h4 j c hj)⟩

theorem zya5 {h : Heap} (hh : HRep w μ A h) {b : Nat} (hb : Liv μ b) : b < w.heap.size := by
 obtain ⟨id, a, r, hm, rfl⟩ := hb
 obtain ⟨cs, hl⟩ := live_of hh hm
 by_cases hs : a.spot = none
 ·obtain ⟨_, _, arr, e, fr, hb, _⟩ := hh.blk id cs a r hl hm hs
  exact (Array.getElem?_eq_some_iff.1 hb).1
 ·exact (hh.mp id cs a r hl hm hs).lt

theorem zyab (h : Heap) (x : Option (List AV)) (id : Nat) : live (h ++ [x]) id = if id < h.length then live h id else if id = h.length then x else none := by
 unfold live
 by_cases h1 : id < h.length
 ·rw [List.getElem?_append_left h1, if_pos h1]
 ·rw [List.getElem?_append_right (by omega), if_neg h1]
  by_cases h2 : id = h.length
  ·subst h2; simp
  ·rw [if_neg h2, List.getElem?_eq_none (by simp; omega)]; rfl

theorem zy6z {h : Heap} {id : Nat} {cs : List AV} (hl : live h id = some cs) : id < h.length := by
 rcases Nat.lt_or_ge id h.length with h1 | h1
 ·exact h1
 ·unfold live at hl; rw [List.getElem?_eq_none h1] at hl; cases hl

theorem zy0h {h : Heap} (hh : HRep w μ A h) {w' : World} (hos : w'.os = w.os) (htp : w'.tape = w.tape) (hout : w'.output = w.output) (hsz : w'.heap.size = w.heap.size + 1) (hold : ∀ b, b < w.heap.size → w'.heap[b]? = w.heap[b]?)
  {arr : Array Value} {e : TypeId} {fr : Nat × Nat} (hnew : w'.heap[w.heap.size]? = some (.cells arr e fr)) (hfr : ∀ o, o < arr.size → ¬ (fr.1 ≤ o ∧ o < fr.2)) {cs : List AV} {vs : List Value} (hr : RepL w μ A cs vs) (hv : ∀ j, j < vs.length → arr[j]? = vs[j]?) (hl : vs.length ≤ arr.size) :
  Move w μ A w' (μ ++ [some (⟨w.heap.size, 0, none⟩, arr.size)]) A ∧ HRep w' (μ ++ [some (⟨w.heap.size, 0, none⟩, arr.size)]) A (h ++ [some cs]) := by
 have old : ∀ (id : Nat) (x : Addr × Nat), id < μ.length → (μ ++ [some (⟨w.heap.size, 0, none⟩, arr.size)])[id]? = some (some x) → μ[id]? = some (some x) := fun id x hid hx => by
  rwa [List.getElem?_append_left hid] at hx
 have split : ∀ (id : Nat) (a : Addr) (r : Nat), (μ ++ [some (⟨w.heap.size, 0, none⟩, arr.size)])[id]? = some (some (a, r)) → (id < μ.length ∧ μ[id]? = some (some (a, r))) ∨ (id = μ.length ∧ a = ⟨w.heap.size, 0, none⟩ ∧ r = arr.size) := fun id a r hx => by
  rcases Nat.lt_or_ge id μ.length with h1 | h1
  ·exact .inl ⟨h1, old id _ h1 hx⟩
  ·rw [List.getElem?_append_right h1] at hx
   have : id = μ.length := by
    have := (List.getElem?_eq_some_iff.1 hx).1
    simp at this; omega
   subst this
   simp at hx
   exact .inr ⟨rfl, hx.1.symm, hx.2.symm⟩
 have mv : Move w μ A w' (μ ++ [some (⟨w.heap.size, 0, none⟩, arr.size)]) A := {
  os := hos, tape := htp, output := hout, size := by omega
  keep := fun b hb _ => hold b hb
  len := by simp
  mu := old
  liv := fun b ⟨id, a, r, hm, hb⟩ => by
   rcases split id a r hm with ⟨_, h2⟩ | ⟨_, h2, _⟩
   ·exact .inl ⟨id, a, r, h2, hb⟩
   ·subst h2; subst hb; exact .inr (Nat.le_refl _)
  a := fun b hb => hb
  new := fun b hb => .inl hb
  lp := fun b r hb => by rw [hold b (Array.getElem?_eq_some_iff.1 hb).1]; exact hb }
 refine ⟨mv, ?_⟩
 have hr' := hr.step hh mv
 refine ⟨by simp [hh.len], fun id => ?_, fun id ds b r hlv hm hs => ?_, fun i j a b r s hi hj hab => ?_, fun b hb hl' => ?_, fun b hb => by have := hh.old b hb; omega, hh.glbStep mv, fun id ds b r hlv hm hs => ?_⟩
 ·rw [zyab]
  rcases Nat.lt_or_ge id μ.length with h1 | h1
  ·rw [List.getElem?_append_left h1, if_pos (by rw [← hh.len]; exact h1)]; exact hh.liv id
  ·rw [List.getElem?_append_right h1, if_neg (by rw [← hh.len]; omega)]
   by_cases h2 : id = μ.length
   ·subst h2; rw [if_pos hh.len]; simp
   ·rw [if_neg (by rw [← hh.len]; exact h2), List.getElem?_eq_none (by simp; omega)]; rfl
 ·rcases split id b r hm with ⟨h1, h2⟩ | ⟨h1, h2, h3⟩
  ·rw [zyab, if_pos (by rw [← hh.len]; exact h1)] at hlv
   obtain ⟨g1, g2, arr', e', fr', g3, g4, g5, g6⟩ := hh.blk id ds b r hlv h2 hs
   refine ⟨g1, g2, arr', e', fr', ?_, g4, g5, fun j c hj => ?_⟩
   ·rw [hold _ (Array.getElem?_eq_some_iff.1 g3).1]; exact g3
   ·obtain ⟨v, hv1, hv2⟩ := g6 j c hj
    exact ⟨v, hv1, hv2.step hh mv⟩
  ·subst h1; subst h2; subst h3
   rw [zyab, if_neg (by rw [← hh.len]; omega), if_pos hh.len] at hlv
   cases hlv
   refine ⟨rfl, by rw [← hr.1]; exact hl, arr, e, fr, hnew, fun o _ ho => hfr o ho, by simp, fun j c hj => ?_⟩
   obtain ⟨v, hv1, hv2⟩ := hr'.get hj
   refine ⟨v, ?_, hv2⟩
   rw [Nat.zero_add, hv j (List.getElem?_eq_some_iff.1 hv1).1]
   exact hv1
 ·rcases split i a r hi with ⟨h1, h2⟩ | ⟨h1, h2, h3⟩ <;> rcases split j b s hj with ⟨k1, k2⟩ | ⟨k1, k2, k3⟩
  ·exact hh.inj i j a b r s h2 k2 hab
  ·subst k2
   have := zya5 hh ⟨i, a, r, h2, rfl⟩
   simp at hab; omega
  ·subst h2
   have := zya5 hh ⟨j, b, s, k2, rfl⟩
   simp at hab; omega
  ·omega
 ·obtain ⟨id, a, r, hm, rfl⟩ := hl'
  rcases split id a r hm with ⟨h1, h2⟩ | ⟨h1, h2, h3⟩
  ·exact hh.off _ hb ⟨id, a, r, h2, rfl⟩
  ·subst h2
   have := hh.old _ hb
   simp at this
 ·rcases split id b r hm with ⟨h1, h2⟩ | ⟨h1, h2, h3⟩
  ·rw [zyab, if_pos (by rw [← hh.len]; exact h1)] at hlv
   have g := hh.mp id ds b r hlv h2 hs
   exact g.to (hold _ g.lt) fun c v hr => hr.step hh mv
  ·subst h2; exact absurd rfl hs

theorem map_step {h : Heap} (hh : HRep w μ A h) {w' : World} (hos : w'.os = w.os) (htp : w'.tape = w.tape) (hout : w'.output = w.output) (hsz : w'.heap.size = w.heap.size + 1) (hold : ∀ b, b < w.heap.size → w'.heap[b]? = w.heap[b]?)
  (hnew : w'.heap[w.heap.size]? = some (.map #[] 0)) :
  Move w μ A w' (μ ++ [some (⟨w.heap.size, 0, some 0⟩, 0)]) A ∧ HRep w' (μ ++ [some (⟨w.heap.size, 0, some 0⟩, 0)]) A (h ++ [some [.mpc []]]) := by
 have old : ∀ (id : Nat) (x : Addr × Nat), id < μ.length → (μ ++ [some (⟨w.heap.size, 0, some 0⟩, 0)])[id]? = some (some x) → μ[id]? = some (some x) := fun id x hid hx => by
  rwa [List.getElem?_append_left hid] at hx
 have split : ∀ (id : Nat) (a : Addr) (r : Nat), (μ ++ [some (⟨w.heap.size, 0, some 0⟩, 0)])[id]? = some (some (a, r)) → (id < μ.length ∧ μ[id]? = some (some (a, r))) ∨ (id = μ.length ∧ a = ⟨w.heap.size, 0, some 0⟩ ∧ r = 0) := fun id a r hx => by
  rcases Nat.lt_or_ge id μ.length with h1 | h1
  ·exact .inl ⟨h1, old id _ h1 hx⟩
  ·rw [List.getElem?_append_right h1] at hx
   have : id = μ.length := by
    have := (List.getElem?_eq_some_iff.1 hx).1
    simp at this; omega
   subst this
   simp at hx
   exact .inr ⟨rfl, hx.1.symm, hx.2.symm⟩
 have mv : Move w μ A w' (μ ++ [some (⟨w.heap.size, 0, some 0⟩, 0)]) A := {
  os := hos, tape := htp, output := hout, size := by omega
  keep := fun b hb _ => hold b hb
  len := by simp
  mu := old
  liv := fun b ⟨id, a, r, hm, hb⟩ => by
   rcases split id a r hm with ⟨_, h2⟩ | ⟨_, h2, _⟩
   ·exact .inl ⟨id, a, r, h2, hb⟩
   ·subst h2; subst hb; exact .inr (Nat.le_refl _)
  a := fun b hb => hb
  new := fun b hb => .inl hb
  lp := fun b r hb => by rw [hold b (Array.getElem?_eq_some_iff.1 hb).1]; exact hb }
 refine ⟨mv, ?_⟩
 refine ⟨by simp [hh.len], fun id => ?_, fun id ds b r hlv hm hs => ?_, fun i j a b r s hi hj hab => ?_, fun b hb hl' => ?_, fun b hb => by have := hh.old b hb; omega, hh.glbStep mv, fun id ds b r hlv hm hs => ?_⟩
 ·rw [zyab]
  rcases Nat.lt_or_ge id μ.length with h1 | h1
  ·rw [List.getElem?_append_left h1, if_pos (by rw [← hh.len]; exact h1)]; exact hh.liv id
  ·rw [List.getElem?_append_right h1, if_neg (by rw [← hh.len]; omega)]
   by_cases h2 : id = μ.length
   ·subst h2; rw [if_pos hh.len]; simp
   ·rw [if_neg (by rw [← hh.len]; exact h2), List.getElem?_eq_none (by simp; omega)]; rfl
 ·rcases split id b r hm with ⟨h1, h2⟩ | ⟨h1, h2, h3⟩
  ·rw [zyab, if_pos (by rw [← hh.len]; exact h1)] at hlv
   obtain ⟨g1, g2, arr', e', fr', g3, g4, g5, g6⟩ := hh.blk id ds b r hlv h2 hs
   refine ⟨g1, g2, arr', e', fr', ?_, g4, g5, fun j c hj => ?_⟩
   ·rw [hold _ (Array.getElem?_eq_some_iff.1 g3).1]; exact g3
   ·obtain ⟨v, hv1, hv2⟩ := g6 j c hj
    exact ⟨v, hv1, hv2.step hh mv⟩
  ·subst h2; exact absurd hs (by simp)
 ·rcases split i a r hi with ⟨h1, h2⟩ | ⟨h1, h2, h3⟩ <;> rcases split j b s hj with ⟨k1, k2⟩ | ⟨k1, k2, k3⟩
  ·exact hh.inj i j a b r s h2 k2 hab
  ·subst k2
   have := zya5 hh ⟨i, a, r, h2, rfl⟩
   simp at hab; omega
  ·subst h2
   have := zya5 hh ⟨j, b, s, k2, rfl⟩
   simp at hab; omega
  ·omega
 ·obtain ⟨id, a, r, hm, rfl⟩ := hl'
  rcases split id a r hm with ⟨h1, h2⟩ | ⟨h1, h2, h3⟩
  ·exact hh.off _ hb ⟨id, a, r, h2, rfl⟩
  ·subst h2
   have := hh.old _ hb
   simp at this
 ·rcases split id b r hm with ⟨h1, h2⟩ | ⟨h1, h2, h3⟩
  ·rw [zyab, if_pos (by rw [← hh.len]; exact h1)] at hlv
   have g := hh.mp id ds b r hlv h2 hs
   exact g.to (hold _ g.lt) fun c v hr => hr.step hh mv
  ·subst h1; subst h2
   rw [zyab, if_neg (by rw [← hh.len]; omega), if_pos hh.len] at hlv
   cases hlv
   exact .inr ⟨[], fun _ => (default, default, 0), 0, rfl, rfl, by rw [hnew]; simp [zyb7], fun j c hj => by simp at hj⟩

theorem zy4g {h : Heap} (hh : HRep w μ A h) (id : Nat) : Move w μ A w (μ.set id none) A ∧ HRep w (μ.set id none) A (h.set id none) := by
 have old : ∀ (j : Nat) (x : Addr × Nat), (μ.set id none)[j]? = some (some x) → j ≠ id ∧ μ[j]? = some (some x) := fun j x hx => by
  rw [List.getElem?_set] at hx
  split at hx
  ·split at hx <;> cases hx
  ·rename_i hne; exact ⟨fun e => hne e.symm, hx⟩
 have mv : Move w μ A w (μ.set id none) A := {
  os := rfl, tape := rfl, output := rfl, size := Nat.le_refl _
  keep := fun _ _ _ => rfl
  len := by simp
  mu := fun j x _ hx => (old j x hx).2
  liv := fun b ⟨j, a, r, hm, hb⟩ => .inl ⟨j, a, r, (old j _ hm).2, hb⟩
  a := fun b hb => hb
  new := fun b hb => .inl hb
  lp := fun _ _ hb => hb }
 have hlive : ∀ j, live (h.set id none) j = if j = id then none else live h j := fun j => by
  unfold live
  rw [List.getElem?_set]
  by_cases h1 : id = j
  ·subst h1; rw [if_pos rfl, if_pos rfl]; split <;> rfl
  ·rw [if_neg h1, if_neg (fun e => h1 e.symm)]
 refine ⟨mv, ⟨by simp [hh.len], fun j => ?_, fun j ds b r hlv hm hs => ?_, fun i j a b r s hi hj hab => hh.inj i j a b r s (old _ _ hi).2 (old _ _ hj).2 hab, fun b hb ⟨j, a, r, hm, e⟩ => hh.off b hb ⟨j, a, r, (old _ _ hm).2, e⟩, hh.old, hh.glb, fun j ds b r hlv hm hs => ?_⟩⟩
 ·rw [hlive, List.getElem?_set]
  by_cases h1 : id = j
  ·subst h1; rw [if_pos rfl, if_pos rfl]; split <;> rfl
  ·rw [if_neg h1, if_neg (fun e => h1 e.symm)]; exact hh.liv j
 ·obtain ⟨hne, hm'⟩ := old j _ hm
  rw [hlive, if_neg hne] at hlv
  obtain ⟨g1, g2, arr, e, fr, g3, g4, g5, g6⟩ := hh.blk j ds b r hlv hm' hs
  exact ⟨g1, g2, arr, e, fr, g3, g4, g5, fun k c hk => let ⟨v, hv1, hv2⟩ := g6 k c hk; ⟨v, hv1, hv2.step hh mv⟩⟩
 ·obtain ⟨hne, hm'⟩ := old j _ hm
  rw [hlive, if_neg hne] at hlv
  exact (hh.mp j ds b r hlv hm' hs).to rfl fun c v hr => hr.step hh mv

theorem zy4d {h : Heap} (hh : HRep w μ A h) (n : Nat) : Move w μ A { w with drawn := n } μ A ∧ HRep { w with drawn := n } μ A h := by
 have mv : Move w μ A { w with drawn := n } μ A := ⟨rfl, rfl, rfl, Nat.le_refl _, fun _ _ _ => rfl, Nat.le_refl _, fun _ _ _ h => h, fun _ h => .inl h, fun _ h => h, fun _ h => .inl h, fun _ _ h => h⟩
 exact ⟨mv, ⟨hh.len, hh.liv, fun j ds b r hlv hm hs => by
  obtain ⟨g1, g2, arr, e, fr, g3, g4, g5, g6⟩ := hh.blk j ds b r hlv hm hs
  exact ⟨g1, g2, arr, e, fr, g3, g4, g5, fun k c hk => let ⟨v, hv1, hv2⟩ := g6 k c hk; ⟨v, hv1, hv2.step hh mv⟩⟩, hh.inj, hh.off, hh.old, hh.glbStep mv, fun j ds b r hlv hm hs => (hh.mp j ds b r hlv hm hs).to rfl fun c v hr => hr.step hh mv⟩⟩

theorem zyfh (e : TypeId) (cs : Array Value) (w : World) : (newRow e cs).run P w = .ok ⟨w.heap.size, 0, none⟩ { w with heap := w.heap.push (.cells cs e) } := by
 simp [newRow]

def Goes (P : Program) (w : World) (μ : Mu) (A : Nat → Prop) (m : Sem Next) (r : AV) (h' : Heap) : Prop :=
 ∃ n v w' μ' A', m.run P w = .ok n w' ∧ (n = .value v ∨ (n = .skip ∧ v = Go.undef)) ∧ HRep w' μ' A' h' ∧ Rep w' μ' A' r v ∧ Move w μ A w' μ' A'

theorem zyec {h : Heap} (hh : HRep w μ A h) (e : TypeId) {arr : Array Value} {cs : List AV} {vs : List Value} (hr : RepL w μ A cs vs) (hv : ∀ j, j < vs.length → arr[j]? = vs[j]?) (hl : vs.length ≤ arr.size) :
  Move w μ A { w with heap := w.heap.push (.cells arr e) } (μ ++ [some (⟨w.heap.size, 0, none⟩, arr.size)]) A ∧ HRep { w with heap := w.heap.push (.cells arr e) } (μ ++ [some (⟨w.heap.size, 0, none⟩, arr.size)]) A (h ++ [some cs]) :=
 zy0h (w' := { w with heap := w.heap.push (.cells arr e) }) (fr := (0, 0)) hh rfl rfl rfl (by simp) (fun b hb => by show (w.heap.push _)[b]? = _; rw [Array.getElem?_push, if_neg (by omega)]) (by show (w.heap.push _)[_]? = _; rw [Array.getElem?_push, if_pos rfl]) (fun o _ h => by simp at h) hr hv hl

theorem new_ref {μ : Mu} {x : Option (Addr × Nat)} : μ.length < (μ ++ [x]).length ∧ (μ ++ [x])[μ.length]? = some x := by simp

theorem opBox_run {h : Heap} (hh : HRep w μ A h) {c r : AV} {v : Value} {h' : Heap} (hc : Rep w μ A c v) (hv : opBox h c = some (r, h')) (e : TypeId) : Goes P w μ A (do pure (Next.value (← Instr.box e v)) : Sem Next) r h' := by
 have main : c ≠ .junk → r = .rp h.length 0 → h' = h ++ [some c.cells] → Goes P w μ A (do pure (Next.value (← Instr.box e v)) : Sem Next) r h' := by
  intro hj hr hh'
  subst hr; subst hh'
  have hcs := hc.cells hj
  obtain ⟨mv, hh2⟩ := zyec hh e (arr := v.cells) hcs (fun j hj => by simp) (by simp)
  refine ⟨.value (.pointer (some ⟨w.heap.size, 0, none⟩)), _, _, _, A, by simp [Instr.box, newVar, zyfh], .inl rfl, hh2, ?_, mv⟩
  refine .rp _ _ _ (by rw [← hh.len]; exact new_ref.1) fun b q hb => ?_
  rw [← hh.len, new_ref.2] at hb
  cases hb
  exact ⟨rfl, rfl⟩
 cases c <;> simp only [opBox, Option.some.injEq, Prod.mk.injEq] at hv <;> first | (cases hv; done) | exact main (by simp) hv.1.symm hv.2.symm

theorem zyds {h : Heap} (hh : HRep w μ A h) {t : TypeId} {z : List AV} (hz : zeroT P t = some z) {r : AV} {h' : Heap} (hv : zydr h z = some (r, h')) : Goes P w μ A (do pure (Next.value (← Instr.alloc t true (.tuple #[]))) : Sem Next) r h' := by
 simp only [zydr, Option.some.injEq, Prod.mk.injEq] at hv
 obtain ⟨rfl, rfl⟩ := hv
 obtain ⟨i, v, hi, hz', hr⟩ := zyin (w := w) (μ := μ) (A := A) hz
 obtain ⟨mv, hh2⟩ := zyec hh t (arr := v.cells) hr (fun j hj => by simp) (by simp)
 refine ⟨.value (.pointer (some ⟨w.heap.size, 0, none⟩)), _, _, _, A, by simp [Instr.alloc, zyfl hi hz', newVar, zyfh], .inl rfl, hh2, ?_, mv⟩
 refine .rp _ _ _ (by rw [← hh.len]; exact new_ref.1) fun b q hb => ?_
 rw [← hh.len, new_ref.2] at hb
 cases hb
 exact ⟨rfl, rfl⟩


theorem zyip (z : List AV) : ∀ n, (zeros z n).length = n * z.length
 | 0 => by simp [zeros]
 | n + 1 => by simp [zeros, zyip z n, Nat.add_mul]; omega

theorem zyir {z : List AV} {zs : List Value} (hz : RepL w μ A z zs) : ∀ n, RepL w μ A (zeros z n) ((List.replicate n zs).flatten)
 | 0 => .nil _ _ _
 | n + 1 => by rw [List.replicate_succ, List.flatten_cons]; exact hz.append (zyir hz n)

theorem zy5s (zs : List Value) (h0 : zs.length ≠ 0) : ∀ (n j : Nat), j < n * zs.length → ((List.replicate n zs).flatten)[j]? = zs[j % zs.length]?
 | 0, j, h => by omega
 | n + 1, j, h => by
  rw [List.replicate_succ, List.flatten_cons]
  by_cases hj : j < zs.length
  ·rw [List.getElem?_append_left hj, Nat.mod_eq_of_lt hj]
  ·rw [List.getElem?_append_right (by omega), zy5s zs h0 n _ (by rw [Nat.add_mul] at h; omega), ← Nat.mod_eq_sub_mod (by omega)]

theorem zyim {zs : Array Value} (h0 : zs.size ≠ 0) (n m j : Nat) (hj : j < n * zs.size) (hm : n ≤ m) : ((Array.range (m * zs.size)).map (zs[· % zs.size]!))[j]? = ((List.replicate n zs.toList).flatten)[j]? := by
 have hj' : j < m * zs.size := Nat.lt_of_lt_of_le hj (Nat.mul_le_mul_right _ hm)
 rw [zy5s zs.toList (by simpa using h0) n j (by simpa using hj)]
 have hlt : j % zs.size < zs.size := Nat.mod_lt _ (by omega)
 simp [hj', hlt]

theorem zyf8 {t : TypeId} {e : TypeId} {sz : Nat} {z : List AV} (h : rowT P t = some (e, sz, z)) : P.underlying t = some (.slice e) ∧ sizeT P e = some sz ∧ sz ≠ 0 ∧ z.length = sz ∧ ∃ i v, P.info? e = some i ∧ i.bytes ≤ 16384 ∧ i.zero = some v ∧ v.cells.size = sz ∧
  ∀ (w : World) (μ : Mu) (A : Nat → Prop), RepL w μ A z v.cells.toList := by
 unfold rowT at h
 simp only [Option.bind_eq_some_iff] at h
 obtain ⟨e', he, i, hi, z', hz, h⟩ := h
 split at h
 case isFalse => cases h
 rename_i hc
 cases h
 obtain ⟨i', v, hi', hv, hr⟩ := zyin (w := default) (μ := []) (A := fun _ => True) hz
 rw [hi] at hi'
 cases hi'
 have hsz : v.cells.size = i.size := by have := hr.1; simp at this; omega
 refine ⟨zy4i he, by simp [sizeT, hi], hc.1, hc.2.2, i, v, hi, hc.2.1, hv, hsz, fun w μ A => ?_⟩
 obtain ⟨i'', v'', hi'', hv'', hr''⟩ := zyin (w := w) (μ := μ) (A := A) hz
 rw [hi] at hi''
 cases hi''
 rw [hv] at hv''
 cases hv''
 exact hr''

theorem opMks_run {h : Heap} (hh : HRep w μ A h) {t e : TypeId} {sz : Nat} {z : List AV} (ht : rowT P t = some (e, sz, z)) {c d r : AV} {vc vd : Value} {h' : Heap} (hc : Rep w μ A c vc) (hd : Rep w μ A d vd) (hv : opMks h sz z c d = some (r, h')) :
  Goes P w μ A (do pure (Next.value (← Instr.makeSlice t vc vd)) : Sem Next) r h' := by
 obtain ⟨hu, hs, h0, hzl, i, v, hi, hbytes, hz, hcs, hzr⟩ := zyf8 ht
 unfold opMks at hv
 split at hv
 case h_2 => cases hv
 rename_i n m
 split at hv
 case isFalse => cases hv
 rename_i hb
 simp only [Option.some.injEq, Prod.mk.injEq] at hv
 obtain ⟨rfl, rfl⟩ := hv
 have e1 := hc.int_inv
 have e2 := hd.int_inv
 subst e1; subst e2
 obtain ⟨b1, b2, b3⟩ := hb
 have wrap : ∀ x : Int, 0 ≤ x → x ≤ 4294967296 → IntKind.i64.wrap x = x := fun x h1 h2 => zyij (by omega) (by omega)
 have hz0 : v.cells.size ≠ 0 := by omega
 have hm0 : m.toNat * v.cells.size = m.toNat * sz := by rw [hcs]
 have hvc : ∀ j, j < ((List.replicate n.toNat v.cells.toList).flatten).length → ((Array.range (m.toNat * sz)).map (v.cells[· % v.cells.size]!))[j]? = ((List.replicate n.toNat v.cells.toList).flatten)[j]? := fun j hj => by
  have hj' : j < n.toNat * v.cells.size := by simpa using hj
  rw [← hm0]
  exact zyim hz0 n.toNat m.toNat j hj' (by omega)
 obtain ⟨mv, hh2⟩ := zyec hh e (arr := (Array.range (m.toNat * sz)).map (v.cells[· % v.cells.size]!)) (zyir (hzr w μ A) n.toNat) hvc (by simp; rw [hcs]; exact Nat.mul_le_mul_right _ (by omega))
 refine ⟨.value (.slice (some ⟨w.heap.size, 0, none⟩) n.toNat m.toNat), _, _, _, A, ?_, .inl rfl, hh2, ?_, mv⟩
 ·have hbm : ¬ ((i.bytes : Int) * m > 2 ^ 48) := by
   have : (i.bytes : Int) * m ≤ 16384 * 4294967296 := Int.mul_le_mul (by omega) b3 (by omega) (by omega)
   omega
  have hm1 : ¬ m < 0 := by omega
  have hn1 : ¬ n < 0 := by omega
  have hnm : ¬ m < n := by omega
  unfold Instr.makeSlice
  simp only [Sem.run_bind, zyfk t hu, Result.andThen_ok, asInt, asIntOf, Sem.run_pure, zyfj e hi, wrap n b1 (by omega), wrap m (by omega) b3, hm1, hbm, hn1, hnm, decide_false, Bool.or_false, Bool.false_eq_true, if_false, gt_iff_lt, run_askRoom, zyfi e hs]
  by_cases hms : m.toNat * sz = 0
  ·have e0 : ∀ (f g : Nat → Value), (Array.range 0).map f = (Array.range 0).map g := fun f g => by apply Array.ext'; simp
   simp only [hms, if_true, Sem.run_bind, Sem.run_pure, Result.andThen_ok, zyfh]
   rw [e0 _ (v.cells[· % v.cells.size]!)]
  ·simp only [hms, if_false, Sem.run_bind, Sem.run_pure, Result.andThen_ok, zyfh, zyfl hi hz]
 ·refine .rs _ _ _ _ _ _ (by rw [← hh.len]; exact new_ref.1) (by omega) (fun b q hb => ?_) rfl
  rw [← hh.len, new_ref.2] at hb
  cases hb
  exact ⟨rfl, fun _ => rfl, by simp⟩

theorem imm_step {h : Heap} (hh : HRep w μ A h) (e : TypeId) {arr : Array Value} {cs : List AV} (hr : RepL w μ A cs arr.toList) (n : Nat) :
  Move w μ A { w with heap := w.heap.push (.cells arr e) } μ (fun b => A b ∨ b = w.heap.size) ∧ HRep { w with heap := w.heap.push (.cells arr e) } μ (fun b => A b ∨ b = w.heap.size) h ∧
   Rep { w with heap := w.heap.push (.cells arr e) } μ (fun b => A b ∨ b = w.heap.size) (.is n true cs) (.slice (some ⟨w.heap.size, 0, none⟩) n n) := by
 have hold : ∀ b, b < w.heap.size → (w.heap.push (.cells arr e))[b]? = w.heap[b]? := fun b hb => by rw [Array.getElem?_push, if_neg (by omega)]
 have mv : Move w μ A { w with heap := w.heap.push (.cells arr e) } μ (fun b => A b ∨ b = w.heap.size) := {
  os := rfl, tape := rfl, output := rfl, size := by simp
  keep := fun b hb _ => hold b hb
  len := Nat.le_refl _
  mu := fun _ _ _ h => h
  liv := fun _ h => .inl h
  a := fun _ h => .inl h
  new := fun b hb => hb.elim .inl (fun h => .inr (.inr (by omega)))
  lp := fun b r hb => by rw [hold b (Array.getElem?_eq_some_iff.1 hb).1]; exact hb }
 refine ⟨mv, ⟨hh.len, hh.liv, fun id ds b r hl hm hs => ?_, hh.inj, fun b hb hl => ?_, fun b hb => ?_, hh.glbStep mv, fun id ds b r hl hm hs => ?_⟩, ?_⟩
 ·obtain ⟨g1, g2, ar, e', fr, g3, g4, g5, g6⟩ := hh.blk id ds b r hl hm hs
  refine ⟨g1, g2, ar, e', fr, ?_, g4, g5, fun j c hj => let ⟨v, h1, h2⟩ := g6 j c hj; ⟨v, h1, h2.step hh mv⟩⟩
  show (w.heap.push (.cells arr e))[b.block]? = _
  rw [hold _ (Array.getElem?_eq_some_iff.1 g3).1]
  exact g3
 ·rcases hb with hb | hb
  ·exact hh.off b hb hl
  ·have := zya5 hh hl; omega
 ·show b < (w.heap.push _).size
  rcases hb with hb | hb
  ·have := hh.old b hb; simp; omega
  ·subst hb; simp
 ·have g := hh.mp id ds b r hl hm hs
  exact g.to (hold _ g.lt) fun c v hr => hr.step hh mv
 ·have hr' := hr.step hh mv
  refine .is n true cs _ n (fun j => arr.getD j undef) (fun _ => rfl) (fun _ => .inr rfl) (fun j c hj => ?_) (fun j c hj => ?_) (Nat.le_refl _) (fun _ => rfl)
  ·obtain ⟨v, h1, h2⟩ := hr.get hj
   have h3 : arr[j]? = some v := by simpa using h1
   have hs : ((⟨w.heap.size, 0, none⟩ : Addr).add j).spot = none := zy0b rfl j
   unfold World.cell?
   simp only [add_block, Array.getElem?_push, if_true, hs, Option.isSome_none, Bool.false_eq_true, if_false, add_off, Nat.zero_add, h3, Array.getD_eq_getD_getElem?, Option.getD_some]
  ·obtain ⟨v, h1, h2⟩ := hr'.get hj
   have h3 : arr[j]? = some v := by simpa using h1
   simp only [Array.getD_eq_getD_getElem?, h3, Option.getD_some]
   exact h2

theorem zycz {h : Heap} (hh : HRep w μ A h) {t e : TypeId} {sz n : Nat} {z : List AV} (ht : rowT P t = some (e, sz, z)) (hn : n * sz ≤ 16777216) {parts : List (Nat × Value)} {pa : List (Nat × AV)} (hl : parts.length = pa.length)
  (hp : ∀ (j : Nat) (p : Nat × Value) (q : Nat × AV), parts[j]? = some p → pa[j]? = some q → q.1 = p.1 ∧ Rep w μ A q.2 p.2) {r : AV} (hv : zycy sz n z pa = some r) :
  Goes P w μ A (do pure (Next.value (← Instr.buildSlice t n parts.toArray)) : Sem Next) r h := by
 obtain ⟨hu, hs, h0, hzl, i, v, hi, hbytes, hz, hcs, hzr⟩ := zyf8 ht
 simp only [zycy, Option.map_eq_some_iff, Prod.mk.injEq] at hv
 obtain ⟨cs, hf, rfl⟩ := hv
 have hz0 : v.cells.size ≠ 0 := by omega
 have hrow : ((Array.range (n * sz)).map (v.cells[· % v.cells.size]!)).toList = (List.replicate n v.cells.toList).flatten := by
  apply List.ext_getElem?
  intro j
  rcases Nat.lt_or_ge j (n * sz) with hj | hj
  ·rw [← zyim hz0 n n j (by rw [hcs]; exact hj) (Nat.le_refl _), hcs, Array.getElem?_toList]
  ·rw [List.getElem?_eq_none (by simp; exact hj), List.getElem?_eq_none (by simp; rw [hcs]; exact hj)]
 obtain ⟨us, hus, hrus⟩ := zy5h (w := w) (μ := μ) (A := A) (fun i => some (i * sz, sz)) parts (pa.map fun p => (p.1 * sz, sz, p.2)) (zeros z n) ((Array.range (n * sz)).map (v.cells[· % v.cells.size]!)) cs (by rw [hrow]; exact zyir (hzr w μ A) n) (by simp [hl]) (fun j p q hj hq => by
  simp only [List.getElem?_map, Option.map_eq_some_iff] at hq
  obtain ⟨q', hq', rfl⟩ := hq
  obtain ⟨h1, h2⟩ := hp j p q' hj hq'
  exact ⟨by rw [h1], h2⟩) hf
 obtain ⟨mv, hh2, hri⟩ := imm_step hh e (arr := us) hrus n
 refine ⟨.value (.slice (some ⟨w.heap.size, 0, none⟩) n n), _, _, _, _, ?_, .inl rfl, hh2, hri, mv⟩
 ·unfold Instr.buildSlice
  have hn' : ¬ n * sz > 2 ^ 24 := by omega
  simp only [Sem.run_bind, zyfk t hu, Result.andThen_ok, zyfi e hs, hn', if_false]
  by_cases hms : n * sz = 0
  ·have hus' : Instr.fill (fun i => some (i * sz, sz)) ((Array.range (n * sz)).map ((#[] : Array Value)[· % (#[] : Array Value).size]!)) parts = some us := by
    rw [← hus]; congr 1; rw [hms]; simp
   simp only [hms, if_true, Sem.run_bind, Sem.run_pure, Result.andThen_ok]
   rw [hms] at hus'
   simp only [hus', Sem.run_bind, zyfh, Result.andThen_ok, Sem.run_pure]
  ·simp only [hms, if_false, Sem.run_bind, Sem.run_pure, Result.andThen_ok, zyfl hi hz, hus, zyfh]

theorem opS2b_run {h : Heap} (hh : HRep w μ A h) {src dst e : TypeId} {u : TypeDesc} (hs : P.underlying src = some u) (hd : P.underlying dst = some (.slice e)) (he : P.underlying e = some (.int .u8)) {c r : AV} {v : Value} {h' : Heap} (hc : Rep w μ A c v) (hv : opS2b h c = some (r, h')) :
  Goes P w μ A (do pure (Next.value (← convert src dst v)) : Sem Next) r h' := by
 cases c <;> try (simp [opS2b] at hv; done)
 case str s =>
  have := hc.str_inv
  subst this
  simp only [opS2b] at hv
  split at hv
  case isFalse => cases hv
  rename_i hb
  simp only [Option.some.injEq, Prod.mk.injEq] at hv
  obtain ⟨rfl, rfl⟩ := hv
  have hcap : s.size ≤ grownCap w s.size 0 e := by unfold grownCap; simp [Question.cut]
  have hrow : RepL w μ A (s.data.toList.map fun b => AV.int .u8 b.toNat) (s.data.toList.map fun b => Value.int .u8 b.toNat) := ⟨by simp, fun j c v hj hv => by
   simp only [List.getElem?_map, Option.map_eq_some_iff] at hj hv
   obtain ⟨b, hb, rfl⟩ := hj
   obtain ⟨b', hb', rfl⟩ := hv
   rw [hb] at hb'
   cases hb'
   exact .int _ _⟩
  have hsz : (Lib.bytesCells w e s).size = grownCap w s.size 0 e := by
   unfold Lib.bytesCells
   have : s.data.size = s.size := rfl
   simp [this]; omega
  obtain ⟨mv, hh2⟩ := zy0h (w' := Lib.bytesWorld w e s) hh (by rfl) (by rfl) (by rfl) (Lib.bytesWorld_size w e s) (fun b hb => Lib.bytesWorld_at_old w e s b hb) (Lib.bytesWorld_at_new w e s) (fun o ho h => by omega) hrow (fun j hj => by
   unfold Lib.bytesCells
   have hj' : j < s.data.size := by simpa using hj
   rw [Array.getElem?_append_left (by simpa using hj')]
   simp) (by
   rw [hsz]
   have : s.data.size = s.size := rfl
   simp [this]; exact hcap)
  refine ⟨.value (.slice (some ⟨w.heap.size, 0, none⟩) s.size (grownCap w s.size 0 e)), _, Lib.bytesWorld w e s, _, A, by simp only [Sem.run_bind, Lib.run_convert_string_bytes w src dst e s hs hd he, Result.andThen_ok, Sem.run_pure], .inl rfl, hh2, ?_, mv⟩
  refine .rs _ _ _ _ _ _ (by rw [← hh.len]; exact new_ref.1) hcap (fun b q hb => ?_) rfl
  rw [← hh.len, new_ref.2] at hb
  cases hb
  exact ⟨rfl, fun _ => rfl, by omega⟩


def zyge (cs : List Value) (off : Nat) (new : List Value) : List Value := cs.take off ++ new ++ cs.drop (off + new.length)

structure Put (w w' : World) (b : Nat) (arr : Array Value) (e : TypeId) (fr : Nat × Nat) : Prop where
 os : w'.os = w.os
 tape : w'.tape = w.tape
 output : w'.output = w.output
 drawn : w'.drawn = w.drawn
 size : w'.heap.size = w.heap.size
 old : ∀ k, k ≠ b → w'.heap[k]? = w.heap[k]?
 at_ : w'.heap[b]? = some (.cells arr e fr)

theorem zycl {c : AV} {v : Value} (h : Rep w μ A c v) (hc : c.cell = true) : v.oneCell' = true := by
 cases h <;> first | rfl | cases hc

theorem zygv {a : Addr} (ha : a.spot = none) {e : TypeId} {fr : Nat × Nat} : ∀ (vs : List Value) (i : Nat) (w : World) (arr : Array Value), w.heap[a.block]? = some (.cells arr e fr) → (∀ o, a.off ≤ o → o < arr.size → ¬ (fr.1 ≤ o ∧ o < fr.2)) →
  a.off + i + vs.length ≤ arr.size → (∀ v ∈ vs, v.oneCell' = true) →
  ∃ w', (storeCells a vs i).run P w = .ok () w' ∧ ∃ arr', Put w w' a.block arr' e fr ∧ arr'.toList = zyge arr.toList (a.off + i) vs
 | [], i, w, arr, hb, hfr, hl, hv => ⟨w, rfl, arr, ⟨rfl, rfl, rfl, rfl, rfl, fun _ _ => rfl, hb⟩, by simp [zyge]⟩
 | v :: vs, i, w, arr, hb, hfr, hl, hv => by
  simp only [List.length_cons] at hl
  have hcell : w.cell? (a.add i) = some (arr[a.off + i]'(by omega)) := by
   unfold World.cell?
   rw [add_block, hb]
   simp only [zy0b ha, Option.isSome_none, Bool.false_eq_true, if_false, add_off]
   exact Array.getElem?_eq_getElem (by omega)
  have hfz : w.frozen? (a.add i) = false := by
   unfold World.frozen?
   rw [add_block, hb]
   have := hfr (a.off + i) (by omega) (by omega)
   simp only [add_off]
   by_cases h1 : fr.1 ≤ a.off + i
   ·have : ¬ (a.off + i < fr.2) := fun h2 => this ⟨h1, h2⟩
    simp [this]
   ·simp [h1]
  have hw : (w.setCell (a.add i) v).heap[a.block]? = some (.cells (arr.setIfInBounds (a.off + i) v) e fr) := by
   unfold World.setCell
   simp only [Array.getElem?_modify, add_block, if_true, hb, Option.map_some, zy0b ha, Option.isSome_none, Bool.false_eq_true, if_false, add_off]
  obtain ⟨w', hr, arr', hp, ha'⟩ := zygv ha vs (i + 1) (w.setCell (a.add i) v) _ hw (by simpa using hfr) (by simp; omega) (fun u hu => hv u (List.mem_cons_of_mem _ hu))
  refine ⟨w', ?_, arr', ⟨hp.os, hp.tape, hp.output, hp.drawn, ?_, fun k hk => ?_, hp.at_⟩, ?_⟩
  ·unfold storeCells
   simp only [Sem.run_bind, run_store P w _ v _ (hv v (List.mem_cons_self ..)), hcell, hfz, Bool.false_eq_true, if_false, Result.andThen_ok, hr]
  ·rw [hp.size]; simp [World.setCell]
  ·rw [hp.old k hk]
   unfold World.setCell
   simp only [Array.getElem?_modify, add_block]
   rw [if_neg (fun e => hk e.symm)]
  ·rw [ha']
   have hn : a.off + i < arr.toList.length := by simp; omega
   have ht : (arr.toList.take (a.off + i)).length = a.off + i := by simp; omega
   unfold zyge
   simp only [Array.toList_setIfInBounds, List.length_cons]
   have h1 : (arr.toList.set (a.off + i) v).take (a.off + (i + 1)) = arr.toList.take (a.off + i) ++ [v] := by
    rw [List.set_eq_take_append_cons_drop, if_pos hn, show a.off + (i + 1) = (arr.toList.take (a.off + i)).length + 1 by rw [ht]; omega, List.take_length_add_append]
    simp
   have h2 : (arr.toList.set (a.off + i) v).drop (a.off + (i + 1) + vs.length) = arr.toList.drop (a.off + i + (vs.length + 1)) := by
    rw [List.drop_set_of_lt (by omega)]
    congr 1; omega
   rw [h1, h2]
   simp

theorem zyeg {h : Heap} (hh : HRep w μ A h) {id : Nat} {cs cs' : List AV} {b : Addr} {r : Nat} (hl : live h id = some cs) (hm : μ[id]? = some (some (b, r))) (hsb : b.spot = none) {w' : World} {arr' : Array Value} {e : TypeId} {fr : Nat × Nat} (hp : Put w w' b.block arr' e fr)
  (hfr : ∀ o, b.off ≤ o → o < arr'.size → ¬ (fr.1 ≤ o ∧ o < fr.2)) (hr : b.off + r ≤ arr'.size) (hcs : cs'.length ≤ r) (hv : ∀ (j : Nat) (c : AV), cs'[j]? = some c → ∃ v, arr'[b.off + j]? = some v ∧ Rep w μ A c v) :
  Move w μ A w' μ A ∧ HRep w' μ A (h.set id (some cs')) := by
 have hlivb : Liv μ b.block := ⟨id, b, r, hm, rfl⟩
 have mv : Move w μ A w' μ A := {
  os := hp.os, tape := hp.tape, output := hp.output, size := by rw [hp.size]; exact Nat.le_refl _
  keep := fun k _ hk => hp.old k (fun e => hk (e ▸ hlivb))
  len := Nat.le_refl _
  mu := fun _ _ _ h => h
  liv := fun _ h => .inl h
  a := fun _ h => h
  new := fun _ h => .inl h
  lp := fun k q hk => by
   by_cases e : k = b.block
   ·obtain ⟨_, _, arr, e2, fr2, g, _⟩ := hh.blk id cs b r hl hm hsb
    rw [e, g] at hk; cases hk
   ·rw [hp.old k e]; exact hk }
 have hlive : ∀ j, live (h.set id (some cs')) j = if j = id then some cs' else live h j := fun j => by
  unfold live
  rw [List.getElem?_set]
  by_cases h1 : id = j
  ·subst h1; rw [if_pos rfl, if_pos rfl, if_pos (zy6z hl)]; rfl
  ·rw [if_neg h1, if_neg (fun e => h1 e.symm)]
 refine ⟨mv, ⟨by simp [hh.len], fun j => ?_, fun j ds a q hlv hma hsp => ?_, hh.inj, hh.off, fun k hk => by rw [hp.size]; exact hh.old k hk, hh.glbStep mv, fun j ds a q hlv hma hsp => ?_⟩⟩
 ·rw [hlive]
  by_cases h1 : j = id
  ·subst h1; rw [if_pos rfl, hm]; rfl
  ·rw [if_neg h1]; exact hh.liv j
 ·rw [hlive] at hlv
  by_cases h1 : j = id
  ·subst h1
   rw [if_pos rfl] at hlv
   cases hlv
   rw [hm] at hma
   cases hma
   exact ⟨hsp, hcs, arr', e, fr, hp.at_, hfr, hr, fun k c hk => let ⟨v, h1, h2⟩ := hv k c hk; ⟨v, h1, h2.step hh mv⟩⟩
  ·rw [if_neg h1] at hlv
   obtain ⟨g1, g2, arr, e', fr', g3, g4, g5, g6⟩ := hh.blk j ds a q hlv hma hsp
   refine ⟨g1, g2, arr, e', fr', ?_, g4, g5, fun k c hk => let ⟨v, h1, h2⟩ := g6 k c hk; ⟨v, h1, h2.step hh mv⟩⟩
   rw [hp.old _ (fun e => h1 (hh.inj j id a b q r hma hm e))]
   exact g3
 ·rw [hlive] at hlv
  by_cases h1 : j = id
  ·subst h1
   rw [hm] at hma
   cases hma
   exact absurd hsb hsp
  ·rw [if_neg h1] at hlv
   exact (hh.mp j ds a q hlv hma hsp).to (hp.old _ (fun e => h1 (hh.inj j id a b q r hma hm e))) fun c v hr => hr.step hh mv

theorem zya6 {h : Heap} (hh : HRep w μ A h) {id : Nat} {cs : List AV} (hl : live h id = some cs) : ∃ b r, μ[id]? = some (some (b, r)) := by
 obtain ⟨b, r, hm, _⟩ := zy19 hh hl
 exact ⟨b, r, hm⟩

theorem zygh {cs new : List AV} {arr : Array Value} {o off : Nat} {vs : List Value} (hc : ∀ (j : Nat) (c : AV), cs[j]? = some c → ∃ v, arr[o + j]? = some v ∧ Rep w μ A c v) (hn : RepL w μ A new vs) (hb : off + new.length ≤ cs.length) (hsz : o + cs.length ≤ arr.size)
  {arr' : Array Value} (ha : arr'.toList = zyge arr.toList (o + off) vs) : arr'.size = arr.size ∧ ∀ (j : Nat) (c : AV), (zygd cs off new)[j]? = some c → ∃ v, arr'[o + j]? = some v ∧ Rep w μ A c v := by
 have hvl := hn.1
 have hsz' : arr'.size = arr.size := by
  have := congrArg List.length ha
  simp [zyge] at this
  omega
 refine ⟨hsz', fun j c hj => ?_⟩
 have hg : arr'[o + j]? = (zyge arr.toList (o + off) vs)[o + j]? := by rw [← ha]; simp
 rw [hg]
 unfold zygd at hj
 unfold zyge
 by_cases h1 : j < off
 ·rw [List.append_assoc, List.getElem?_append_left (by simp; omega), List.getElem?_take, if_pos h1] at hj
  obtain ⟨v, hv1, hv2⟩ := hc j c hj
  refine ⟨v, ?_, hv2⟩
  rw [List.append_assoc, List.getElem?_append_left (by simp; omega), List.getElem?_take, if_pos (by omega)]
  simpa using hv1
 ·by_cases h2 : j < off + new.length
  ·rw [List.getElem?_append_left (by simp; omega), List.getElem?_append_right (by simp; omega)] at hj
   have e1 : (cs.take off).length = off := by simp; omega
   rw [e1] at hj
   obtain ⟨v, hv1, hv2⟩ := hn.get hj
   refine ⟨v, ?_, hv2⟩
   have e2 : (arr.toList.take (o + off)).length = o + off := by simp; omega
   rw [List.getElem?_append_left (by simp; omega), List.getElem?_append_right (by simp; omega), e2, show o + j - (o + off) = j - off by omega]
   exact hv1
  ·rw [List.getElem?_append_right (by simp; omega), List.getElem?_drop] at hj
   have e1 : (cs.take off ++ new).length = off + new.length := by simp; omega
   rw [e1] at hj
   rw [show off + new.length + (j - (off + new.length)) = j by omega] at hj
   obtain ⟨v, hv1, hv2⟩ := hc j c hj
   refine ⟨v, ?_, hv2⟩
   have e2 : (arr.toList.take (o + off) ++ vs).length = o + off + vs.length := by simp; omega
   rw [List.getElem?_append_right (by rw [e2]; omega), List.getElem?_drop, e2, show o + off + vs.length + (o + j - (o + off + vs.length)) = o + j by omega]
   simpa using hv1

theorem zydn {h : Heap} (hh : HRep w μ A h) {t : TypeId} {g : Option Nat} (hg : agT P t = some g) {n : Nat} (hs : sizeT P t = some n) {c d : AV} {vc vd : Value} {h' : Heap} (hc : Rep w μ A c vc) (hd : Rep w μ A d vd) (hv : zydm h n c d = some h') :
  Goes P w μ A (do Instr.storeAt t vc vd; pure Next.skip : Sem Next) .undef h' := by
 cases c <;> try (simp [zydm] at hv; done)
 case rp id off =>
  simp only [zydm, Option.bind_eq_some_iff] at hv
  obtain ⟨cs, hl, hv⟩ := hv
  split at hv
  case isFalse => cases hv
  rename_i hb
  obtain ⟨b1, b2, b3⟩ := hb
  cases hv
  have hdj : d ≠ .junk := fun e => by rw [e] at b2; simp [AV.cells, AV.cell] at b2
  obtain ⟨b, r, hm⟩ := zya6 hh hl
  cases hc with
  | rp _ _ x h0 h1 =>
   obtain ⟨hsp0, hx⟩ := h1 b r hm
   obtain ⟨hsp, hlr, arr, e, fr, hblk, hfr, hrm, hcell⟩ := hh.blk id cs b r hl hm hsp0
   subst hx
   have hcells := hd.cells hdj
   have hone : ∀ v ∈ vd.cells.toList, v.oneCell' = true := fun v hv => by
    obtain ⟨j, hj⟩ := List.mem_iff_getElem?.1 hv
    have hlt : j < d.cells.length := by rw [← hcells.1]; exact (List.getElem?_eq_some_iff.1 hj).1
    exact zycl (hcells.2 j _ v (List.getElem?_eq_getElem hlt) hj) (List.all_eq_true.1 b2 _ (List.getElem_mem hlt))
   have hvl : vd.cells.toList.length = n := by rw [hcells.1, b1]
   obtain ⟨w', hr, arr', hp, ha⟩ := zygv (P := P) (a := b.add off) (zy0b hsp _) vd.cells.toList 0 w arr (by rw [add_block]; exact hblk) (fun o ho => hfr o (by simp at ho; omega)) (by simp at hvl ⊢; omega) hone
   rw [add_block] at hp
   simp only [add_off, Nat.add_zero] at ha
   obtain ⟨hsz, hcell'⟩ := zygh hcell hcells (by rw [b1]; exact b3) (by omega) ha
   obtain ⟨mv, hh2⟩ := zyeg hh hl hm hsp hp (fun o h1 h2 => hfr o h1 (by omega)) (by omega) (cs' := zygd cs off d.cells) (by simp [zygd]; omega) hcell'
   refine ⟨.skip, Go.undef, w', μ, A, ?_, .inr ⟨rfl, rfl⟩, hh2, .undef, mv⟩
   have hszv : vd.cells.size = n := by simpa using hvl
   simp only [Instr.storeAt, Instr.sureAddr, storeVar, Sem.run_bind, Sem.run_pure, Result.andThen_ok, zyfi t hs, hszv]
   simp only [ne_eq, not_true_eq_false, if_false, hr, Result.andThen_ok]


theorem zy6g (n : Nat) : ∀ (k c : Nat), c ≤ 2 * n + 768 → Builtin.growBy n k c ≤ 2 * n + 768
 | 0, c, h => h
 | k + 1, c, h => by
  unfold Builtin.growBy
  split
  ·exact h
  ·exact zy6g n k _ (by omega)

theorem zyc3 {n c : Nat} (h : c < n) : Builtin.nextslicecap n c ≤ 2 * n + 768 := by
 unfold Builtin.nextslicecap
 split
 ·omega
 ·split
  ·omega
  ·exact zy6g n 4 c (by omega)

theorem grow_run {ts : Array TypeId} {t u e : TypeId} {sz : Nat} {z : List AV} (ht0 : ts[0]? = some t) (ht1 : ts[1]? = some u) (hrow : rowT P t = some (e, sz, z)) (hu1 : (∃ d, P.underlying u = some (.slice d)) ∨ P.underlying u = some .string) {base : Option Addr} {n c m : Nat} {vy : Value} {old new : List Value}
  (hlen : (Builtin.lenOf vy).run P w = .ok m w) (hbig : c < n + m) (hsm : n + m ≤ 4294967296) {w1 : World} (hw1 : w1 = { w with drawn := w.drawn + 1 }) (hold : (Builtin.firstCells sz n (.slice base n c)).run P w1 = .ok old.toArray w1) (hnew : (Builtin.firstCells sz m vy).run P w1 = .ok new.toArray w1)
  (hol : old.length = n * sz) (hnl : new.length = m * sz) (ty : TypeId) :
  ∃ cap arr, (Builtin.append_ ts ty #[.slice base n c, vy]).run P w = .ok (.slice (some ⟨w1.heap.size, 0, none⟩) (n + m) cap) { w1 with heap := w1.heap.push (.cells arr e) } ∧ n + m ≤ cap ∧ arr.size = cap * sz ∧ ∀ j, j < (old ++ new).length → arr[j]? = (old ++ new)[j]? := by
 obtain ⟨hu, hs, h0, hzl, i, v, hi, hbytes, hz, hcs, hzr⟩ := zyf8 hrow
 let cap := (Question.appendCap (n + m) c e).cut (w.tape w.drawn (.appendCap (n + m) c e))
 have hcap : n + m ≤ cap := by simp only [cap, Question.cut]; omega
 refine ⟨cap, old.toArray ++ new.toArray ++ Builtin.zeroCells v.cells (cap - (n + m)), ?_, hcap, ?_, fun j hj => ?_⟩
 ·have hneed : ¬ (n + m ≤ c) := by omega
  have hmax : ¬ (((n + m : Nat) : Int) > IntKind.i64.max ∧ (False ∨ i.bytes = 0)) := by
   have : IntKind.i64.max = 9223372036854775807 := by decide
   rw [this]; omega
  have hnext : ¬ (Builtin.nextslicecap (n + m) c * i.bytes > 2 ^ 48) := by
   have h1 := zyc3 hbig
   have h2 : Builtin.nextslicecap (n + m) c * i.bytes ≤ (2 * 4294967296 + 768) * 16384 := Nat.mul_le_mul (by omega) hbytes
   omega
  have e0 : (#[Value.slice base n c, vy] : Array Value)[0]? = some (Value.slice base n c) := rfl
  have e1 : (#[Value.slice base n c, vy] : Array Value)[1]? = some vy := rfl
  have hchoose : (choose (.appendCap (n + m) c e)).run P w = .ok cap w1 := by
   rw [hw1]; simp [cap, Question.forced]
  unfold Builtin.append_
  rw [ht0, e0, e1]
  rcases hu1 with ⟨d, hd⟩ | hd
  ·simp only [Sem.run_bind, zyfk t hu, Result.andThen_ok, zyfi e hs, ht1, zyfk u hd, Sem.run_pure, Bool.false_eq_true, if_false, hlen, hneed, zyfj e hi, hmax, hnext, hchoose, run_askRoom, hold, Bool.not_false, if_true, hnew, zyfl hi hz, zyfh]
  ·simp only [Sem.run_bind, zyfk t hu, Result.andThen_ok, zyfi e hs, ht1, zyfk u hd, Sem.run_pure, Bool.false_eq_true, if_false, hlen, hneed, zyfj e hi, hmax, hnext, hchoose, run_askRoom, hold, Bool.not_false, if_true, hnew, zyfl hi hz, zyfh]
 ·simp [Builtin.zeroCells, hol, hnl, hcs]
  rw [← Nat.add_mul, ← Nat.add_mul]
  congr 1; omega
 ·rw [Array.append_assoc, ← Array.append_assoc]
  rw [Array.getElem?_append_left (by simpa using hj)]
  simp

theorem zycr {h : Heap} (hh : HRep w μ A h) {ts : Array TypeId} {t u e : TypeId} {q : IntKind} {sz : Nat} {z : List AV} (ht0 : ts[0]? = some t) (ht1 : ts[1]? = some u) (hrow : rowT P t = some (e, sz, z)) (hu1 : P.underlying u = some (.int q)) {c d r : AV} {vc vd : Value} {h' : Heap} (hc : Rep w μ A c vc) (hd : Rep w μ A d vd) (hv : opAppm h sz z c d = some (r, h')) (ty : TypeId) :
  ∃ v w' μ' A', (Builtin.append_ ts ty #[vc, vd]).run P w = .ok v w' ∧ HRep w' μ' A' h' ∧ Rep w' μ' A' r v ∧ Move w μ A w' μ' A' := by
 obtain ⟨hu, hs, h0, hzl, i, v, hi, hbytes, hz, hcs, hzr⟩ := zyf8 hrow
 unfold opAppm at hv
 split at hv
 case h_2 => cases hv
 rename_i cs0 n
 split at hv
 case isFalse => cases hv
 rename_i hb
 simp only [Option.some.injEq, Prod.mk.injEq] at hv
 obtain ⟨rfl, rfl⟩ := hv
 have e2 := hd.int_inv
 subst e2
 have hbase : ∃ base, vc = .slice base 0 0 := by
  cases hc with
  | nils f => exact ⟨none, rfl⟩
  | is _ _ _ a c val g0 g1 g2 g3 g4 g5 => exact ⟨some a, by rw [g5 rfl]⟩
 obtain ⟨base, rfl⟩ := hbase
 obtain ⟨m, hm⟩ : ∃ m : Nat, n = (m : Int) := ⟨n.toNat, by omega⟩
 subst hm
 have hm0 : 0 < m := by omega
 have hm1 : m ≤ 4294967296 := by omega
 have hwrap : IntKind.i64.wrap (m : Int) = (m : Int) := zyij (by omega) (by omega)
 obtain ⟨mv1, hh1⟩ := zy4d hh (w.drawn + 1)
 let w1 : World := { w with drawn := w.drawn + 1 }
 let cap := (Question.appendCap m 0 e).cut (w.tape w.drawn (.appendCap m 0 e))
 have hcap : m ≤ cap := by simp only [cap, Question.cut]; omega
 have hz0 : v.cells.size ≠ 0 := by omega
 have hzc : (Builtin.zeroCells v.cells m).toList = (List.replicate m v.cells.toList).flatten := by
  apply List.ext_getElem?
  intro j
  unfold Builtin.zeroCells
  rcases Nat.lt_or_ge j (m * v.cells.size) with hj | hj
  ·rw [← zyim hz0 m m j hj (Nat.le_refl _), Array.getElem?_toList]
  ·rw [List.getElem?_eq_none (by simp; exact hj), List.getElem?_eq_none (by simp; exact hj)]
 have hsz : (#[] ++ Builtin.zeroCells v.cells m ++ Builtin.zeroCells v.cells (cap - m)).size = cap * sz := by
  simp [Builtin.zeroCells, hcs]
  rw [← Nat.add_mul]
  congr 1; omega
 have hrl : ((List.replicate m v.cells.toList).flatten).length = m * sz := by simp [hcs]
 obtain ⟨mv3, hh3⟩ := zyec hh1 e (arr := #[] ++ Builtin.zeroCells v.cells m ++ Builtin.zeroCells v.cells (cap - m)) (zyir (hzr w1 μ A) m) (fun j hj => by
  rw [Array.empty_append, Array.getElem?_append_left (by unfold Builtin.zeroCells; simp; rw [hcs]; rw [hrl] at hj; exact hj), ← Array.getElem?_toList, hzc]) (by
  rw [hsz, hrl]; exact Nat.mul_le_mul_right _ hcap)
 refine ⟨.slice (some ⟨w1.heap.size, 0, none⟩) m cap, _, _, A, ?_, hh3, ?_, mv1.trans mv3⟩
 ·have hneed : ¬ (m ≤ 0) := by omega
  have hmax : ¬ (((m : Nat) : Int) > IntKind.i64.max ∧ (True ∨ i.bytes = 0)) := by
   have : IntKind.i64.max = 9223372036854775807 := by decide
   rw [this]; omega
  have hnext : ¬ (Builtin.nextslicecap m 0 * i.bytes > 2 ^ 48) := by
   have h1 := zyc3 (n := m) (c := 0) (by omega)
   have h2 : Builtin.nextslicecap m 0 * i.bytes ≤ (2 * 4294967296 + 768) * 16384 := Nat.mul_le_mul (by omega) hbytes
   omega
  have hneg : ¬ ((m : Int) < 0) := by omega
  have hbm : ¬ ((m : Int) * i.bytes > 2 ^ 48) := by
   have h2 : m * i.bytes ≤ 4294967296 * 16384 := Nat.mul_le_mul hm1 hbytes
   have h3 : ((m * i.bytes : Nat) : Int) ≤ ((4294967296 * 16384 : Nat) : Int) := by exact_mod_cast h2
   rw [Int.natCast_mul] at h3
   omega
  have e0 : (#[Value.slice base 0 0, Value.int .i64 m] : Array Value)[0]? = some (Value.slice base 0 0) := rfl
  have e1 : (#[Value.slice base 0 0, Value.int .i64 m] : Array Value)[1]? = some (Value.int .i64 m) := rfl
  have hchoose : (choose (.appendCap m 0 e)).run P w = .ok cap w1 := by
   simp [cap, w1, Question.forced]
  have hold : (Builtin.firstCells sz 0 (.slice base 0 0)).run P w1 = .ok #[] w1 := by
   cases base with
   | none => rfl
   | some a =>
    show (loadCells a (0 * sz)).run P w1 = _
    rw [Nat.zero_mul]
    exact zyak rfl fun j v hj => by simp at hj
  have hms : ¬ m * sz = 0 := by
   intro hc
   rcases Nat.mul_eq_zero.1 hc with h | h <;> omega
  unfold Builtin.append_
  rw [ht0, e0, e1]
  simp only [Sem.run_bind, zyfk t hu, Result.andThen_ok, zyfi e hs, ht1, zyfk u hu1, Sem.run_pure, if_true, asInt, asIntOf, hwrap, hneg, if_false, zyfj e hi, hbm, Int.toNat_natCast, hneed, hmax, hnext, hchoose, run_askRoom, hold, Bool.not_true, Bool.false_eq_true, hms, zyfl hi hz, zyfh, Nat.zero_add]
  rfl
 ·rw [Int.toNat_natCast]
  refine .rs _ _ _ _ _ _ (by rw [← hh.len]; exact new_ref.1) hcap (fun b q hb => ?_) rfl
  rw [← hh.len, new_ref.2] at hb
  cases hb
  exact ⟨rfl, fun _ => rfl, by rw [hsz]; omega⟩

theorem zy5r {ts : Array TypeId} {t u e : TypeId} {sz : Nat} (ht0 : ts[0]? = some t) (ht1 : ts[1]? = some u) (hu : P.underlying t = some (.slice e)) (hs : sizeT P e = some sz) (hu1 : (∃ d, P.underlying u = some (.slice d)) ∨ P.underlying u = some .string) {base : Option Addr} {n c m : Nat} {vy : Value} {new : List Value}
  (hlen : (Builtin.lenOf vy).run P w = .ok m w) (hfit : n + m ≤ c) (hnew : (Builtin.firstCells sz m vy).run P w = .ok new.toArray w) {w' : World} (hst : (match base with | some a => (storeCells (a.add (n * sz)) new : Sem Unit).run P w | none => .ok () w) = .ok () w') (ty : TypeId) :
  (Builtin.append_ ts ty #[.slice base n c, vy]).run P w = .ok (.slice base (n + m) c) w' := by
 have e0 : (#[Value.slice base n c, vy] : Array Value)[0]? = some (Value.slice base n c) := rfl
 have e1 : (#[Value.slice base n c, vy] : Array Value)[1]? = some vy := rfl
 unfold Builtin.append_
 rw [ht0, e0, e1]
 cases base with
 | none =>
  cases hst
  rcases hu1 with ⟨d, hd⟩ | hd
  ·simp only [Sem.run_bind, zyfk t hu, Result.andThen_ok, zyfi e hs, ht1, zyfk u hd, Sem.run_pure, Bool.false_eq_true, if_false, hlen, hfit, if_true, Bool.not_false, hnew]
  ·simp only [Sem.run_bind, zyfk t hu, Result.andThen_ok, zyfi e hs, ht1, zyfk u hd, Sem.run_pure, Bool.false_eq_true, if_false, hlen, hfit, if_true, Bool.not_false, hnew]
 | some a =>
  simp only at hst
  rcases hu1 with ⟨d, hd⟩ | hd
  ·simp only [Sem.run_bind, zyfk t hu, Result.andThen_ok, zyfi e hs, ht1, zyfk u hd, Sem.run_pure, Bool.false_eq_true, if_false, hlen, hfit, if_true, Bool.not_false, hnew, hst]
  ·simp only [Sem.run_bind, zyfk t hu, Result.andThen_ok, zyfi e hs, ht1, zyfk u hd, Sem.run_pure, Bool.false_eq_true, if_false, hlen, hfit, if_true, Bool.not_false, hnew, hst]

theorem opApp_run {h : Heap} (hh : HRep w μ A h) {ts : Array TypeId} {t u e : TypeId} {sz : Nat} {z : List AV} (ht0 : ts[0]? = some t) (ht1 : ts[1]? = some u) (hrow : rowT P t = some (e, sz, z)) (hu1 : (∃ d, P.underlying u = some (.slice d)) ∨ P.underlying u = some .string)
  {c d r : AV} {vc vd : Value} {h' : Heap} (hc : Rep w μ A c vc) (hd : Rep w μ A d vd) (hv : opApp h sz c d = some (r, h')) (ty : TypeId) :
  ∃ v w' μ' A', (Builtin.append_ ts ty #[vc, vd]).run P w = .ok v w' ∧ HRep w' μ' A' h' ∧ Rep w' μ' A' r v ∧ Move w μ A w' μ' A' := by
 obtain ⟨hu, hs, h0, hzl, i, v, hi, hbytes, hz, hcsz, hzr⟩ := zyf8 hrow
 simp only [opApp, Option.bind_eq_some_iff] at hv
 obtain ⟨⟨m, new⟩, hy, ⟨n, old⟩, hx, hv⟩ := hv
 simp only at hv
 split at hv
 case isFalse => cases hv
 rename_i hcond
 obtain ⟨hsm, hall, hns⟩ := hcond
 have hcs : ∀ s, c ≠ .str s := fun s e => by rw [e] at hns; cases hns
 obtain ⟨hlen, hnl, news, hnr, hnew⟩ := zy4l (P := P) hh hy hd
 obtain ⟨hlen0, hol, olds, hor, hold⟩ := zy4l (P := P) hh hx hc
 have hvc : ∃ base cap, vc = .slice base n cap ∧ n ≤ cap := by
  cases c <;> try (simp [zy4j] at hx; done)
  case str s => exact absurd rfl (hcs s)
  case is n' full cs =>
   cases hc with
   | nils f => simp [zy4j] at hx; obtain ⟨rfl, rfl⟩ := hx; exact ⟨none, 0, rfl, Nat.le_refl _⟩
   | is _ _ _ a c val _ _ _ _ h4 _ => cases hlen0; exact ⟨_, _, rfl, h4⟩
  case rs =>
   cases hc with
   | rs _ _ _ _ x c _ h1 _ _ => cases hlen0; exact ⟨_, _, rfl, h1⟩
  case rc =>
   cases hc with
   | rc _ _ _ _ _ x c _ h1 _ _ => cases hlen0; exact ⟨_, _, rfl, h1⟩
 obtain ⟨base, cap, rfl, hncap⟩ := hvc
 have hone : ∀ v ∈ news, v.oneCell' = true := fun v hv => by
  obtain ⟨j, hj⟩ := List.mem_iff_getElem?.1 hv
  have hlt : j < new.length := by rw [← hnr.1]; exact (List.getElem?_eq_some_iff.1 hj).1
  exact zycl (hnr.2 j _ v (List.getElem?_eq_getElem hlt) hj) (List.all_eq_true.1 hall _ (List.getElem_mem hlt))
 by_cases hm : m = 0
 ·-- nothing is added
  rw [if_pos hm] at hv
  cases hv
  subst hm
  have hn0 : news = [] := List.length_eq_zero_iff.1 (by rw [hnr.1, hnl]; simp)
  subst hn0
  refine ⟨_, w, μ, A, zy5r ht0 ht1 hu hs hu1 hlen (by omega) hnew (w' := w) ?_ ty, hh, hc, Move.refl _ _ _⟩
  cases base <;> rfl
 ·rw [if_neg hm] at hv
  -- it grows
  have grow : ∀ {h2 : Heap} {μ2 : Mu}, cap < n + m → HRep w μ2 A h2 → Move w μ A w μ2 A → (∀ cs vs, RepL w μ A cs vs → RepL w μ2 A cs vs) → h2.length = h.length → r = .rs sz h.length 0 (n + m) → h' = h2 ++ [some (old ++ new)] →
    ∃ v w' μ' A', (Builtin.append_ ts ty #[.slice base n cap, vd]).run P w = .ok v w' ∧ HRep w' μ' A' h' ∧ Rep w' μ' A' r v ∧ Move w μ A w' μ' A' := by
   intro h2 μ2 hgrow hh2 mv2 keep hl2 hr hh'
   subst hr; subst hh'
   obtain ⟨mv1, hh1⟩ := zy4d hh2 (w.drawn + 1)
   have same : ∀ {vs : List Value} {k : Nat} {x : Value}, (Builtin.firstCells sz k x).run P w = .ok vs.toArray w → (Builtin.firstCells sz k x).run P { w with drawn := w.drawn + 1 } = .ok vs.toArray { w with drawn := w.drawn + 1 } := by
    intro vs k x hx
    cases x <;> first | (cases hx; done) | skip
    ·exact (Result.ok.inj hx).1 ▸ rfl
    ·rename_i a l c
     cases a with
     | none => exact (Result.ok.inj hx).1 ▸ rfl
     | some a =>
      have lc : ∀ (q i : Nat) (acc : Array Value) (r : Array Value), (loadCellsFrom a i q acc).run P w = .ok r w → (loadCellsFrom a i q acc).run P { w with drawn := w.drawn + 1 } = .ok r { w with drawn := w.drawn + 1 } := by
       intro q
       induction q with
       | zero => intro i acc r h; exact (Result.ok.inj h).1 ▸ rfl
       | succ q ih =>
        intro i acc r h
        unfold loadCellsFrom at h ⊢
        simp only [Sem.run_bind, run_load] at h ⊢
        have hce : ({ w with drawn := w.drawn + 1 } : World).cell? (a.add i) = w.cell? (a.add i) := rfl
        rw [hce]
        cases hcl : w.cell? (a.add i) with
        | some v => rw [hcl] at h; simp only [Result.andThen_ok] at h ⊢; exact ih _ _ _ h
        | none =>
         rw [hcl] at h
         have hfar : World.farLoad P { w with drawn := w.drawn + 1 } (a.add i) (Mode.plain == Mode.atomic) = World.farLoad P w (a.add i) (Mode.plain == Mode.atomic) := rfl
         simp only [hfar]
         cases hf : World.farLoad P w (a.add i) (Mode.plain == Mode.atomic) with
         | ok x => simp only [hf, Result.andThen_ok] at h ⊢; exact ih _ _ _ h
         | error e => simp only [hf, Result.andThen_halt] at h; cases h
      exact lc _ _ _ _ hx
   obtain ⟨cap', arr, hrun, hc1, hc2, hc3⟩ := grow_run (P := P) ht0 ht1 hrow hu1 hlen hgrow hsm rfl (same hold) (same hnew) (by rw [hor.1]; exact hol) (by rw [hnr.1]; exact hnl) ty
   have hrow' : RepL { w with drawn := w.drawn + 1 } μ2 A (old ++ new) (olds ++ news) := ((keep _ _ hor).append (keep _ _ hnr)).step hh2 mv1
   obtain ⟨mv3, hh3⟩ := zyec hh1 e (arr := arr) hrow' hc3 (by
    rw [hc2]; simp [hor.1, hnr.1, hol, hnl]; rw [← Nat.add_mul]; exact Nat.mul_le_mul_right _ hc1)
   refine ⟨_, _, _, A, hrun, hh3, ?_, (mv2.trans mv1).trans mv3⟩
   have hlen2 : μ2.length = h.length := by rw [hh2.len, hl2]
   refine .rs _ _ _ _ _ _ (by rw [← hlen2]; exact new_ref.1) hc1 (fun b q hb => ?_) rfl
   rw [← hlen2, new_ref.2] at hb
   cases hb
   exact ⟨rfl, fun _ => rfl, by rw [hc2]; omega⟩
  cases c <;> try (simp at hv; done)
  case is n' full cs =>
   cases full
   ·simp at hv
   ·simp only [Option.some.injEq, Prod.mk.injEq] at hv
    have hcap : cap = n := by
     cases hc with
     | nils f => simp [zy4j] at hx; omega
     | is _ _ _ a c val _ _ _ _ h4 h5 => exact h5 rfl
    exact grow (by omega) hh (Move.refl _ _ _) (fun _ _ h => h) rfl hv.1.symm hv.2.symm
  case rs sz' id off n' =>
   simp only [Option.some.injEq, Prod.mk.injEq] at hv
   obtain ⟨hr, hh'⟩ := hv
   simp only [zy4j, Option.bind_eq_some_iff] at hx
   obtain ⟨cs, hl, hx⟩ := hx
   split at hx
   case isFalse => cases hx
   rename_i hxb
   obtain ⟨rfl, hxb⟩ := hxb
   cases hx
   obtain ⟨mvd, hhd⟩ := zy4g hh id
   by_cases hgrow : cap < n + m
   ·exact grow hgrow hhd mvd (fun cs vs h => h.step hh mvd) (by simp) hr.symm hh'.symm
   ·-- in place
    obtain ⟨b, q, hmu⟩ := zya6 hh hl
    cases hc with
    | rs _ _ _ _ x c hid h1 h2 h3 =>
     obtain ⟨hsp0, hx, hroom⟩ := h2 b q hmu
     obtain ⟨hsp, hlr, arr, e', fr, hblk, hfr, hrm, hcell⟩ := hh.blk id cs b q hl hmu hsp0
     have hcne : cap ≠ 0 := by omega
     have hx := hx hcne
     subst hx
     have hcb : (n + m) * sz ≤ cap * sz := Nat.mul_le_mul_right _ (by omega)
     rw [Nat.add_mul] at hcb
     have hnewl : news.length = m * sz := by rw [hnr.1]; exact hnl
     obtain ⟨w', hrun, arr', hp, ha⟩ := zygv (P := P) (a := (b.add off).add (n * sz)) (zy0b (zy0b hsp _) _) news 0 w arr (by rw [add_block, add_block]; exact hblk) (fun o ho => hfr o (by simp at ho; omega)) (by simp; omega) hone
     simp only [add_block] at hp
     simp only [add_off, Nat.add_zero] at ha
     subst hr; subst hh'
     -- first the block is written, seen as the old prefix and the new cells; then it changes its number
     have hmh : HRep w (μ.set id none ++ [some (b.add off, q - off)]) A (h.set id none ++ [some (((cs.drop off).take (n * sz)))]) ∧ Move w μ A w (μ.set id none ++ [some (b.add off, q - off)]) A := by
      have split : ∀ (j : Nat) (a : Addr) (s : Nat), (μ.set id none ++ [some (b.add off, q - off)])[j]? = some (some (a, s)) → (j < μ.length ∧ j ≠ id ∧ μ[j]? = some (some (a, s))) ∨ (j = μ.length ∧ a = b.add off ∧ s = q - off) := fun j a s hj => by
       rcases Nat.lt_or_ge j μ.length with h1 | h1
       ·rw [List.getElem?_append_left (by simpa using h1), List.getElem?_set] at hj
        by_cases hne : id = j
        ·rw [if_pos hne] at hj
         first | (cases hj; done) | (split at hj <;> cases hj)
        ·rw [if_neg hne] at hj; exact .inl ⟨h1, fun e => hne e.symm, hj⟩
       ·rw [List.getElem?_append_right (by simpa using h1)] at hj
        have : j = μ.length := by
         have := (List.getElem?_eq_some_iff.1 hj).1
         simp at this; omega
        subst this
        simp at hj
        exact .inr ⟨rfl, hj.1.symm, hj.2.symm⟩
      have mv : Move w μ A w (μ.set id none ++ [some (b.add off, q - off)]) A := {
       os := rfl, tape := rfl, output := rfl, size := Nat.le_refl _
       keep := fun _ _ _ => rfl
       len := by simp
       mu := fun j y hj hy => by
        obtain ⟨a, s⟩ := y
        rcases split j a s hy with ⟨_, _, h⟩ | ⟨h, _, _⟩
        ·exact h
        ·omega
       liv := fun k ⟨j, a, s, hj, hk⟩ => by
        rcases split j a s hj with ⟨_, _, h⟩ | ⟨_, h, _⟩
        ·exact .inl ⟨j, a, s, h, hk⟩
        ·subst h; rw [add_block] at hk; exact .inl ⟨id, b, q, hmu, hk⟩
       a := fun _ h => h
       new := fun _ h => .inl h
       lp := fun _ _ hb => hb }
      refine ⟨⟨by simp [hh.len], fun j => ?_, fun j ds a s hlv hm' hsa => ?_, fun i j a a' s s' hi hj hab => ?_, fun k hk ⟨j, a, s, hj, e⟩ => ?_, hh.old, hh.glb, fun j ds a s hlv hm' hsa => ?_⟩, mv⟩
      ·rw [zyab]
       simp only [List.length_set]
       rcases Nat.lt_or_ge j μ.length with h1 | h1
       ·rw [List.getElem?_append_left (by simpa using h1), if_pos (by rw [← hh.len]; exact h1)]
        exact hhd.liv j
       ·rw [List.getElem?_append_right (by simpa using h1), if_neg (by rw [← hh.len]; omega)]
        by_cases h2 : j = μ.length
        ·subst h2; rw [if_pos hh.len]; simp
        ·rw [if_neg (by rw [← hh.len]; exact h2), List.getElem?_eq_none (by simp; omega)]; rfl
      ·rcases split j a s hm' with ⟨g1, g2, g3⟩ | ⟨g1, g2, g3⟩
       ·rw [zyab, if_pos (by simp; rw [← hh.len]; exact g1)] at hlv
        have hlv' : live h j = some ds := by
         unfold live at hlv ⊢
         rw [List.getElem?_set, if_neg (fun e => g2 e.symm)] at hlv
         exact hlv
        obtain ⟨k1, k2, arr2, e2, fr2, k3, k4, k5, k6⟩ := hh.blk j ds a s hlv' g3 hsa
        exact ⟨k1, k2, arr2, e2, fr2, k3, k4, k5, fun l cc hl => let ⟨v, v1, v2⟩ := k6 l cc hl; ⟨v, v1, v2.step hh mv⟩⟩
       ·subst g1; subst g2; subst g3
        rw [zyab, if_neg (by simp; rw [← hh.len]; omega), if_pos (by simp [hh.len])] at hlv
        cases hlv
        refine ⟨zy0b hsp _, by simp; omega, arr, e', fr, by rw [add_block]; exact hblk, fun o ho => hfr o (by simp at ho; omega), by simp; omega, fun l cc hl => ?_⟩
        rw [List.getElem?_take] at hl
        split at hl
        ·rw [List.getElem?_drop] at hl
         obtain ⟨v, v1, v2⟩ := hcell _ _ hl
         exact ⟨v, by rw [add_off, Nat.add_assoc]; exact v1, v2.step hh mv⟩
        ·cases hl
      ·rcases split i a s hi with ⟨g1, g2, g3⟩ | ⟨g1, g2, g3⟩ <;> rcases split j a' s' hj with ⟨k1, k2, k3⟩ | ⟨k1, k2, k3⟩
       ·exact hh.inj i j a a' s s' g3 k3 hab
       ·subst k2
        rw [add_block] at hab
        exact absurd (hh.inj i id a b s q g3 hmu hab) g2
       ·subst g2
        rw [add_block] at hab
        exact absurd (hh.inj j id a' b s' q k3 hmu hab.symm) k2
       ·omega
      ·rcases split j a s hj with ⟨g1, g2, g3⟩ | ⟨g1, g2, g3⟩
       ·exact hh.off k hk ⟨j, a, s, g3, e⟩
       ·subst g2; rw [add_block] at e; exact hh.off k hk ⟨id, b, q, hmu, e⟩
      ·rcases split j a s hm' with ⟨g1, g2, g3⟩ | ⟨g1, g2, g3⟩
       ·rw [zyab, if_pos (by simp; rw [← hh.len]; exact g1)] at hlv
        have hlv' : live h j = some ds := by
         unfold live at hlv ⊢
         rw [List.getElem?_set, if_neg (fun e => g2 e.symm)] at hlv
         exact hlv
        exact (hh.mp j ds a s hlv' g3 hsa).to rfl fun c v hr => hr.step hh mv
       ·subst g2; exact absurd (zy0b hsp _) hsa
     obtain ⟨hh2, mv2⟩ := hmh
     have hl2 : live (h.set id none ++ [some ((cs.drop off).take (n * sz))]) h.length = some ((cs.drop off).take (n * sz)) := by
      rw [zyab, if_neg (by simp), if_pos (by simp)]
     have hm2 : (μ.set id none ++ [some (b.add off, q - off)])[h.length]? = some (some (b.add off, q - off)) := by
      rw [← hh.len, List.getElem?_append_right (by simp)]; simp
     have hnr2 : RepL w (μ.set id none ++ [some (b.add off, q - off)]) A new news := hnr.step hh mv2
     have hor2 : RepL w (μ.set id none ++ [some (b.add off, q - off)]) A ((cs.drop off).take (n * sz)) olds := hor.step hh mv2
     have hwr : (storeCells ((b.add off).add (n * sz)) news : Sem Unit).run P w = .ok () w' := hrun
     have holen : ((cs.drop off).take (n * sz)).length = n * sz := hol
     have hv' : ∀ (j : Nat) (cc : AV), ((cs.drop off).take (n * sz) ++ new)[j]? = some cc → ∃ v, arr'[(b.add off).off + j]? = some v ∧ Rep w (μ.set id none ++ [some (b.add off, q - off)]) A cc v := by
      intro j cc hj
      have hg : arr'[(b.add off).off + j]? = (zyge arr.toList (b.off + off + n * sz) news)[b.off + off + j]? := by rw [← ha, add_off]; simp
      rw [hg]
      unfold zyge
      by_cases hj1 : j < n * sz
      ·rw [List.getElem?_append_left (by rw [holen]; exact hj1)] at hj
       rw [List.append_assoc, List.getElem?_append_left (by simp; omega), List.getElem?_take, if_pos (by omega)]
       rw [List.getElem?_take, if_pos hj1, List.getElem?_drop] at hj
       obtain ⟨v, v1, v2⟩ := hcell _ _ hj
       exact ⟨v, by rw [Nat.add_assoc]; simpa using v1, v2.step hh mv2⟩
      ·rw [List.getElem?_append_right (by rw [holen]; omega), holen] at hj
       obtain ⟨v, v1, v2⟩ := hnr2.get hj
       refine ⟨v, ?_, v2⟩
       have hjl : j - n * sz < news.length := (List.getElem?_eq_some_iff.1 v1).1
       have hlen3 : (arr.toList.take (b.off + off + n * sz)).length = b.off + off + n * sz := by simp; omega
       rw [List.getElem?_append_left (by simp; omega), List.getElem?_append_right (by rw [hlen3]; omega), hlen3, show b.off + off + j - (b.off + off + n * sz) = j - n * sz by omega]
       exact v1
     have hsz' : arr'.size = arr.size := by
      have := congrArg List.length ha
      simp [zyge] at this
      omega
     obtain ⟨mv3, hh3⟩ := zyeg hh2 hl2 hm2 (zy0b hsp _) (cs' := (cs.drop off).take (n * sz) ++ new) (w' := w') (arr' := arr') (e := e') (fr := fr) (by rw [add_block]; exact hp) (fun o h1 h2 => hfr o (by simp at h1; omega) (by omega)) (by simp; omega) (by rw [List.length_append, holen, hnl]; omega) hv'
     have hset : (h.set id none ++ [some ((cs.drop off).take (n * sz))]).set h.length (some ((cs.drop off).take (n * sz) ++ new)) = h.set id none ++ [some ((cs.drop off).take (n * sz) ++ new)] := by
      rw [List.set_append_right _ _ (by simp)]; simp
     rw [hset] at hh3
     refine ⟨_, w', _, A, zy5r ht0 ht1 hu hs hu1 (base := some (b.add off)) (n := n) hlen (by omega) hnew (w' := w') hwr ty, hh3, ?_, mv2.trans mv3⟩
     refine .rs _ _ _ _ _ _ (by simp [hh.len]) (by omega) (fun b' q' hb => ?_) (zy0b hsp _)
     rw [hm2] at hb
     cases hb
     exact ⟨zy0b hsp _, fun _ => rfl, by omega⟩
  case rc sz' id off n' k =>
   simp only at hv
   split at hv
   case isFalse => cases hv
   rename_i hfit
   simp only [zy4j, Option.bind_eq_some_iff] at hx
   obtain ⟨cs, hl, hx⟩ := hx
   split at hx
   case isFalse => cases hx
   rename_i hxb
   obtain ⟨rfl, hxb, hnk⟩ := hxb
   cases hx
   simp only [hl, Option.map_some, Option.some.injEq, Prod.mk.injEq] at hv
   obtain ⟨rfl, rfl⟩ := hv
   obtain ⟨b, q, hmu⟩ := zya6 hh hl
   cases hc with
   | rc _ _ _ _ _ x c hid h1 h2 h3 h4 =>
    obtain ⟨hsp0, hx, hroom⟩ := h2 b q hmu
    obtain ⟨hsp, hlr, arr, e', fr, hblk, hfr, hrm, hcell⟩ := hh.blk id cs b q hl hmu hsp0
    have hx := hx (by omega)
    subst hx
    have hcb : (n + m) * sz ≤ k * sz := Nat.mul_le_mul_right _ hfit
    rw [Nat.add_mul] at hcb
    have hck : k * sz ≤ cap * sz := Nat.mul_le_mul_right _ h4
    have hnewl : news.length = m * sz := by rw [hnr.1]; exact hnl
    obtain ⟨w', hrun, arr', hp, ha⟩ := zygv (P := P) (a := (b.add off).add (n * sz)) (zy0b (zy0b hsp _) _) news 0 w arr (by rw [add_block, add_block]; exact hblk) (fun o ho => hfr o (by simp at ho; omega)) (by simp; omega) hone
    simp only [add_block] at hp
    simp only [add_off, Nat.add_zero] at ha
    rw [Nat.add_assoc] at ha
    obtain ⟨hsz, hcell'⟩ := zygh hcell hnr (off := off + n * sz) (by rw [hnl]; omega) (by omega) ha
    obtain ⟨mv, hh2⟩ := zyeg hh hl hmu hsp hp (fun o h1 h2 => hfr o h1 (by omega)) (by omega) (cs' := zygd cs (off + n * sz) new) (by simp [zygd, hnl]; omega) hcell'
    refine ⟨_, w', μ, A, zy5r ht0 ht1 hu hs hu1 (base := some (b.add off)) (n := n) hlen (by omega) hnew (w' := w') hrun ty, hh2, ?_, mv⟩
    exact .rc _ _ _ _ _ _ _ hid (by omega) h2 h3 h4

theorem opClr_run {h : Heap} (hh : HRep w μ A h) {ts : Array TypeId} {t e : TypeId} {sz : Nat} {z : List AV} (ht0 : ts[0]? = some t) (hrow : rowT P t = some (e, sz, z)) {c : AV} {vc : Value} {h' : Heap} (hc : Rep w μ A c vc) (hv : opClr h sz z c = some h') (ty : TypeId) :
  ∃ w' μ' A', (Builtin.clear_ ts ty #[vc]).run P w = .ok Go.undef w' ∧ HRep w' μ' A' h' ∧ Move w μ A w' μ' A' := by
 obtain ⟨hu, hs, h0, hzl, i, zv, hi, hbytes, hz, hcsz, hzr⟩ := zyf8 hrow
 simp only [opClr, Option.bind_eq_some_iff] at hv
 obtain ⟨⟨n, old⟩, hx, hv⟩ := hv
 simp only at hv
 have e0 : (#[vc] : Array Value)[0]? = some vc := rfl
 have main : ∀ (id off k : Nat) (cs : List AV) (x : Addr) (cap : Nat), live h id = some cs → off + n * sz ≤ cs.length → n ≤ cap → (∀ (b : Addr) (r : Nat), μ[id]? = some (some (b, r)) → b.spot = none ∧ (cap ≠ 0 → x = b.add off) ∧ off + cap * sz ≤ r) →
   z.all AV.cell = true → h' = h.set id (some (zygd cs off (zeros z n))) → ∃ w' μ' A', (Builtin.clear_ ts ty #[.slice (some x) n cap]).run P w = .ok Go.undef w' ∧ HRep w' μ' A' h' ∧ Move w μ A w' μ' A' := by
  intro id off k0 cs x cap hl hb h1 h2 hall hh'
  subst hh'
  by_cases hn : n = 0
  ·subst hn
   have : zygd cs off (zeros z 0) = cs := by simp [zygd, zeros]
   rw [this]
   have hset : h.set id (some cs) = h := by
    apply List.ext_getElem?
    intro j
    rw [List.getElem?_set]
    split
    ·rename_i hj
     subst hj
     rw [if_pos (zy6z hl)]
     have hg : h[id]? = some (h[id]'(zy6z hl)) := List.getElem?_eq_getElem (zy6z hl)
     unfold live at hl
     rw [hg] at hl ⊢
     have hl' : h[id]'(zy6z (by unfold live; rw [hg]; exact hl)) = some cs := by simpa using hl
     rw [hl']
    ·rfl
   rw [hset]
   exact ⟨w, μ, A, by unfold Builtin.clear_; rw [ht0]; simp [zyfk t hu]; rfl, hh, Move.refl _ _ _⟩
  ·obtain ⟨b, r, hm⟩ := zya6 hh hl
   obtain ⟨hsp0, hx, hroom⟩ := h2 b r hm
   obtain ⟨hsp, hlr, arr, e', fr, hblk, hfr, hrm, hcell⟩ := hh.blk id cs b r hl hm hsp0
   have hx := hx (by omega)
   subst hx
   have hzs := zyir (w := w) (μ := μ) (A := A) (hzr w μ A) n
   have hzc : (Builtin.zeroCells zv.cells n).toList = (List.replicate n zv.cells.toList).flatten := by
    apply List.ext_getElem?
    intro j
    unfold Builtin.zeroCells
    rcases Nat.lt_or_ge j (n * zv.cells.size) with hj | hj
    ·rw [← zyim (by omega) n n j hj (Nat.le_refl _), Array.getElem?_toList]
    ·rw [List.getElem?_eq_none (by simp; exact hj), List.getElem?_eq_none (by simp; exact hj)]
   have hone : ∀ v ∈ (List.replicate n zv.cells.toList).flatten, v.oneCell' = true := fun v hv => by
    obtain ⟨l, hl1, hl2⟩ := List.mem_flatten.1 hv
    have := (List.mem_replicate.1 hl1).2
    subst this
    obtain ⟨j, hj⟩ := List.mem_iff_getElem?.1 hl2
    have hr := hzr w μ A
    have hlt : j < z.length := by rw [← hr.1]; exact (List.getElem?_eq_some_iff.1 hj).1
    exact zycl (hr.2 j _ v (List.getElem?_eq_getElem hlt) hj) (List.all_eq_true.1 hall _ (List.getElem_mem hlt))
   have hlen : ((List.replicate n zv.cells.toList).flatten).length = n * sz := by rw [hzs.1, zyip, hzl]
   have hcb : n * sz ≤ cap * sz := Nat.mul_le_mul_right _ h1
   obtain ⟨w', hrun, arr', hp, ha⟩ := zygv (P := P) (a := b.add off) (zy0b hsp _) _ 0 w arr (by rw [add_block]; exact hblk) (fun o ho => hfr o (by simp at ho; omega)) (by rw [hlen]; simp; omega) hone
   rw [add_block] at hp
   simp only [add_off, Nat.add_zero] at ha
   have hzl' : (zeros z n).length = n * sz := by rw [zyip, hzl]
   obtain ⟨hsz, hcell'⟩ := zygh hcell hzs (by rw [hzl']; exact hb) (by omega) ha
   obtain ⟨mv, hh2⟩ := zyeg hh hl hm hsp hp (fun o h1 h2 => hfr o h1 (by omega)) (by omega) (cs' := zygd cs off (zeros z n)) (by simp [zygd, hzl']; omega) hcell'
   refine ⟨w', μ, A, ?_, hh2, mv⟩
   obtain ⟨k, hk⟩ : ∃ k, n = k + 1 := ⟨n - 1, by omega⟩
   subst hk
   rw [← hzc] at hrun
   have e1 : (#[Value.slice (some (b.add off)) (k + 1) cap] : Array Value)[0]? = some (Value.slice (some (b.add off)) (k + 1) cap) := rfl
   unfold Builtin.clear_
   rw [ht0, e1]
   simp only [Sem.run_bind, zyfk t hu, Result.andThen_ok, zyfl hi hz, hrun, Sem.run_pure]
   rfl
 cases c <;> try (simp at hv; done)
 case rs sz' id off n' =>
  simp only [zy4j, Option.bind_eq_some_iff] at hx
  obtain ⟨cs, hl, hx⟩ := hx
  split at hx
  case isFalse => cases hx
  rename_i hb
  obtain ⟨rfl, hb⟩ := hb
  cases hx
  simp only [hl, Option.bind_some] at hv
  split at hv
  case isFalse => cases hv
  rename_i hcond
  cases hv
  cases hc with
  | rs _ _ _ _ x cap g0 g1 g2 g3 => exact main id off 0 cs x cap hl hb g1 g2 hcond.1 rfl
 case rc sz' id off n' k =>
  simp only [zy4j, Option.bind_eq_some_iff] at hx
  obtain ⟨cs, hl, hx⟩ := hx
  split at hx
  case isFalse => cases hx
  rename_i hb
  obtain ⟨rfl, hb, hnk⟩ := hb
  cases hx
  simp only [hl, Option.bind_some] at hv
  split at hv
  case isFalse => cases hv
  rename_i hcond
  cases hv
  cases hc with
  | rc _ _ _ _ _ x cap g0 g1 g2 g3 g4 => exact main id off 0 cs x cap hl (by have := Nat.mul_le_mul_right sz hnk; omega) g1 g2 hcond.1 rfl


theorem opMkm_run {h : Heap} (hh : HRep w μ A h) (t : TypeId) : Goes P w μ A (do pure (Next.value (← Instr.makeMap t none)) : Sem Next) (.rm h.length) (h ++ [some [.mpc []]]) := by
 obtain ⟨mv, hh2⟩ := map_step (w' := { w with heap := w.heap.push (.map #[] 0) }) hh rfl rfl rfl (by simp) (fun b hb => by show (w.heap.push _)[b]? = _; rw [Array.getElem?_push, if_neg (by omega)]) (by show (w.heap.push _)[_]? = _; rw [Array.getElem?_push, if_pos rfl])
 refine ⟨.value (.map (some w.heap.size)), _, _, _, A, by simp [Instr.makeMap, newObj]; rfl, .inl rfl, hh2, ?_, mv⟩
 refine .rm _ _ (by rw [← hh.len]; exact new_ref.1) fun a r hb => ?_
 rw [← hh.len, new_ref.2] at hb
 cases hb
 rfl

theorem zyfn {t : TypeId} {L : List LK} (ht : keyT P t = some L) {k k' : AV} {v v' : Value} (h : keyEq L k k' = some true) (r : Rep w μ A k v) (r' : Rep w μ A k' v') : Instr.sameBits 10000 v' v = true := by
 rcases zy9h ht with ⟨kk, hu, rfl⟩ | ⟨e, kk, hu, he, hs, hg, rfl⟩
 ·obtain ⟨a, x, y, rfl, rfl, hb⟩ := zy9f h
  cases r; cases r'
  have hb : x = y := by simpa using hb.symm
  subst hb
  simp [Instr.sameBits]
 ·obtain ⟨a, x, c, y, z, u, rfl, rfl, hb⟩ := zy9g h
  have g1 := zy0e r
  have g2 := zy0e r'
  subst g1 g2
  cases hx : x == z
  ·rw [hx] at hb; cases hb
  ·rw [hx] at hb
   have hb : y = u := by simpa using hb.symm
   have hx : x = z := by simpa using hx
   subst hb hx
   simp [Instr.sameBits]

theorem zybn {h : Heap} (hh : HRep w μ A h) {id : Nat} {cs cs' : List AV} {b : Addr} {r : Nat} (hl : live h id = some cs) (hm : μ[id]? = some (some (b, r))) (hsb : b.spot ≠ none) (hs0 : b.spot = some 0) {o : Obj} {w' : World} (hw' : w' = { w with heap := w.heap.setIfInBounds b.block o })
  (hn : (∀ c v, Rep w μ A c v → Rep w' μ A c v) → w'.heap[b.block]? = some o → MpRep w' (Rep w' μ A) cs' b) : Move w μ A w' μ A ∧ HRep w' μ A (h.set id (some cs')) := by
 have hlivb : Liv μ b.block := ⟨id, b, r, hm, rfl⟩
 have hlt := zya5 hh hlivb
 have hold : ∀ k, k ≠ b.block → w'.heap[k]? = w.heap[k]? := fun k hk => by
  subst hw'
  show (w.heap.setIfInBounds b.block o)[k]? = _
  rw [Array.getElem?_setIfInBounds_ne (fun e => hk e.symm)]
 have hnew : w'.heap[b.block]? = some o := by
  subst hw'
  show (w.heap.setIfInBounds b.block o)[b.block]? = _
  simp [hlt]
 have hsz : w'.heap.size = w.heap.size := by subst hw'; simp
 have mv : Move w μ A w' μ A := {
  os := by subst hw'; rfl
  tape := by subst hw'; rfl
  output := by subst hw'; rfl
  size := by omega
  keep := fun k _ hk => hold k (fun e => hk (e ▸ hlivb))
  len := Nat.le_refl _
  mu := fun _ _ _ h => h
  liv := fun _ h => .inl h
  a := fun _ h => h
  new := fun _ h => .inl h
  lp := fun k q hk => by
   by_cases e : k = b.block
   ·obtain ⟨_, _, _, _, _, g, _⟩ := (hh.mp id cs b r hl hm hsb).map hs0
    rw [e, g] at hk; cases hk
   ·rw [hold k e]; exact hk }
 have hlive : ∀ j, live (h.set id (some cs')) j = if j = id then some cs' else live h j := fun j => by
  unfold live
  rw [List.getElem?_set]
  by_cases h1 : id = j
  ·subst h1; rw [if_pos rfl, if_pos rfl, if_pos (zy6z hl)]; rfl
  ·rw [if_neg h1, if_neg (fun e => h1 e.symm)]
 refine ⟨mv, ⟨by simp [hh.len], fun j => ?_, fun j ds a q hlv hma hsp => ?_, hh.inj, hh.off, fun k hk => by rw [hsz]; exact hh.old k hk, hh.glbStep mv, fun j ds a q hlv hma hsp => ?_⟩⟩
 ·rw [hlive]
  by_cases h1 : j = id
  ·subst h1; rw [if_pos rfl, hm]; rfl
  ·rw [if_neg h1]; exact hh.liv j
 ·rw [hlive] at hlv
  by_cases h1 : j = id
  ·subst h1
   rw [hm] at hma
   cases hma
   exact absurd hsp hsb
  ·rw [if_neg h1] at hlv
   obtain ⟨g1, g2, arr, e', fr', g3, g4, g5, g6⟩ := hh.blk j ds a q hlv hma hsp
   refine ⟨g1, g2, arr, e', fr', ?_, g4, g5, fun k c hk => let ⟨v, h1, h2⟩ := g6 k c hk; ⟨v, h1, h2.step hh mv⟩⟩
   rw [hold _ (fun e => h1 (hh.inj j id a b q r hma hm e))]
   exact g3
 ·rw [hlive] at hlv
  by_cases h1 : j = id
  ·subst h1
   rw [if_pos rfl] at hlv
   cases hlv
   rw [hm] at hma
   cases hma
   exact hn (fun c v hr => hr.step hh mv) hnew
  ·rw [if_neg h1] at hlv
   exact (hh.mp j ds a q hlv hma hsp).to (hold _ (fun e => h1 (hh.inj j id a b q r hma hm e))) fun c v hr => hr.step hh mv

theorem opMup_run {h : Heap} (hh : HRep w μ A h) {t : TypeId} {L : List LK} {z : AV} (ht : mapT P t = some (L, z)) {x k v : AV} {vx vk vv : Value} {h' : Heap} (rx : Rep w μ A x vx) (rk : Rep w μ A k vk) (rv : Rep w μ A v vv) (hv : opMup h L x k v = some h') :
  Goes P w μ A (do Instr.mapUpdate t vx vk vv; pure Next.skip : Sem Next) .undef h' := by
 obtain ⟨kt, e, inf, zv, hu, hk, hi, hz, hof⟩ := zybb ht
 cases x <;> try (simp [opMup] at hv; done)
 case rm id =>
 simp only [opMup, Option.bind_eq_some_iff] at hv
 obtain ⟨es, hm, q, hq, hv⟩ := hv
 split at hv
 case isFalse => cases hv
 rename_i hc
 cases hv
 have hl : live h id = some [.mpc es] := by
  simp only [mapOf] at hm
  split at hm
  ·rename_i hl; cases hm; exact hl
  ·cases hm
 cases rx with
 | rm _ b h0 h1 =>
 obtain ⟨a, r, hmu⟩ := zya6 hh hl
 have ea := h1 a r hmu
 subst ea
 have hsb : (⟨b, 0, some 0⟩ : Addr).spot ≠ none := by simp
 obtain ⟨es2, ent, ck, ee, _, hb, he⟩ := (hh.mp id _ _ r hl hmu hsb).map rfl
 simp only [List.cons.injEq, AV.mpc.injEq, and_true] at ee
 subst ee
 have hE := zy4m he
 obtain ⟨q', g1, g2⟩ := zy5l (P := P) hk rk hE hq
 have hck := zy2x (P := P) hk hc.2 rk false 9998
 have hso : ∀ o, (setObj b o).run P w = .ok () { w with heap := w.heap.setIfInBounds b o } := fun o => by simp [setObj, Sem.run, hb]
 match q, q', g2 with
 | none, none, _ =>
  obtain ⟨mv, hh2⟩ := zybn hh (cs' := [.mpc (es ++ [.tup [k, v]])]) hl hmu hsb rfl (o := .map ((zyb7 ent es.length).push { key := vk, val := vv, born := ck }) (ck + 1)) rfl (fun hR hnew => .inr ⟨es ++ [.tup [k, v]], fun j => if j = es.length then (vk, vv, ck) else ent j, ck + 1, rfl, rfl, by
   rw [hnew]
   congr 2
   apply Array.ext'
   simp only [zyb7, Array.toList_push, Array.toList_map, Array.toList_range, List.length_append, List.length_singleton, List.range_succ, List.map_append, List.map_cons, List.map_nil, if_true]
   congr 1
   refine List.map_congr_left fun j hj => ?_
   have := List.mem_range.1 hj
   rw [if_neg (by omega)], fun j c hj => by
   rcases Nat.lt_or_ge j es.length with h2 | h2
   ·rw [List.getElem?_append_left h2] at hj
    dsimp only
    rw [if_neg (by omega)]
    exact hR _ _ (he j c hj)
   ·rw [List.getElem?_append_right h2] at hj
    have hj0 : j - es.length = 0 := by
     have := (List.getElem?_eq_some_iff.1 hj).1
     simp at this; omega
    rw [hj0] at hj
    cases hj
    dsimp only
    rw [if_pos (by omega)]
    exact hR _ _ (.tup [k, v] [vk, vv] rfl (RepL.cons rk (.cons rv (.nil _ _ _))).2)⟩)
  refine ⟨.skip, Go.undef, _, _, A, ?_, .inr ⟨rfl, rfl⟩, hh2, .undef, mv⟩
  unfold Instr.mapUpdate
  simp only [Sem.run_bind, zyfk t hu, zyfe hb, hck, g1, hso, Result.andThen_ok, Sem.run_pure]
 | some (i, c0), some (i', v0), g2 =>
  obtain ⟨rfl, _⟩ := g2
  obtain ⟨_, hil, k', hk', hke⟩ := zy5k hq
  simp only [Nat.sub_zero] at hil hk'
  have hold := he i _ hk'
  have rk' := (zyho hold).1
  have hsb2 := zyfn (P := P) hk hke rk rk'
  have hgi : (zyb7 ent es.length)[i]? = some ⟨(ent i).1, (ent i).2.1, (ent i).2.2⟩ := by simp [zyb7, hil]
  obtain ⟨mv, hh2⟩ := zybn hh (cs' := [.mpc (es.set i (.tup [k, v]))]) hl hmu hsb rfl (o := .map ((zyb7 ent es.length).modify i fun e => { e with key := vk, val := vv }) ck) rfl (fun hR hnew => .inr ⟨es.set i (.tup [k, v]), fun j => if j = i then (vk, vv, (ent i).2.2) else ent j, ck, rfl, rfl, by
   rw [hnew]
   congr 2
   apply Array.ext_getElem?
   intro j
   rw [Array.getElem?_modify]
   simp only [zyb7, List.length_set, Array.getElem?_map, Array.getElem?_range]
   by_cases hj : i = j
   ·subst hj; simp [hil]
   ·rw [if_neg hj]
    split
    ·have hji : ¬ j = i := fun e => hj e.symm
     simp [hji]
    ·rfl, fun j c hj => by
   rw [List.getElem?_set] at hj
   by_cases h2 : i = j
   ·subst h2
    rw [if_pos rfl, if_pos hil] at hj
    cases hj
    dsimp only
    rw [if_pos rfl]
    exact hR _ _ (.tup [k, v] [vk, vv] rfl (RepL.cons rk (.cons rv (.nil _ _ _))).2)
   ·rw [if_neg h2] at hj
    have h3 : ¬ j = i := fun e => h2 e.symm
    dsimp only
    rw [if_neg h3]
    exact hR _ _ (he j c hj)⟩)
  refine ⟨.skip, Go.undef, _, _, A, ?_, .inr ⟨rfl, rfl⟩, hh2, .undef, mv⟩
  unfold Instr.mapUpdate Instr.keyThatStays
  simp only [Sem.run_bind, zyfk t hu, zyfe hb, hck, g1, hgi, Option.map_some, Option.getD_some, hsb2, if_true, hso, Result.andThen_ok, Sem.run_pure]

theorem mem_plain {o : Oper} {ao : AOp} {s : St} {a : Act} {r : AV} {h' : Heap} (hc : zy38 P o = some ao) (hv : memOp s ao = some (r, h')) (ht : Tmps w μ A s.t a.tmps) (hh : HRep w μ A s.h) : Goes P w μ A (execOp a.eval o) r h' := by
 unfold zy38 at hc
 unfold execOp
 split at hc <;> rename_i hop <;> simp only [hop]
 ·simp only [Option.map_eq_some_iff] at hc; obtain ⟨y, hy, rfl⟩ := hc; cases hv
 ·simp only [Option.map_eq_some_iff] at hc; obtain ⟨y, hy, rfl⟩ := hc; cases hv
 ·simp only [Option.bind_eq_some_iff, Option.map_eq_some_iff] at hc; obtain ⟨_, _, _, _, y, hy, rfl⟩ := hc; cases hv
 ·-- alloc
  simp only [Option.map_eq_some_iff] at hc
  obtain ⟨z, hz, rfl⟩ := hc
  exact zyds hh hz hv
 ·-- box
  simp only [Option.map_eq_some_iff] at hc
  obtain ⟨x, hx, rfl⟩ := hc
  exact opBox_run hh (zydt hh ht hx) hv _
 ·-- build
  simp only [Option.bind_eq_some_iff] at hc
  obtain ⟨i, hi, z, hz, hc⟩ := hc
  split at hc
  ·split at hc
   ·cases hc
   ·simp only [Option.map_eq_some_iff] at hc; obtain ⟨y, hy, rfl⟩ := hc; cases hv
  ·simp only [Option.bind_eq_some_iff, Option.map_eq_some_iff] at hc; obtain ⟨_, _, y, hy, rfl⟩ := hc; cases hv
  ·cases hc
 ·-- buildSlice
  rename_i tt len parts
  simp only [Option.bind_eq_some_iff] at hc
  obtain ⟨⟨e, sz, z⟩, hrow, hc⟩ := hc
  split at hc
  case isFalse => cases hc
  rename_i hn
  simp only [Option.map_eq_some_iff] at hc
  obtain ⟨l, hl, rfl⟩ := hc
  obtain ⟨h1, h2⟩ := zyb6 hl
  have hp' : (parts.map fun x => match x with | (i, x) => (i, a.eval x)) = (parts.toList.map fun (p : Nat × Operand) => (p.1, a.eval p.2)).toArray := by
   apply Array.ext'; simp
  rw [hp']
  simp only [memOp, Option.map_eq_some_iff, Prod.mk.injEq] at hv
  obtain ⟨_, hv, rfl, rfl⟩ := hv
  refine zycz hh hrow hn (pa := l.map fun (p : Nat × Opd) => (p.1, s.get p.2)) (by simp [h1]) (fun j p q hj hq => ?_) hv
  simp only [List.getElem?_map, Option.map_eq_some_iff] at hj hq
  obtain ⟨p', hp', rfl⟩ := hj
  obtain ⟨q', hq', rfl⟩ := hq
  have := h2 j p' q' hp' hq'
  simp only [Option.map_eq_some_iff] at this
  obtain ⟨x, hx, rfl⟩ := this
  exact ⟨rfl, zydt hh ht hx⟩
 ·simp only [Option.bind_eq_some_iff, Option.map_eq_some_iff] at hc; obtain ⟨_, _, y, hy, rfl⟩ := hc; cases hv
 ·-- store
  simp only [Option.bind_eq_some_iff, Option.map_eq_some_iff] at hc
  obtain ⟨g, hg, n, hn, x, hx, y, hy, rfl⟩ := hc
  simp only [memOp, Option.map_eq_some_iff, Prod.mk.injEq] at hv
  obtain ⟨h2, hs, rfl, rfl⟩ := hv
  exact zydn hh hg hn (zydt hh ht hx) (zydt hh ht hy) hs
 ·simp only [Option.map_eq_some_iff] at hc; obtain ⟨y, hy, rfl⟩ := hc; cases hv
 ·-- binOp
  simp only [Option.bind_eq_some_iff] at hc
  obtain ⟨x, hx, y, hy, hc⟩ := hc
  unfold binAt at hc
  split at hc
  ·split at hc <;> first | (cases hc; cases hv) | (unfold zyc4 at hc; split at hc <;> first | (cases hc; cases hv; done) | (cases hc; done)) | (split at hc <;> first | (cases hc; done) | (simp only [Option.map_eq_some_iff] at hc; obtain ⟨_, _, rfl⟩ := hc; cases hv)) | (cases hc)
  ·split at hc <;> first | (cases hc; cases hv) | (unfold zyc4 at hc; split at hc <;> first | (cases hc; cases hv; done) | (cases hc; done)) | (split at hc <;> first | (cases hc; done) | (simp only [Option.map_eq_some_iff] at hc; obtain ⟨_, _, rfl⟩ := hc; cases hv)) | (cases hc)
  ·cases hc; cases hv
 ·simp only [Option.map_eq_some_iff] at hc; obtain ⟨y, hy, rfl⟩ := hc; cases hv
 ·-- convert
  simp only [Option.bind_eq_some_iff] at hc
  obtain ⟨x, hx, hc⟩ := hc
  split at hc
  ·cases hc; cases hv
  ·cases hc; cases hv
  ·rename_i e hu hd
   split at hc
   case isFalse => cases hc
   rename_i hu8
   simp only [Option.map_eq_some_iff] at hc
   obtain ⟨_, _, rfl⟩ := hc
   have he : P.underlying e = some (.int .u8) := by
    unfold isU8 at hu8
    split at hu8
    ·assumption
    ·cases hu8
   exact opS2b_run hh hu hd he (zydt hh ht hx) hv
  ·split at hc
   ·cases hc; cases hv
   ·cases hc
  ·cases hc
 ·split at hc
  ·cases hc
  ·simp only [Option.map_eq_some_iff] at hc; obtain ⟨y, hy, rfl⟩ := hc; cases hv
  ·cases hc
 ·split at hc
  ·simp only [Option.map_eq_some_iff] at hc; obtain ⟨y, hy, rfl⟩ := hc; cases hv
  ·cases hc
 ·-- makeSlice
  simp only [Option.bind_eq_some_iff, Option.map_eq_some_iff] at hc
  obtain ⟨⟨e, sz, z⟩, hrow, n, hn, c, hc, rfl⟩ := hc
  exact opMks_run hh hrow (zydt hh ht hn) (zydt hh ht hc) hv
 ·simp only [Option.bind_eq_some_iff] at hc
  obtain ⟨x, hx, lo, hlo, hi, hhi, mx, hmx, hc⟩ := hc
  split at hc
  ·split at hc
   ·cases hc
   ·cases hc; cases hv
  ·split at hc
   ·cases hc
   ·simp only [Option.map_eq_some_iff] at hc; obtain ⟨y, hy, rfl⟩ := hc; generalize (Gl.cap _ && _) = q at hv; cases q <;> cases hv
  ·split at hc
   ·cases hc
   ·simp only [Option.map_eq_some_iff] at hc; obtain ⟨y, hy, rfl⟩ := hc; cases hv
  ·cases hc
 ·simp only [Option.bind_eq_some_iff] at hc
  obtain ⟨d, hd, n, hn, hc⟩ := hc
  split at hc
  ·cases hc
  ·simp only [Option.map_eq_some_iff] at hc; obtain ⟨y, hy, rfl⟩ := hc; cases hv
 ·simp only [Option.bind_eq_some_iff, Option.map_eq_some_iff] at hc; obtain ⟨_, _, _, _, y, hy, rfl⟩ := hc; cases hv
 ·simp only [Option.bind_eq_some_iff] at hc
  obtain ⟨x, hx, i, hi, hc⟩ := hc
  split at hc
  ·simp only [Option.map_eq_some_iff] at hc; obtain ⟨y, hy, rfl⟩ := hc; cases hv
  ·simp only [Option.map_eq_some_iff] at hc; obtain ⟨y, hy, rfl⟩ := hc; cases hv
  ·cases hc
 ·simp only [Option.bind_eq_some_iff] at hc
  obtain ⟨x, hx, i, hi, hc⟩ := hc
  split at hc
  ·cases hc; cases hv
  ·simp only [Option.bind_eq_some_iff, Option.map_eq_some_iff] at hc; obtain ⟨_, _, y, hy, rfl⟩ := hc; cases hv
  ·cases hc
 ·simp only [Option.map_eq_some_iff] at hc; obtain ⟨y, hy, rfl⟩ := hc; cases hv
 ·simp only [Option.map_eq_some_iff] at hc
  obtain ⟨y, hy, rfl⟩ := hc
  simp only [memOp, Option.some.injEq, Prod.mk.injEq] at hv
  obtain ⟨rfl, rfl⟩ := hv
  exact opMkm_run hh _
 ·simp only [Option.bind_eq_some_iff, Option.map_eq_some_iff] at hc
  obtain ⟨_, _, _, _, _, _, rfl⟩ := hc
  cases hv
 ·-- a map's entry
  simp only [Option.bind_eq_some_iff, Option.map_eq_some_iff] at hc
  obtain ⟨⟨L, z⟩, hm, x, hx, k, hk, y, hy, rfl⟩ := hc
  simp only [memOp, Option.map_eq_some_iff, Prod.mk.injEq] at hv
  obtain ⟨h1, hv, rfl, rfl⟩ := hv
  exact opMup_run hh hm (zydt hh ht hx) (zydt hh ht hk) (zydt hh ht hy) hv
 ·-- a builtin
  rename_i b args ts
  unfold zy1j at hc
  split at hc
  ·simp only [Option.bind_eq_some_iff] at hc
   obtain ⟨x, hx, t, ht', hc⟩ := hc
   split at hc
   ·simp only [Option.map_eq_some_iff] at hc; obtain ⟨y, hy, rfl⟩ := hc; cases hv
   ·simp only [Option.map_eq_some_iff] at hc; obtain ⟨y, hy, rfl⟩ := hc; cases hv
   ·cases hc; cases hv
   ·simp only [Option.map_eq_some_iff] at hc; obtain ⟨y, hy, rfl⟩ := hc; cases hv
   ·cases hc
  ·-- append
   simp only [Option.bind_eq_some_iff] at hc
   obtain ⟨x, hx, y, hy, t, ht0, u, ht1, ⟨e, sz, z⟩, hrow, x', hx', y', hy', hc⟩ := hc
   by_cases hint : ∃ q, P.underlying u = some (.int q)
   ·obtain ⟨q, hq⟩ := hint
    rw [hq] at hc
    cases hc
    obtain ⟨v, w', μ', A', hr, h1, h2, h3⟩ := zycr (P := P) hh ht0 ht1 hrow hq (zydt hh ht hx') (zydt hh ht hy') hv o.type
    refine ⟨.value v, v, w', μ', A', ?_, .inl rfl, h1, h2, h3⟩
    have hb : (Builtin.append_ ts o.type (args.map a.eval)).run P w = .ok v w' := by
     have e0 : (args.map a.eval)[0]? = some (a.eval x) := by simp [hx]
     have e1 : (args.map a.eval)[1]? = some (a.eval y) := by simp [hy]
     rw [← hr]
     unfold Builtin.append_
     simp only [e0, e1, ht0]
     rfl
    simp only [resolve, invoke, builtin, Sem.run_bind, Sem.run_pure, Result.andThen_ok, hb]
   have hu1 : ((∃ d, P.underlying u = some (.slice d)) ∨ P.underlying u = some .string) ∧ ao = .app sz x' y' := by
    split at hc
    ·rename_i d hd; cases hc; exact ⟨.inl ⟨d, hd⟩, rfl⟩
    ·rename_i hd; cases hc; exact ⟨.inr hd, rfl⟩
    ·rename_i q hd; exact absurd ⟨q, hd⟩ hint
    ·cases hc
   obtain ⟨hu1, rfl⟩ := hu1
   obtain ⟨v, w', μ', A', hr, h1, h2, h3⟩ := opApp_run (P := P) hh ht0 ht1 hrow hu1 (zydt hh ht hx') (zydt hh ht hy') hv o.type
   refine ⟨.value v, v, w', μ', A', ?_, .inl rfl, h1, h2, h3⟩
   have hb : (Builtin.append_ ts o.type (args.map a.eval)).run P w = .ok v w' := by
    have e0 : (args.map a.eval)[0]? = some (a.eval x) := by simp [hx]
    have e1 : (args.map a.eval)[1]? = some (a.eval y) := by simp [hy]
    rw [← hr]
    unfold Builtin.append_
    simp only [e0, e1, ht0]
    rfl
   simp only [resolve, invoke, builtin, Sem.run_bind, Sem.run_pure, Result.andThen_ok, hb]
  ·simp only [Option.map_eq_some_iff] at hc; obtain ⟨y, hy, rfl⟩ := hc; cases hv
  ·simp only [Option.map_eq_some_iff] at hc; obtain ⟨y, hy, rfl⟩ := hc; cases hv
  ·simp only [Option.bind_eq_some_iff] at hc
   obtain ⟨x, hx, t, ht', hc⟩ := hc
   split at hc
   ·simp only [Option.map_eq_some_iff] at hc; obtain ⟨y, hy, rfl⟩ := hc; cases hv
   ·cases hc
  ·-- clear
   simp only [Option.bind_eq_some_iff, Option.map_eq_some_iff] at hc
   obtain ⟨x, hx, t, ht0, ⟨e, sz, z⟩, hrow, x', hx', rfl⟩ := hc
   simp only [memOp, Option.map_eq_some_iff, Prod.mk.injEq] at hv
   obtain ⟨h2, hcl, rfl, rfl⟩ := hv
   obtain ⟨w', μ', A', hr, h1, h3⟩ := opClr_run (P := P) hh ht0 hrow (zydt hh ht hx') hcl o.type
   refine ⟨.value Go.undef, Go.undef, w', μ', A', ?_, .inl rfl, h1, .undef, h3⟩
   have hb : (Builtin.clear_ ts o.type (args.map a.eval)).run P w = .ok Go.undef w' := by
    have e0 : (args.map a.eval)[0]? = some (a.eval x) := by simp [hx]
    rw [← hr]
    unfold Builtin.clear_
    simp only [e0, ht0]
    rfl
   simp only [resolve, invoke, builtin, Sem.run_bind, Sem.run_pure, Result.andThen_ok, hb]
  ·cases hc
 ·cases hc

theorem mem_run {o : Oper} {ao : AOp} {s : St} {a : Act} {r : AV} {h' : Heap} (hc : compOp? P o = some ao) (hd : ao.isDfr = false) (hv : memOp s ao = some (r, h')) (ht : Tmps w μ A s.t a.tmps) (hh : HRep w μ A s.h) : Goes P w μ A (execOp a.eval o) r h' := by
 unfold compOp? at hc
 split at hc
 rotate_left
 ·unfold zy36 at hc
  split at hc
  ·split at hc
   ·simp only [Option.bind_eq_some_iff, Option.map_eq_some_iff] at hc
    obtain ⟨_, _, _, _, rfl⟩ := hc
    cases hd
   ·cases hc
  ·cases hc
 ·simp only [Option.bind_eq_some_iff] at hc
  obtain ⟨ao', h1, h2⟩ := hc
  split at h2
  ·cases h2
  ·cases h2; exact mem_plain h1 hv ht hh
 unfold zy2g at hc
 simp only [Option.bind_eq_some_iff] at hc
 obtain ⟨as, has, hc⟩ := hc
 split at hc
 ·split at hc
  case h_2 => cases hc
  split at hc
  ·rw [Bool.cond_eq_ite] at hc
   split at hc
   ·cases hc; cases hv
   ·cases hc
  ·split at hc
   case isFalse => cases hc
   split at hc
   ·split at hc
    ·cases hc; cases hv
    ·cases hc
   ·split at hc
    ·split at hc
     ·cases hc; cases hv
     ·cases hc
    ·cases hc
 ·simp only [Option.map_eq_some_iff] at hc; obtain ⟨y, hy, rfl⟩ := hc; cases hv

end Go.Proofs.YtiblnpnfaadmcaaGreat.Am
