/- What the abstract machine tells of a call, the machine does. -/
import Derived.Test.YtlpimdkgboabcaaAmMem
import Derived.Orders
set_option linter.unusedVariables false
set_option linter.unusedSimpArgs false
namespace Go.Proofs.Ytlpimdkgboabcaa.Am
open Go

variable {P : Program} {w : World} {μ : Mu} {A : Nat → Prop}

/-- A function that has a body, and is entered. -/
def Enters (P : Program) (f : Nat) : Prop := ∃ fn c, P.funcs[f]? = some fn ∧ fn.body = some c ∧ (fn.name == "runtime.NumGoroutine") = false

def Sound (P : Program) (C : Oracle) : Prop := ∀ f args h v h', C f args h = some (v, h') → Enters P f ∧ ∀ w μ A vals, HRep w μ A h → RepL w μ A args vals →
  Calls P f vals.toArray w fun e w' => ∃ u μ' A', e = .returned u ∧ HRep w' μ' A' h' ∧ Rep w' μ' A' v u ∧ Move w μ A w' μ' A'

/-- Behind a call by value. -/
theorem val_step {h : Heap} (hh : HRep w μ A h) {w' : World} {μ' : Mu} {Ac A' : Nat → Prop} (m : Move w [] Ac w' μ' A') :
    Move w μ A w' μ (fun b => A b ∨ (w.heap.size ≤ b ∧ b < w'.heap.size)) ∧ HRep w' μ (fun b => A b ∨ (w.heap.size ≤ b ∧ b < w'.heap.size)) h := by
  have nol : ∀ b, ¬ Liv ([] : Mu) b := fun b ⟨id, a, r, hm, _⟩ => by simp at hm
  have mv : Move w μ A w' μ (fun b => A b ∨ (w.heap.size ≤ b ∧ b < w'.heap.size)) := {
    os := m.os, tape := m.tape, output := m.output, size := m.size
    keep := fun b hb _ => m.keep b hb (nol b)
    len := Nat.le_refl _
    mu := fun _ _ _ h => h
    liv := fun _ h => .inl h
    a := fun _ h => .inl h
    new := fun b hb => hb.elim .inl (fun h => .inr h.1) }
  refine ⟨mv, ⟨hh.len, hh.liv, fun id cs b r hl hm => ?_, hh.inj, fun b hb hl => ?_, fun b hb => ?_⟩⟩
  · obtain ⟨g1, g2, arr, e, fr, g3, g4, g5, g6⟩ := hh.blk id cs b r hl hm
    refine ⟨g1, g2, arr, e, fr, ?_, g4, g5, fun j c hj => let ⟨v, h1, h2⟩ := g6 j c hj; ⟨v, h1, h2.step hh mv⟩⟩
    rw [m.keep _ (Array.getElem?_eq_some_iff.1 g3).1 (nol _)]
    exact g3
  · rcases hb with hb | hb
    · exact hh.off b hb hl
    · have := liv_lt hh hl; omega
  · rcases hb with hb | hb
    · exact Nat.lt_of_lt_of_le (hh.old b hb) m.size
    · exact hb.2

theorem HRep.empty (w : World) {A : Nat → Prop} (ha : ∀ b, A b → b < w.heap.size) : HRep w [] A [] :=
  ⟨rfl, fun id => by simp [live], fun id cs b r h => by simp [live] at h, fun i j a b r s h => by simp at h, fun b _ ⟨id, a, r, hm, _⟩ => by simp at hm, ha⟩

theorem byVal_run {C : Oracle} (hC : Sound P C) {h : Heap} (hh : HRep w μ A h) {f : Nat} {args : List AV} {vals : List Value} (hr : RepL w μ A args vals) {v : AV} (hv : byVal C h f args = some v) :
    Enters P f ∧ Calls P f vals.toArray w fun e w' => ∃ u A', e = .returned u ∧ HRep w' μ A' h ∧ Rep w' μ A' v u ∧ Move w μ A w' μ A' := by
  simp only [byVal, Option.bind_eq_some_iff] at hv
  obtain ⟨as, has, ⟨v0, h0⟩, hc, v1, hf, hv⟩ := hv
  split at hv
  case isFalse => cases hv
  rename_i hcond
  cases hv
  obtain ⟨hen, hcall⟩ := hC f as [] v0 h0 hc
  refine ⟨hen, ?_⟩
  obtain ⟨h1, h2⟩ := mapM_some has
  by_cases hn : args.all noRef = true
  · have hr' : RepL w [] A as vals := ⟨by rw [hr.1, h1], fun j c x hj hx => by
      have hl : j < args.length := by rw [← h1]; exact (List.getElem?_eq_some_iff.1 hj).1
      exact freezeN_noRef 12 12 _ _ _ (List.all_eq_true.1 hn _ (List.getElem_mem hl)) (h2 j _ _ (List.getElem?_eq_getElem hl) hj) (hr.2 j _ x (List.getElem?_eq_getElem hl) hx)⟩
    refine (hcall w [] A vals (HRep.empty w hh.old) hr').mono ?_
    rintro e w' ⟨u, μ', A', rfl, hh', hru, mv⟩
    obtain ⟨mv', hh2⟩ := val_step hh mv
    have hfz := freezeN_rep hh' (fun b => A' b ∨ Liv μ' b) (fun b h => .inl h) (fun b h => .inr h) 12 v0 v u hf hru
    refine ⟨u, _, rfl, hh2, hfz.move (fun b _ => rfl) (fun b hb => ?_) (by simp) (fun id x hid => by simp at hid), mv'⟩
    rcases hb with hb | hb
    · rcases mv.new b hb with h | h
      · exact .inl h
      · exact .inr ⟨h, hh'.old b hb⟩
    · rcases mv.liv b hb with h | h
      · obtain ⟨id, a, r, hm, _⟩ := h; simp at hm
      · exact .inr ⟨h, liv_lt hh' hb⟩
  · have hfl : flatV v = true := by
      cases ha : args.all noRef
      · rw [ha] at hcond; simpa using hcond
      · exact absurd ha hn
    have hr' : RepL w [] (fun b => A b ∨ Liv μ b) as vals := ⟨by rw [hr.1, h1], fun j c x hj hx => by
      have hl : j < args.length := by rw [← h1]; exact (List.getElem?_eq_some_iff.1 hj).1
      exact freezeN_rep hh _ (fun b h => .inl h) (fun b h => .inr h) 12 _ _ _ (h2 j _ _ (List.getElem?_eq_getElem hl) hj) (hr.2 j _ x (List.getElem?_eq_getElem hl) hx)⟩
    refine (hcall w [] _ vals (HRep.empty w (fun b hb => hb.elim (hh.old b) (liv_lt hh))) hr').mono ?_
    rintro e w' ⟨u, μ', A', rfl, hh', hru, mv⟩
    obtain ⟨mv', hh2⟩ := val_step hh mv
    have hfz := freezeN_rep hh' (fun b => A' b ∨ Liv μ' b) (fun b h => .inl h) (fun b h => .inr h) 12 v0 v u hf hru
    exact ⟨u, _, rfl, hh2, flatV_rep hfl hfz, mv'⟩

/-- The state of the abstract machine, and of the machine. -/
structure Sim (w0 : World) (μ0 : Mu) (A0 : Nat → Prop) (s : St) (a : Act) (w : World) (μ : Mu) (A : Nat → Prop) : Prop where
  h : HRep w μ A s.h
  t : Tmps w μ A s.t a.tmps
  m : Move w0 μ0 A0 w μ A
  d : a.defers = []

theorem tmps_put {t : List AV} {a : Act} (h : Tmps w μ A t a.tmps) {r : AV} {v : Value} (hr : Rep w μ A r v) (d : Option Nat) (s : St) (hs : s.t = t) : Tmps w μ A (s.put d r).t (a.put d v).tmps := by
  subst hs
  cases d with
  | none => exact h
  | some d =>
    show RepL w μ A (s.t.set d r) (a.tmps.setIfInBounds d v).toList
    rw [Array.toList_setIfInBounds]
    refine ⟨by simp [h.1], fun j c x hj hx => ?_⟩
    rw [List.getElem?_set] at hj hx
    by_cases hd : d = j
    · subst hd
      rw [if_pos rfl] at hj hx
      split at hj
      · split at hx
        · cases hj; cases hx; exact hr
        · cases hx
      · cases hj
    · rw [if_neg hd] at hj hx
      exact h.2 j c x hj hx

theorem Sim.put {w0 : World} {μ0 : Mu} {A0 : Nat → Prop} {s : St} {a : Act} {w w' : World} {μ μ' : Mu} {A A' : Nat → Prop} (hs : Sim w0 μ0 A0 s a w μ A) {r : AV} {v : Value} {h' : Heap} (hh : HRep w' μ' A' h') (hr : Rep w' μ' A' r v) (m : Move w μ A w' μ' A') (d : Option Nat) :
    Sim w0 μ0 A0 ({ s with h := h' }.put d r) (a.put d v) w' μ' A' where
  h := by cases d <;> exact hh
  t := tmps_put (RepL.step hs.t hs.h m) hr d _ rfl
  m := hs.m.trans m
  d := by cases d <;> exact hs.d

/-- One operation. -/
theorem step_wp {C : Oracle} (hC : Sound P C) (refm : Nat → Bool) {ops : Array Oper} {o : Oper} {s : St} {a : Act} {r : AV} {h' : Heap} (hv : stepA C refm (compI P ops o) s = some (r, h')) (hh : HRep w μ A s.h) (ht : Tmps w μ A s.t a.tmps)
    {next : Act → World → Prop} {Q : Exit → Act → World → Prop} (hn : ∀ v w' μ' A', HRep w' μ' A' h' → Rep w' μ' A' r v → Move w μ A w' μ' A' → next (a.put o.dst v) w') : o.wp P a w next Q := by
  have hop : ∃ ao, compOp? P o = some ao ∧ (compI P ops o).op = ao := by
    unfold compI at hv ⊢
    cases hg : guards ops 20 o with
    | none => simp only [hg] at hv; cases hv
    | some g =>
      simp only [hg] at hv ⊢
      cases hc : compOp? P o with
      | none => rw [hc] at hv; cases hv
      | some ao => exact ⟨ao, rfl, rfl⟩
  obtain ⟨ao, hc, hao⟩ := hop
  unfold stepA at hv
  rw [hao] at hv
  unfold Oper.wp
  split at hv
  · -- a call
    rename_i f args
    have hcall : ∃ fo as ts, o.op = .call { callee := .value fo, args := as, argTypes := ts } ∧ opd fo = some f ∧ as.toList.mapM opd = some args := by
      unfold compOp? at hc
      split at hc <;> rename_i hop
      · rename_i fo as ts
        refine ⟨fo, as, ts, hop, ?_⟩
        unfold callAt at hc
        simp only [Option.bind_eq_some_iff] at hc
        obtain ⟨l, hl, hc⟩ := hc
        split at hc
        · split at hc
          case h_2 => cases hc
          split at hc
          · cases hc; exact ⟨rfl, hl⟩
          · split at hc
            case isFalse => cases hc
            split at hc
            · split at hc <;> cases hc
            · split at hc
              · split at hc <;> cases hc
              · cases hc
        · simp only [Option.map_eq_some_iff] at hc
          obtain ⟨y, hy, he⟩ := hc
          cases he
          exact ⟨hy, hl⟩
      · simp only [Option.bind_eq_some_iff] at hc
        obtain ⟨ao', h1, h2⟩ := hc
        split at h2
        · cases h2
        · rename_i hn; cases h2; exact absurd rfl hn
    obtain ⟨fo, as, ts, hop, hfo, has⟩ := hcall
    have hrf := opd_rep ht hfo
    have hra := opds_rep ht has
    unfold callOp at hv
    split at hv
    case h_2 => cases hv
    rename_i g cap hfn
    rw [hfn] at hrf
    obtain ⟨capv, ecap, hcap⟩ := hrf.fn_inv
    have hargs := hra.append hcap
    have ea : (as.map a.eval ++ capv.toArray) = (as.toList.map a.eval ++ capv).toArray := by apply Array.ext'; simp
    have enter : Enters P g → (execOp a.eval o).run P w = .ok (.enter g (as.toList.map a.eval ++ capv).toArray) w := by
      rintro ⟨fn, c, h1, h2, h3⟩
      unfold execOp
      simp only [hop, resolve, ecap, Deferred.ofValue, invoke, callFunc, Sem.run_bind, Sem.run_pure, Result.andThen_ok, Array.empty_append, run_program, h1, h3, h2, Bool.false_eq_true, if_false, Option.isNone_some, ea]
    cases hrefm : refm g
    · rw [hrefm] at hv
      simp only [cond_false, Option.map_eq_some_iff, Prod.mk.injEq] at hv
      obtain ⟨v, hbv, rfl, rfl⟩ := hv
      obtain ⟨hen, hcl⟩ := byVal_run hC hh hargs hbv
      rw [enter hen]
      refine hcl.mono ?_
      rintro e w' ⟨u, A', rfl, h1, h2, h3⟩
      exact hn u w' μ A' h1 h2 h3
    · rw [hrefm] at hv
      simp only [cond_true] at hv
      obtain ⟨hen, hcl⟩ := hC _ _ _ _ _ hv
      rw [enter hen]
      refine (hcl w μ A _ hh hargs).mono ?_
      rintro e w' ⟨u, μ', A', rfl, h1, h2, h3⟩
      exact hn u w' μ' A' h1 h2 h3
  · cases hp : ao.isPure
    · rw [hp] at hv
      simp only [cond_false] at hv
      obtain ⟨n, v, w', μ', A', hr, hnv, h1, h2, h3⟩ := mem_run hc hv ht hh
      rw [hr]
      rcases hnv with rfl | ⟨rfl, rfl⟩
      · exact hn v w' μ' A' h1 h2 h3
      · exact hn _ w' μ' A' h1 h2 h3
    · rw [hp] at hv
      simp only [cond_true, Option.map_eq_some_iff, Prod.mk.injEq] at hv
      obtain ⟨v, hpv, rfl, rfl⟩ := hv
      obtain ⟨u, h1, h2⟩ := pure_run hc hp hpv ht hh
      rw [h2]
      exact hn u w μ A hh h1 (Move.refl _ _ _)


/-! ### Tests ahead of operations -/

theorem wanted_last {s : St} : ∀ (l : List (Nat × Bool)) (p : Nat × Bool) (b : Bool), s.wanted (l ++ [p]) = some b → (b = true ∧ ∃ c, s.t.getD p.1 .junk = .bool c ∧ (c == p.2) = true) ∨ (b = false ∧ ((∃ c, s.t.getD p.1 .junk = .bool c ∧ (c == p.2) = false) ∨ s.t.getD p.1 .junk = .undef))
  | [], p, b, h => by
    obtain ⟨n, q⟩ := p
    simp only [List.nil_append, St.wanted] at h
    split at h
    · rename_i c hc
      cases hq : (c == q)
      · rw [hq] at h
        simp only [cond_false, skipped, cond_true, Option.some.injEq] at h
        exact .inr ⟨h.symm, .inl ⟨c, hc, hq⟩⟩
      · rw [hq] at h
        simp only [cond_true, Option.some.injEq] at h
        exact .inl ⟨h.symm, c, hc, hq⟩
    · cases h
  | (n, q) :: l, p, b, h => by
    simp only [List.cons_append, St.wanted] at h
    split at h
    · rename_i c hc
      cases hq : (c == q)
      · rw [hq] at h
        simp only [cond_false] at h
        have hs : ∀ (l : List (Nat × Bool)), skipped s (l ++ [p]) = (match s.t.getD p.1 .junk with | .undef => true | _ => false) := by
          intro l
          induction l with
          | nil => rfl
          | cons x l ih =>
            cases l with
            | nil => rfl
            | cons y l => exact ih
        rw [hs] at h
        split at h
        · rename_i hu
          simp only [cond_true, Option.some.injEq] at h
          exact .inr ⟨h.symm, .inr hu⟩
        · cases h
      · rw [hq] at h
        simp only [cond_true] at h
        exact wanted_last l p b h
    · cases h

theorem wanted_eq {ops : Array Oper} {o : Oper} {s : St} {a : Act} (ht : Tmps w μ A s.t a.tmps) {g : List (Nat × Bool)} (hg : guards ops 20 o = some g) {b : Bool} (hw : s.wanted g = some b) : Region.wanted o (yielded ops a.tmps) = b := by
  unfold guards at hg
  unfold Region.wanted
  cases ho : o.guard with
  | none =>
    rw [ho] at hg
    cases hg
    cases hw
    rfl
  | some p =>
    obtain ⟨j, want⟩ := p
    rw [ho] at hg
    simp only at hg
    split at hg
    case h_2 => cases hg
    rename_i q hq
    simp only [Option.bind_eq_some_iff, Option.map_eq_some_iff] at hg
    obtain ⟨d, hd, l, hl, rfl⟩ := hg
    have hy : yielded ops a.tmps j = match a.tmps[d]? with | some (.bool b) => some b | _ => none := by
      unfold yielded
      simp only [hq, Option.bind_some, hd]
      generalize a.tmps[d]? = x
      cases x with
      | none => rfl
      | some v => cases v <;> rfl
    have val : ∀ {c : AV}, s.t.getD d .junk = c → c ≠ .junk → ∃ v, a.tmps[d]? = some v ∧ Rep w μ A c v := by
      intro c hc hj
      rcases Nat.lt_or_ge d s.t.length with h | h
      · obtain ⟨v, h1, h2⟩ := RepL.get ht (List.getElem?_eq_getElem h)
        rw [List.getD_eq_getElem?_getD, List.getElem?_eq_getElem h, Option.getD_some] at hc
        rw [hc] at h2
        exact ⟨v, by simpa using h1, h2⟩
      · rw [List.getD_eq_getElem?_getD, List.getElem?_eq_none h] at hc
        exact absurd hc.symm hj
    rcases wanted_last l (d, want) b hw with ⟨rfl, c, h1, h2⟩ | ⟨rfl, ⟨c, h1, h2⟩ | h1⟩
    · obtain ⟨v, hv, hr⟩ := val h1 (by simp)
      have := hr.bool_inv
      subst this
      simp only [hy, hv]
      simpa using h2
    · obtain ⟨v, hv, hr⟩ := val h1 (by simp)
      have := hr.bool_inv
      subst this
      simp only [hy, hv]
      simpa using h2
    · obtain ⟨v, hv, hr⟩ := val h1 (by simp)
      cases hr
      simp only [hy, hv, Go.undef]
      rfl

/-- What an instruction's tests say. -/
theorem compI_guard' {ops : Array Oper} {o : Oper} {C : Oracle} {refm : Nat → Bool} {s : St} {b : Bool} (hw : s.wanted (compI P ops o).guard = some b) (hb : b = true → ∃ r, stepA C refm (compI P ops o) s = some r) :
    ∃ g, guards ops 20 o = some g ∧ s.wanted g = some b := by
  cases hg : guards ops 20 o with
  | some g => unfold compI at hw; rw [hg] at hw; exact ⟨g, rfl, hw⟩
  | none =>
    unfold compI at hw hb
    rw [hg] at hw hb
    cases hw
    obtain ⟨r, hr⟩ := hb rfl
    cases hr

/-! ### A region in the text's order -/

theorem ops_run {C : Oracle} (hC : Sound P C) (refm : Nat → Bool) {ops : Array Oper} {R : Type} {K : St → Option R} {r : R} {w0 : World} {μ0 : Mu} {A0 : Nat → Prop} {Q : Exit → Act → World → Prop}
    (hK : ∀ s a w μ A, K s = some r → Sim w0 μ0 A0 s a w μ A → Q .normal a w) : ∀ (l : List Oper) (k : Nat) (s : St) (a : Act) (w : World) (μ : Mu) (A : Nat → Prop), (∀ j, l[j]? = ops[k + j]?) → Sim w0 μ0 A0 s a w μ A →
      evalOps C refm (l.map (compI P ops)) s K = some r → wpOps P ops Q (List.range' k l.length) a w
  | [], k, s, a, w, μ, A, _, hs, h => hK s a w μ A h hs
  | o :: l, k, s, a, w, μ, A, hl, hs, h => by
    have h0 : ops[k]? = some o := by simpa using (hl 0).symm
    have hl' : ∀ j, l[j]? = ops[k + 1 + j]? := fun j => by have := hl (j + 1); simpa [Nat.add_assoc, Nat.add_comm 1 j] using this
    rw [List.map_cons, evalOps_cons] at h
    rw [List.length_cons, List.range'_succ]
    unfold wpOps
    simp only [h0]
    split at h
    · rename_i hw
      cases hst : stepA C refm (compI P ops o) s with
      | none => rw [hst] at h; cases h
      | some q =>
        rw [hst] at h
        obtain ⟨g, hg, hwg⟩ := compI_guard' hw (fun _ => ⟨q, hst⟩)
        rw [wanted_eq hs.t hg hwg, if_pos rfl]
        refine .inl (step_wp hC refm hst hs.h hs.t fun v w' μ' A' h1 h2 h3 => ?_)
        have hd : (compI P ops o).dst = o.dst := by unfold compI; rw [hg]
        have hs' := hs.put h1 h2 h3 o.dst
        rw [Option.bind_some, hd] at h
        exact ops_run hC refm hK l (k + 1) _ _ _ _ _ hl' hs' h
    · rename_i hw
      obtain ⟨g, hg, hwg⟩ := compI_guard' (C := C) (refm := refm) hw (fun e => by cases e)
      rw [wanted_eq hs.t hg hwg]
      simp only [Bool.false_eq_true, if_false]
      have hd : (compI P ops o).dst = o.dst := by unfold compI; rw [hg]
      have hs' := hs.put (h' := s.h) hs.h .undef (Move.refl _ _ _) o.dst
      rw [hd] at h
      exact ops_run hC refm hK l (k + 1) _ _ _ _ _ hl' hs' h
    · cases h


/-! ### A region whose order the program leaves open -/

theorem St.get_congr {s s' : St} {x : Opd} (h : ∀ n, x = .t n → s.t.getD n .junk = s'.t.getD n .junk) : s.get x = s'.get x := by
  cases x with
  | t n => exact h n rfl
  | c v => rfl

theorem map_congr' {s s' : St} {l : List Opd} (h : ∀ x ∈ l, s.get x = s'.get x) : l.map s.get = l.map s'.get := List.map_congr_left h

theorem optmap_congr {s s' : St} {o : Option Opd} (h : ∀ x ∈ oo o, s.get x = s'.get x) : o.map s.get = o.map s'.get := by
  cases o with
  | none => rfl
  | some x => simp [h x (by simp [oo])]

/-- What only reads hangs on what it reads. -/
theorem pureOp_congr {s s' : St} {ao : AOp} (h : ∀ x ∈ ao.opds, s.get x = s'.get x) (hh : (∃ g a, ao = .load g a) ∨ (∃ x, ao = .b2s x) → s.h = s'.h) : pureOp s ao = pureOp s' ao := by
  cases ao <;> simp only [pureOp] <;> simp only [AOp.opds, List.mem_cons, List.mem_append, List.not_mem_nil, or_false, forall_eq_or_imp, forall_eq, List.mem_map] at h <;> try rfl
  case load g a => rw [h, hh (.inl ⟨_, _, rfl⟩)]
  case b2s x => rw [h, hh (.inr ⟨_, rfl⟩)]
  case slc sz x lo hi mx =>
    rw [h x (.inl (.inl (.inl rfl))), optmap_congr fun y hy => h y (.inl (.inl (.inr hy))), optmap_congr fun y hy => h y (.inl (.inr hy)), optmap_congr fun y hy => h y (.inr hy)]
  case slcs x lo hi =>
    rw [h x (.inl (.inl rfl)), optmap_congr fun y hy => h y (.inl (.inr hy)), optmap_congr fun y hy => h y (.inr hy)]
  case mm mx xs => rw [map_congr' h]
  case mkfn f xs => rw [map_congr' h]
  case bld z ps =>
    have : (ps.map fun p => (p.1, p.2.1, s.get p.2.2)) = ps.map fun p => (p.1, p.2.1, s'.get p.2.2) := List.map_congr_left fun p hp => by rw [h _ ⟨p, hp, rfl⟩]
    rw [this]
  all_goals simp only [h]

theorem memOp_congr {s s' : St} {ao : AOp} (h : ∀ x ∈ ao.opds, s.get x = s'.get x) (hh : s.h = s'.h) : memOp s ao = memOp s' ao := by
  cases ao <;> simp only [memOp] <;> simp only [AOp.opds, List.mem_cons, List.mem_append, List.not_mem_nil, or_false, forall_eq_or_imp, forall_eq, List.mem_map] at h <;> try rfl
  case bslc sz n z ps =>
    have : (ps.map fun p => (p.1, s.get p.2)) = ps.map fun p => (p.1, s'.get p.2) := List.map_congr_left fun p hp => by rw [h _ ⟨p, hp, rfl⟩]
    rw [this, hh]
  case zbox cs => rw [hh]
  all_goals simp only [h, hh]

theorem reads_congr {i : AI} {s s' : St} (h : ∀ n ∈ i.reads, s.t.getD n .junk = s'.t.getD n .junk) : ∀ x ∈ i.op.opds, s.get x = s'.get x := fun x hx => St.get_congr fun n hn => h n (by
  unfold AI.reads
  refine List.mem_append_left _ (List.mem_filterMap.2 ⟨x, hx, ?_⟩)
  rw [hn])

theorem stepA_pure {C : Oracle} {refm : Nat → Bool} {i : AI} {s : St} (h : i.op.isPure = true) : stepA C refm i s = (pureOp s i.op).map fun v => (v, s.h) := by
  obtain ⟨d, op, g⟩ := i
  cases op <;> first | rfl | cases h

theorem stepA_mem {C : Oracle} {refm : Nat → Bool} {i : AI} {s : St} (h : i.op.isPure = false) (hn : i.op.isCall = false) : stepA C refm i s = memOp s i.op := by
  obtain ⟨d, op, g⟩ := i
  cases op <;> first | rfl | (cases h; done) | (cases hn; done)

theorem heed_pure {refm : Nat → Bool} {op : AOp} (h : op.isPure = true) : op.heed refm < 2 ∧ ((∃ g a, op = .load g a) ∨ (∃ x, op = .b2s x) → 1 ≤ op.heed refm) := by
  cases op <;> first
    | (cases h; done)
    | (refine ⟨Nat.lt_succ_self 1, fun _ => Nat.le_refl 1⟩; done)
    | (refine ⟨Nat.zero_lt_succ 1, ?_⟩
       rintro (⟨g, a, he⟩ | ⟨x, he⟩) <;> cases he)

theorem heed_mem {refm : Nat → Bool} {op : AOp} (h : op.isPure = false) (hn : op.isCall = false) : op.heed refm = 2 ∨ ∃ sz n z ps, op = .bslc sz n z ps := by
  cases op <;> first | exact .inl rfl | exact .inr ⟨_, _, _, _, rfl⟩ | (cases h; done) | (cases hn; done)

/-- One operation, elsewhere: the same value; the heap as it changes it there, or as it is here. -/
theorem stepA_congr {C : Oracle} {refm : Nat → Bool} {i : AI} {s s' : St} (h : ∀ n ∈ i.reads, s.t.getD n .junk = s'.t.getD n .junk) (hh : 1 ≤ i.op.heed refm → s.h = s'.h) {v : AV} {h1 : Heap} (hv : stepA C refm i s = some (v, h1)) :
    (2 ≤ i.op.heed refm → stepA C refm i s' = some (v, h1)) ∧ (i.op.heed refm < 2 → h1 = s.h ∧ stepA C refm i s' = some (v, s'.h)) := by
  have ho := reads_congr h
  cases hp : i.op.isPure
  · cases hc : i.op.isCall
    · rcases heed_mem (refm := refm) hp hc with h2 | ⟨sz, n, z, ps, he⟩
      · rw [stepA_mem hp hc] at hv ⊢
        refine ⟨fun _ => ?_, fun h3 => by omega⟩
        rw [← memOp_congr ho (hh (by omega))]
        exact hv
      · rw [stepA_mem hp hc] at hv ⊢
        rw [he] at hv ho ⊢
        simp only [memOp, Option.map_eq_some_iff, Prod.mk.injEq] at hv ⊢
        obtain ⟨x, hx, rfl, rfl⟩ := hv
        have e : (ps.map fun p => (p.1, s.get p.2)) = ps.map fun p => (p.1, s'.get p.2) := List.map_congr_left fun p hp => by
          rw [ho p.2 (List.mem_map.2 ⟨p, hp, rfl⟩)]
        rw [e] at hx
        exact ⟨fun h => absurd h (by show ¬ 2 ≤ 0; omega), fun _ => ⟨by first | rfl | trivial, x, hx, by first | rfl | trivial⟩⟩
    · obtain ⟨dst, op, g⟩ := i
      cases op <;> first | (cases hc; done) | skip
      rename_i f args
      have e1 : s.get f = s'.get f := ho f (by simp [AOp.opds])
      have e2 : args.map s.get = args.map s'.get := map_congr' fun x hx => ho x (by simp [AOp.opds, hx])
      have hheed : 1 ≤ (AOp.call f args).heed refm := by
        cases f with
        | t n => exact Nat.le_succ 1
        | c c =>
          cases c <;> first | exact Nat.le_succ 1 | skip
          rename_i g' c'
          show 1 ≤ bif refm g' then 2 else 1
          cases refm g' <;> simp
      have e3 := hh hheed
      simp only [stepA] at hv ⊢
      rw [← e1, ← e2, ← e3]
      refine ⟨fun _ => hv, fun hlt => ?_⟩
      cases f with
      | t n => exact absurd hlt (Nat.lt_irrefl 2)
      | c c =>
        cases c <;> first | exact absurd hlt (Nat.lt_irrefl 2) | skip
        rename_i g' c'
        have hr : refm g' = false := by
          cases hr : refm g'
          · rfl
          · have : (bif refm g' then 2 else 1) < 2 := hlt
            rw [hr] at this; simp at this
        simp only [St.get, callOp, hr, cond_false, Option.map_eq_some_iff, Prod.mk.injEq] at hv ⊢
        obtain ⟨x, hx, rfl, rfl⟩ := hv
        exact ⟨by first | rfl | trivial, x, hx, by first | rfl | trivial⟩
  · obtain ⟨h2, h3⟩ := heed_pure (refm := refm) hp
    rw [stepA_pure hp] at hv ⊢
    simp only [Option.map_eq_some_iff, Prod.mk.injEq] at hv ⊢
    obtain ⟨x, hx, rfl, rfl⟩ := hv
    have hq := pureOp_congr ho (fun hl => hh (h3 hl))
    exact ⟨fun h4 => by omega, fun _ => ⟨by first | rfl | trivial, x, hq ▸ hx, by first | rfl | trivial⟩⟩

/-- The text's run of a region: the states, and the values. -/
theorem evalOps_trace {C : Oracle} {refm : Nat → Bool} {R : Type} {K : St → Option R} {r : R} : ∀ (l : List AI) (s : St), evalOps C refm l s K = some r →
    ∃ (S : Nat → St) (V : Nat → AV), S 0 = s ∧ K (S l.length) = some r ∧ ∀ (i : Nat) (x : AI), l[i]? = some x →
      ((S i).wanted x.guard = some true ∧ ∃ h, stepA C refm x (S i) = some (V i, h) ∧ S (i + 1) = { S i with h := h }.put x.dst (V i)) ∨ ((S i).wanted x.guard = some false ∧ V i = .undef ∧ S (i + 1) = (S i).put x.dst (V i))
  | [], s, h => ⟨fun _ => s, fun _ => .junk, rfl, h, fun i x hx => by simp at hx⟩
  | x :: l, s, h => by
    rw [evalOps_cons] at h
    split at h
    · rename_i hw
      cases hst : stepA C refm x s with
      | none => rw [hst] at h; cases h
      | some q =>
        rw [hst] at h
        obtain ⟨S, V, h0, hK, hS⟩ := evalOps_trace l _ h
        refine ⟨fun | 0 => s | n + 1 => S n, fun | 0 => q.1 | n + 1 => V n, rfl, hK, fun i y hy => ?_⟩
        cases i with
        | zero => simp at hy; subst hy; exact .inl ⟨hw, q.2, hst, h0⟩
        | succ i => exact hS i y (by simpa using hy)
    · rename_i hw
      obtain ⟨S, V, h0, hK, hS⟩ := evalOps_trace l _ h
      refine ⟨fun | 0 => s | n + 1 => S n, fun | 0 => .undef | n + 1 => V n, rfl, hK, fun i y hy => ?_⟩
      cases i with
      | zero => simp at hy; subst hy; exact .inr ⟨hw, rfl, h0⟩
      | succ i => exact hS i y (by simpa using hy)
    · cases h

section draws
variable (l : List AI) (refm : Nat → Bool) (S : Nat → St) (V : Nat → AV)

/-- What temporary x holds when of the first k operations those in L have come. -/
def valD (L : Nat → Bool) : Nat → Nat → AV
  | 0, x => (S 0).t.getD x .junk
  | k + 1, x => if L k = true ∧ (l[k]?).bind (·.dst) = some x then V k else valD L k x

/-- And the heap. -/
def heapD (L : Nat → Bool) : Nat → Heap
  | 0 => (S 0).h
  | k + 1 => if L k = true ∧ 2 ≤ ((l[k]?).map (·.op.heed refm)).getD 0 then (S (k + 1)).h else heapD L k

theorem valD_succ (L : Nat → Bool) (k x : Nat) : valD l S V L (k + 1) x = if L k = true ∧ (l[k]?).bind (·.dst) = some x then V k else valD l S V L k x := rfl
theorem heapD_succ (L : Nat → Bool) (k : Nat) : heapD l refm S L (k + 1) = if L k = true ∧ 2 ≤ ((l[k]?).map (·.op.heed refm)).getD 0 then (S (k + 1)).h else heapD l refm S L k := rfl

theorem valD_skip (L : Nat → Bool) (x i : Nat) : ∀ k, i ≤ k → (∀ j, i ≤ j → j < k → L j = true → (l[j]?).bind (·.dst) ≠ some x) → valD l S V L k x = valD l S V L i x
  | 0, h, _ => by have : i = 0 := by omega
                  subst this; rfl
  | k + 1, h, hn => by
    by_cases hi : i = k + 1
    · subst hi; rfl
    · rw [valD_succ, if_neg (fun ⟨h1, h2⟩ => hn k (by omega) (by omega) h1 h2)]
      exact valD_skip L x i k (by omega) (fun j h1 h2 => hn j h1 (by omega))

theorem valD_congr (L M : Nat → Bool) (x : Nat) : ∀ k, (∀ j, j < k → (l[j]?).bind (·.dst) = some x → L j = M j) → valD l S V L k x = valD l S V M k x
  | 0, _ => rfl
  | k + 1, h => by
    rw [valD_succ, valD_succ, valD_congr L M x k (fun j hj => h j (by omega))]
    by_cases hd : (l[k]?).bind (·.dst) = some x
    · rw [h k (by omega) hd]
    · rw [if_neg (fun ⟨_, h⟩ => hd h), if_neg (fun ⟨_, h⟩ => hd h)]

theorem heapD_skip (L : Nat → Bool) (i : Nat) : ∀ k, i ≤ k → (∀ j, i ≤ j → j < k → L j = true → ¬ 2 ≤ ((l[j]?).map (·.op.heed refm)).getD 0) → heapD l refm S L k = heapD l refm S L i
  | 0, h, _ => by have : i = 0 := by omega
                  subst this; rfl
  | k + 1, h, hn => by
    by_cases hi : i = k + 1
    · subst hi; rfl
    · rw [heapD_succ, if_neg (fun ⟨h1, h2⟩ => hn k (by omega) (by omega) h1 h2)]
      exact heapD_skip L i k (by omega) (fun j h1 h2 => hn j h1 (by omega))

theorem heapD_congr (L M : Nat → Bool) : ∀ k, (∀ j, j < k → 2 ≤ ((l[j]?).map (·.op.heed refm)).getD 0 → L j = M j) → heapD l refm S L k = heapD l refm S M k
  | 0, _ => rfl
  | k + 1, h => by
    rw [heapD_succ, heapD_succ, heapD_congr L M k (fun j hj => h j (by omega))]
    by_cases hd : 2 ≤ ((l[k]?).map (·.op.heed refm)).getD 0
    · rw [h k (by omega) hd]
    · rw [if_neg (fun ⟨_, h⟩ => hd h), if_neg (fun ⟨_, h⟩ => hd h)]

end draws


theorem wanted_congr {s s' : St} : ∀ (g : List (Nat × Bool)), (∀ p ∈ g, s.t.getD p.1 .junk = s'.t.getD p.1 .junk) → s.wanted g = s'.wanted g
  | [], _ => rfl
  | (n, b) :: l, h => by
    have hs : ∀ (l : List (Nat × Bool)), (∀ p ∈ l, s.t.getD p.1 .junk = s'.t.getD p.1 .junk) → skipped s l = skipped s' l := by
      intro l
      induction l with
      | nil => intro _; rfl
      | cons x l ih =>
        intro h
        cases l with
        | nil => simp only [skipped, h x (List.mem_cons_self ..)]
        | cons y l => exact ih fun p hp => h p (List.mem_cons_of_mem _ hp)
    unfold St.wanted
    rw [h (n, b) (List.mem_cons_self ..), wanted_congr l (fun p hp => h p (List.mem_cons_of_mem _ hp)), hs l (fun p hp => h p (List.mem_cons_of_mem _ hp))]

theorem tget_set (t : List AV) (d : Nat) (v : AV) (x : Nat) (hx : x < t.length) : (t.set d v).getD x .junk = if d = x then v else t.getD x .junk := by
  rw [List.getD_eq_getElem?_getD, List.getElem?_set]
  by_cases h : d = x
  · subst h; rw [if_pos rfl, if_pos rfl, if_pos hx]; rfl
  · rw [if_neg h, if_neg h, List.getD_eq_getElem?_getD]

theorem put_len (s : St) (d : Option Nat) (v : AV) : (s.put d v).t.length = s.t.length := by cases d <;> simp [St.put]
theorem put_h (s : St) (d : Option Nat) (v : AV) : (s.put d v).h = s.h := by cases d <;> rfl
theorem put_get (s : St) (d : Option Nat) (v : AV) (x : Nat) (hx : x < s.t.length) : (s.put d v).t.getD x .junk = if d = some x then v else s.t.getD x .junk := by
  cases d with
  | none => simp [St.put]
  | some d => simp only [St.put, tget_set _ _ _ _ hx, Option.some.injEq]

/-- How many have not come yet. -/
def left_ (L : Nat → Bool) : Nat → Nat
  | 0 => 0
  | k + 1 => left_ L k + if L k = true then 0 else 1

theorem left_le (L : Nat → Bool) : ∀ k, left_ L k ≤ k
  | 0 => Nat.le_refl _
  | k + 1 => by
    have := left_le L k
    unfold left_
    split <;> omega

theorem St.ext' {s s' : St} (hl : s.t.length = s'.t.length) (hg : ∀ x, x < s.t.length → s.t.getD x .junk = s'.t.getD x .junk) (hh : s.h = s'.h) : s = s' := by
  obtain ⟨t, h⟩ := s
  obtain ⟨t', h'⟩ := s'
  simp only at hl hg hh
  subst hh
  congr 1
  apply List.ext_getElem hl
  intro n h1 h2
  have := hg n h1
  rw [List.getD_eq_getElem?_getD, List.getElem?_eq_getElem h1, List.getD_eq_getElem?_getD, List.getElem?_eq_getElem h2] at this
  exact this

theorem left_same (L M : Nat → Bool) : ∀ k, (∀ j, j < k → L j = M j) → left_ L k = left_ M k
  | 0, _ => rfl
  | k + 1, h => by unfold left_; rw [left_same L M k (fun j hj => h j (by omega)), h k (by omega)]

theorem left_one (L M : Nat → Bool) (i : Nat) (hi : L i = false) (hm : M i = true) (h : ∀ j, j ≠ i → L j = M j) : ∀ k, i < k → left_ L k = left_ M k + 1
  | 0, hk => by omega
  | k + 1, hk => by
    unfold left_
    by_cases hik : i = k
    · subst hik
      rw [left_same L M i (fun j hj => h j (by omega)), hi, hm]
      simp
    · rw [left_one L M i hi hm h k (by omega), h k (fun e => hik e.symm)]
      omega

theorem left_pos (L : Nat → Bool) : ∀ k, left_ L k ≠ 0 → ∃ m, m < k ∧ L m = false ∧ ∀ j, j < m → L j = true
  | 0, h => absurd rfl h
  | k + 1, h => by
    by_cases h0 : left_ L k = 0
    · unfold left_ at h
      rw [h0] at h
      have all : ∀ k, left_ L k = 0 → ∀ j, j < k → L j = true := by
        intro k
        induction k with
        | zero => intro _ j hj; omega
        | succ k ih =>
          intro hk j hj
          unfold left_ at hk
          by_cases hjk : j = k
          · subst hjk
            cases hL : L j
            · rw [hL] at hk; simp at hk
            · rfl
          · exact ih (by omega) j (by omega)
      refine ⟨k, by omega, ?_, all k h0⟩
      cases hL : L k
      · rfl
      · rw [hL] at h; simp at h
    · obtain ⟨m, h1, h2, h3⟩ := left_pos L k h0
      exact ⟨m, by omega, h2, h3⟩

theorem left_none (L : Nat → Bool) : ∀ k, left_ L k = 0 → ∀ j, j < k → L j = true
  | 0, _, j, hj => by omega
  | k + 1, h, j, hj => by
    unfold left_ at h
    by_cases hjk : j = k
    · subst hjk
      cases hL : L j
      · rw [hL] at h; simp at h
      · rfl
    · exact left_none L k (by omega) j (by omega)

/-- Nothing listed without what it waits for. -/
def Closed (ops : Array Oper) (L : Nat → Bool) : Prop := ∀ j o, ops[j]? = some o → L j = true → ∀ e ∈ o.after, Region.binds .any e = true → L e.on = true

theorem behind_listed {ops : Array Oper} {L : Nat → Bool} (hc : Closed ops L) : ∀ (k j i : Nat), behind ops k j i = true → (∀ o, ops[j]? = some o → ∀ e ∈ o.after, Region.binds .any e = true → L e.on = true) → L i = true
  | 0, j, i, h, _ => by cases h
  | k + 1, j, i, h, hj => by
    unfold behind at h
    split at h
    case h_2 => cases h
    rename_i o ho
    obtain ⟨e, he, h⟩ := List.any_eq_true.1 h
    simp only [Bool.and_eq_true, Bool.or_eq_true, beq_iff_eq] at h
    obtain ⟨hb, h⟩ := h
    have hl := hj o ho e (by simpa using he) hb
    rcases h with h | h
    · rw [← h]; exact hl
    · exact behind_listed hc k e.on i h fun o' ho' e' he' hb' => hc e.on o' ho' hl e' he' hb'

theorem clash_dst {x y : AI} {d : Nat} (hx : x.dst = some d) (hy : y.dst = some d) : clash x y = true := by
  unfold clash; simp [hx, hy]
theorem clash_read {x y : AI} {d : Nat} (hx : x.dst = some d) (hy : d ∈ y.reads) : clash x y = true := by
  unfold clash; simp [hx, hy]
theorem clash_read' {x y : AI} {d : Nat} (hy : y.dst = some d) (hx : d ∈ x.reads) : clash x y = true := by
  unfold clash; simp [hy, hx]

theorem drawOk_spec {refm : Nat → Bool} {ops : Array Oper} {l : List AI} (h : drawOk refm ops l = true) {j : Nat} (hj : j < l.length) :
    (∀ o, ops[j]? = some o → ∀ e ∈ o.after, Region.binds .any e = true → e.on < j) ∧ ∀ i, i < j → ∀ x y, l[i]? = some x → l[j]? = some y → (clash x y = true ∨ 3 ≤ x.op.heed refm + y.op.heed refm) → behind ops 4 j i = true := by
  have h1 := List.all_eq_true.1 h j (List.mem_range.2 hj)
  simp only [Bool.and_eq_true] at h1
  obtain ⟨h1, h2⟩ := h1
  refine ⟨fun o ho e he hb => ?_, fun i hi x y hx hy hc => ?_⟩
  · rw [ho] at h1
    have := List.all_eq_true.1 h1 e (by simpa using he)
    simpa [hb] using this
  · have h3 := List.all_eq_true.1 h2 i (List.mem_range.2 hi)
    rw [hx, hy] at h3
    simp only [Bool.or_eq_true, Bool.and_eq_true, Bool.not_eq_true', decide_eq_true_eq] at h3
    rcases h3 with ⟨h3, h4⟩ | h3
    · rcases hc with hc | hc
      · rw [hc] at h3; cases h3
      · omega
    · exact h3

theorem draw_run {C : Oracle} (hC : Sound P C) (refm : Nat → Bool) {ops : Array Oper} {R : Type} {K : St → Option R} {r : R} {w0 : World} {μ0 : Mu} {A0 : Nat → Prop} {Q : Exit → Act → World → Prop}
    (hK : ∀ s a w μ A, K s = some r → Sim w0 μ0 A0 s a w μ A → Q .normal a w) (hdr : drawOk refm ops (ops.toList.map (compI P ops)) = true) {s : St} (h : evalOps C refm (ops.toList.map (compI P ops)) s K = some r) {a : Act} {w : World} {μ : Mu} {A : Nat → Prop} (hs : Sim w0 μ0 A0 s a w μ A) :
    wpAny P .any ops Q ops.size (Array.replicate ops.size false) a w := by
  obtain ⟨S, V, hS0, hKS, hS⟩ := evalOps_trace _ s h
  generalize hl : ops.toList.map (compI P ops) = l at *
  have hN : l.length = ops.size := by rw [← hl]; simp
  have hlen : ∀ k, k ≤ l.length → (S k).t.length = (S 0).t.length := by
    intro k
    induction k with
    | zero => intro _; rfl
    | succ k ih =>
      intro hk
      rcases hS k _ (List.getElem?_eq_getElem (by omega)) with ⟨_, h', _, h2⟩ | ⟨_, _, h2⟩
      · rw [h2, put_len]; exact ih (by omega)
      · rw [h2, put_len]; exact ih (by omega)
  have text : ∀ k, k ≤ l.length → (∀ x, x < (S 0).t.length → (S k).t.getD x .junk = valD l S V (fun _ => true) k x) ∧ (S k).h = heapD l refm S (fun _ => true) k := by
    intro k
    induction k with
    | zero => intro _; exact ⟨fun _ _ => rfl, rfl⟩
    | succ k ih =>
      intro hk
      obtain ⟨ih1, ih2⟩ := ih (by omega)
      have hk' : l[k]? = some l[k] := List.getElem?_eq_getElem (by omega)
      have hx : ∀ x, x < (S 0).t.length → (S (k + 1)).t.getD x .junk = if l[k].dst = some x then V k else (S k).t.getD x .junk := fun x hx => by
        rcases hS k _ hk' with ⟨_, h', _, h2⟩ | ⟨_, _, h2⟩
        · rw [h2, put_get _ _ _ _ (by show x < (S k).t.length; rw [hlen k (by omega)]; exact hx)]
        · rw [h2, put_get _ _ _ _ (by rw [hlen k (by omega)]; exact hx)]
      refine ⟨fun x hxl => ?_, ?_⟩
      · rw [hx x hxl, valD_succ, ih1 x hxl, hk']
        simp
      · rw [heapD_succ, ← ih2, hk']
        simp only [Option.map_some, Option.getD_some, true_and]
        by_cases h2 : 2 ≤ l[k].op.heed refm
        · rw [if_pos h2]
        · rw [if_neg h2]
          rcases hS k _ hk' with ⟨_, h', hst, h3⟩ | ⟨_, _, h3⟩
          · rw [h3, put_h]
            exact ((stepA_congr (s := S k) (s' := S k) (fun _ _ => rfl) (fun _ => rfl) hst).2 (by omega)).1
          · rw [h3, put_h]
  -- the state in which those in L have come
  let T : (Nat → Bool) → St := fun L => { t := (List.range (S 0).t.length).map (valD l S V L l.length), h := heapD l refm S L l.length }
  have Tget : ∀ L x, (T L).t.getD x .junk = if x < (S 0).t.length then valD l S V L l.length x else AV.junk := fun L x => by
    show ((List.range (S 0).t.length).map (valD l S V L l.length)).getD x AV.junk = _
    rw [List.getD_eq_getElem?_getD, List.getElem?_map]
    by_cases hx : x < (S 0).t.length
    · rw [List.getElem?_range hx, if_pos hx]; rfl
    · rw [List.getElem?_eq_none (by simp; omega), if_neg hx]; rfl
  have Tlen : ∀ L, (T L).t.length = (S 0).t.length := fun L => by simp [T]
  have done : ∀ (listed : Array Bool) (a : Act) (w : World) (μ : Mu) (A : Nat → Prop), listed.size = ops.size → Region.ready .any ops listed = [] → Sim w0 μ0 A0 (T fun j => listed.getD j false) a w μ A → Q .normal a w := by
    intro listed a w μ A hsz hr hsim
    have all : ∀ j, j < l.length → listed.getD j false = true := by
      apply left_none
      by_cases h0 : left_ (fun j => listed.getD j false) l.length = 0
      · exact h0
      · obtain ⟨m, hm, hm2, hm3⟩ := left_pos _ _ h0
        have hmem : m ∈ Region.ready .any ops listed := by
          unfold Region.ready
          have hml : m < ops.size := by omega
          refine List.mem_filter.2 ⟨List.mem_range.2 hml, ?_⟩
          have h1 : listed.getD m true = false := by
            have : m < listed.size := by omega
            simp only [Array.getD_eq_getD_getElem?, Array.getElem?_eq_getElem this, Option.getD_some] at hm2 ⊢
            exact hm2
          have ho : ops[m]? = some ops[m] := Array.getElem?_eq_getElem hml
          rw [h1, ho]
          simp only [Bool.not_false, Bool.true_and, Option.map_some, Option.getD_some]
          rw [Array.all_eq_true']
          intro e he
          cases hb : Region.binds .any e
          · rfl
          · have := hm3 e.on ((drawOk_spec hdr hm).1 _ ho e he hb)
            simp only [Bool.not_true, Bool.false_or]
            exact this
        rw [hr] at hmem
        cases hmem
    have hT : (T fun j => listed.getD j false) = S l.length := by
      refine St.ext' (by rw [Tlen, hlen _ (Nat.le_refl _)]) (fun x hx => ?_) ?_
      · rw [Tlen] at hx
        rw [Tget, if_pos hx, (text _ (Nat.le_refl _)).1 x hx]
        exact valD_congr _ _ _ _ _ _ _ (fun j hj _ => all j hj)
      · rw [(text _ (Nat.le_refl _)).2]
        exact heapD_congr _ _ _ _ _ _ (fun j hj _ => all j hj)
    rw [hT] at hsim
    exact hK _ a w μ A hKS hsim
  have main : ∀ (fuel : Nat) (listed : Array Bool) (a : Act) (w : World) (μ : Mu) (A : Nat → Prop), listed.size = ops.size → Closed ops (fun j => listed.getD j false) → left_ (fun j => listed.getD j false) l.length ≤ fuel → Sim w0 μ0 A0 (T fun j => listed.getD j false) a w μ A →
      wpAny P .any ops Q fuel listed a w := by
    intro fuel
    induction fuel with
    | zero =>
      intro listed a w μ A hsz hcl hle hsim
      have all := left_none _ _ (Nat.le_zero.1 hle)
      have hr : Region.ready .any ops listed = [] := by
        unfold Region.ready
        rw [List.filter_eq_nil_iff]
        intro j hj
        have hj' : j < ops.size := List.mem_range.1 hj
        have h1 : listed.getD j true = true := by
          have h2 := all j (by omega)
          have : j < listed.size := by omega
          simp only [Array.getD_eq_getD_getElem?, Array.getElem?_eq_getElem this, Option.getD_some] at h2 ⊢
          exact h2
        simp [h1]
      exact ⟨hr, done listed a w μ A hsz hr hsim⟩
    | succ fuel ih =>
      intro listed a w μ A hsz hcl hle hsim
      refine ⟨fun hr => done listed a w μ A hsz hr hsim, fun i hi => ?_⟩
      unfold Region.ready at hi
      obtain ⟨hir, hi⟩ := List.mem_filter.1 hi
      have hil : i < ops.size := List.mem_range.1 hir
      have ho : ops[i]? = some ops[i] := Array.getElem?_eq_getElem hil
      generalize ops[i] = o at ho
      rw [ho] at hi
      simp only [Bool.and_eq_true, Bool.not_eq_true', Option.map_some, Option.getD_some, Array.all_eq_true'] at hi
      obtain ⟨hi0, hedge⟩ := hi
      have hLi : listed.getD i false = false := by
        have : i < listed.size := by omega
        simp only [Array.getD_eq_getD_getElem?, Array.getElem?_eq_getElem this, Option.getD_some] at hi0 ⊢
        exact hi0
      have hedge' : ∀ e ∈ o.after, Region.binds .any e = true → listed.getD e.on false = true := fun e he hb => by
        have := hedge e he
        rw [hb] at this
        simpa using this
      have hx : l[i]? = some (compI P ops o) := by rw [← hl]; simp [ho]
      generalize hxx : compI P ops o = x at hx
      have before : ∀ j y, j < i → l[j]? = some y → (clash y x = true ∨ 3 ≤ y.op.heed refm + x.op.heed refm) → listed.getD j false = true := fun j y hj hy hc =>
        behind_listed (L := fun j => listed.getD j false) hcl 4 i j ((drawOk_spec hdr (by omega)).2 j hj y x hy hx hc) (fun o' ho' => by rw [ho] at ho'; cases ho'; exact hedge')
      have after : ∀ j y, i < j → l[j]? = some y → (clash x y = true ∨ 3 ≤ x.op.heed refm + y.op.heed refm) → listed.getD j false = true → False := fun j y hj hy hc hL => by
        have hjl : j < l.length := (List.getElem?_eq_some_iff.1 hy).1
        have := behind_listed (L := fun j => listed.getD j false) hcl 4 j i ((drawOk_spec hdr hjl).2 i hj x y hx hy hc) (fun o' ho' => hcl j o' ho' hL)
        rw [hLi] at this
        cases this
      have hA : ∀ n ∈ x.reads, (S i).t.getD n .junk = (T fun j => listed.getD j false).t.getD n .junk := by
        intro n hn
        rw [Tget]
        by_cases hnl : n < (S 0).t.length
        · rw [if_pos hnl, (text i (by omega)).1 n hnl, valD_skip l S V _ n i l.length (by omega)]
          · refine valD_congr _ _ _ _ _ _ _ fun j hj hd => ?_
            cases hy : l[j]? with
            | none => rw [hy] at hd; cases hd
            | some y =>
              rw [hy] at hd
              exact (before j y hj hy (.inl (clash_read hd hn))).symm
          · intro j hij hjl hL hd
            by_cases hji : j = i
            · subst hji; rw [hLi] at hL; cases hL
            · cases hy : l[j]? with
              | none => rw [hy] at hd; cases hd
              | some y =>
                rw [hy] at hd
                exact after j y (by omega) hy (.inl (clash_read' hd hn)) hL
        · rw [if_neg hnl, List.getD_eq_getElem?_getD, List.getElem?_eq_none (by rw [hlen i (by omega)]; omega)]
          rfl
      have hB : 1 ≤ x.op.heed refm → (S i).h = (T fun j => listed.getD j false).h := by
        intro h1
        show _ = heapD l refm S _ l.length
        rw [(text i (by omega)).2, heapD_skip l refm S _ i l.length (by omega)]
        · refine heapD_congr _ _ _ _ _ _ fun j hj hd => ?_
          have hy : l[j]? = some l[j] := List.getElem?_eq_getElem (by omega)
          rw [hy] at hd
          simp only [Option.map_some, Option.getD_some] at hd
          exact (before j _ hj hy (.inr (by omega))).symm
        · intro j hij hjl hL hd
          by_cases hji : j = i
          · subst hji; rw [hLi] at hL; cases hL
          · have hy : l[j]? = some l[j] := List.getElem?_eq_getElem (by omega)
            rw [hy] at hd
            simp only [Option.map_some, Option.getD_some] at hd
            exact after j _ (by omega) hy (.inr (by omega)) hL
      have hL' : ∀ j, (listed.setIfInBounds i true).getD j false = if j = i then true else listed.getD j false := by
        intro j
        have : i < listed.size := by omega
        simp only [Array.getD_eq_getD_getElem?, Array.getElem?_setIfInBounds]
        by_cases hji : j = i
        · subst hji; simp [this]
        · rw [if_neg (fun e => hji e.symm), if_neg hji]
      have hC' : (T fun j => (listed.setIfInBounds i true).getD j false) = ({ (T fun j => listed.getD j false) with h := if 2 ≤ x.op.heed refm then (S (i + 1)).h else (T fun j => listed.getD j false).h } : St).put x.dst (V i) := by
        refine St.ext' (by rw [put_len, Tlen]; exact (Tlen _).symm) (fun n hn => ?_) ?_
        · rw [Tlen] at hn
          rw [put_get _ _ _ _ (by show n < (T _).t.length; rw [Tlen]; exact hn)]
          show _ = if x.dst = some n then V i else (T fun j => listed.getD j false).t.getD n .junk
          rw [Tget, Tget, if_pos hn, if_pos hn]
          by_cases hd : x.dst = some n
          · rw [if_pos hd, valD_skip l S V _ n (i + 1) l.length (by omega), valD_succ, if_pos]
            · refine ⟨by rw [hL', if_pos rfl], by rw [hx]; exact hd⟩
            · intro j hij hjl hL hdj
              rw [hL', if_neg (by omega)] at hL
              cases hy : l[j]? with
              | none => rw [hy] at hdj; cases hdj
              | some y =>
                rw [hy] at hdj
                exact after j y (by omega) hy (.inl (clash_dst hd hdj)) hL
          · rw [if_neg hd]
            refine valD_congr _ _ _ _ _ _ _ fun j hj hdj => ?_
            rw [hL', if_neg]
            rintro rfl
            rw [hx] at hdj
            exact hd hdj
        · rw [put_h]
          show heapD l refm S _ l.length = if _ then _ else heapD l refm S _ l.length
          by_cases h2 : 2 ≤ x.op.heed refm
          · rw [if_pos h2, heapD_skip l refm S _ (i + 1) l.length (by omega), heapD_succ, if_pos]
            · refine ⟨by rw [hL', if_pos rfl], by rw [hx]; exact h2⟩
            · intro j hij hjl hL hd
              rw [hL', if_neg (by omega)] at hL
              have hy : l[j]? = some l[j] := List.getElem?_eq_getElem (by omega)
              rw [hy] at hd
              simp only [Option.map_some, Option.getD_some] at hd
              exact after j _ (by omega) hy (.inr (by omega)) hL
          · rw [if_neg h2]
            refine heapD_congr _ _ _ _ _ _ fun j hj hd => ?_
            rw [hL', if_neg]
            rintro rfl
            rw [hx] at hd
            exact h2 hd
      have hcl' : Closed ops fun j => (listed.setIfInBounds i true).getD j false := by
        intro j o' ho' hj e he hb
        simp only [hL'] at hj ⊢
        by_cases hji : j = i
        · subst hji
          rw [ho] at ho'
          cases ho'
          rw [hedge' e he hb]; simp
        · rw [if_neg hji] at hj
          have := hcl j o' ho' hj e he hb
          simp only at this
          rw [this]; simp
      have hle' : left_ (fun j => (listed.setIfInBounds i true).getD j false) l.length ≤ fuel := by
        have := left_one (fun j => listed.getD j false) (fun j => (listed.setIfInBounds i true).getD j false) i hLi (by simp only [hL']; simp) (fun j hj => by simp only [hL']; rw [if_neg hj]) l.length (by omega)
        omega
      unfold wpOp
      simp only [ho]
      have hrd : ∀ p ∈ x.guard, (S i).t.getD p.1 .junk = (T fun j => listed.getD j false).t.getD p.1 .junk := fun p hp => hA p.1 (by
        unfold AI.reads
        exact List.mem_append_right _ (List.mem_map.2 ⟨p, hp, rfl⟩))
      rcases hS i x hx with ⟨hw, h', hst, hS1⟩ | ⟨hw, hV, hS1⟩
      · have hstT : stepA C refm x (T fun j => listed.getD j false) = some (V i, if 2 ≤ x.op.heed refm then (S (i + 1)).h else (T fun j => listed.getD j false).h) := by
          have hcg := stepA_congr hA hB hst
          by_cases h2 : 2 ≤ x.op.heed refm
          · rw [if_pos h2, hS1, put_h]
            exact hcg.1 h2
          · rw [if_neg h2]
            exact (hcg.2 (by omega)).2
        rw [wanted_congr _ hrd] at hw
        subst hxx
        obtain ⟨g, hg, hwg⟩ := compI_guard' hw (fun _ => ⟨_, hstT⟩)
        have hd : (compI P ops o).dst = o.dst := by unfold compI; rw [hg]
        rw [wanted_eq hsim.t hg hwg, if_pos rfl]
        refine .inl (step_wp hC refm hstT hsim.h hsim.t fun v w' μ' A' h1 h2 h3 => ?_)
        refine ih _ _ w' μ' A' (by simpa using hsz) hcl' hle' ?_
        rw [hC', hd]
        exact hsim.put h1 h2 h3 o.dst
      · rw [wanted_congr _ hrd] at hw
        subst hxx
        obtain ⟨g, hg, hwg⟩ := compI_guard' (C := C) (refm := refm) hw (fun e => by cases e)
        have hd : (compI P ops o).dst = o.dst := by unfold compI; rw [hg]
        rw [wanted_eq hsim.t hg hwg]
        simp only [Bool.false_eq_true, if_false]
        refine ih _ _ w μ A (by simpa using hsz) hcl' hle' ?_
        have hh : (if 2 ≤ (compI P ops o).op.heed refm then (S (i + 1)).h else (T fun j => listed.getD j false).h) = (T fun j => listed.getD j false).h := by
          by_cases h2 : 2 ≤ (compI P ops o).op.heed refm
          · rw [if_pos h2, hS1, put_h]
            exact hB (by omega)
          · rw [if_neg h2]
        rw [hC', hd, hh, hV]
        exact hsim.put hsim.h .undef (Move.refl _ _ _) o.dst
  have hinit : (T fun j => (Array.replicate ops.size false).getD j false) = s := by
    have hf : ∀ j, (Array.replicate ops.size false).getD j false = false := fun j => by
      simp only [Array.getD_eq_getD_getElem?, Array.getElem?_replicate]
      split <;> rfl
    rw [← hS0]
    refine St.ext' (Tlen _) (fun x hx => ?_) ?_
    · rw [Tlen] at hx
      rw [Tget, if_pos hx, valD_skip l S V _ x 0 l.length (by omega)]
      · rfl
      · intro j _ _ hL
        rw [hf] at hL; cases hL
    · show heapD l refm S _ l.length = _
      rw [heapD_skip l refm S _ 0 l.length (by omega)]
      · rfl
      · intro j _ _ hL
        rw [hf] at hL; cases hL
  have hf : ∀ j, (Array.replicate ops.size false).getD j false = false := fun j => by
    simp only [Array.getD_eq_getD_getElem?, Array.getElem?_replicate]
    split <;> rfl
  refine main ops.size _ a w μ A (by simp) ?_ ?_ (by rw [hinit]; exact hs)
  · intro j o ho hL
    simp only [hf] at hL
    cases hL
  · rw [← hN]
    exact left_le _ _


/-! ### Code -/

def exOf : Ex → Exit
  | .normal => .normal
  | .exit id => .exit id
  | .ret => .ret

theorem keep_len (l : List Nat) : ∀ (i : Nat) (t : List AV), (keep l i t).length = t.length
  | _, [] => rfl
  | i, x :: t => by unfold keep; simp [keep_len l (i + 1) t]

theorem keep_get (l : List Nat) : ∀ (i : Nat) (t : List AV) (j : Nat) (c : AV), (keep l i t)[j]? = some c → c = .junk ∨ t[j]? = some c
  | _, [], j, c, h => by unfold keep at h; simp at h
  | i, x :: t, j, c, h => by
    unfold keep at h
    cases j with
    | zero =>
      simp only [List.getElem?_cons_zero, Option.some.injEq] at h
      cases hc : l.contains i
      · rw [hc] at h; exact .inl h.symm
      · rw [hc] at h; exact .inr (by simpa using h)
    | succ j => exact keep_get l (i + 1) t j c (by simpa using h)

theorem Sim.kill {w0 : World} {μ0 : Mu} {A0 : Nat → Prop} {s : St} {a : Act} {w : World} {μ : Mu} {A : Nat → Prop} (hs : Sim w0 μ0 A0 s a w μ A) (l : List Nat) : Sim w0 μ0 A0 (kill l s) a w μ A where
  h := hs.h
  t := by
    refine ⟨by show _ = (keep l 0 s.t).length; rw [keep_len]; exact hs.t.1, fun j c x hj hx => ?_⟩
    rcases keep_get l 0 s.t j c hj with rfl | h
    · exact .junk _
    · exact hs.t.2 j c x h hx
  m := hs.m
  d := hs.d

theorem least {p : Nat → Prop} (h : ∃ k, p k) : ∃ k, p k ∧ ∀ j, p j → k ≤ j := by
  obtain ⟨k, hk⟩ := h
  induction k using Nat.strongRecOn with
  | _ k ih =>
    by_cases hj : ∃ j, j < k ∧ p j
    · obtain ⟨j, h1, h2⟩ := hj
      exact ih j h1 h2
    · exact ⟨k, hk, fun j hp => by
        rcases Nat.lt_or_ge j k with h | h
        · exact absurd ⟨j, h, hp⟩ hj
        · exact h⟩

theorem region_run (hm : P.follows .mixedOrders = true) {C : Oracle} (hC : Sound P C) (refm : Nat → Bool) {id : Nat} {ops : Array Oper} {draw : Bool} {It : Iter} {R : Type} {K : Ex → St → Option R} {r : R} {w0 : World} {μ0 : Mu} {A0 : Nat → Prop} {Q : Exit → Act → World → Prop}
    (hK : ∀ e s a w μ A, K e s = some r → Sim w0 μ0 A0 s a w μ A → Q (exOf e) a w) {s : St} (h : evalC C refm It (compR P refm ops draw) s K = some r) {a : Act} {w : World} {μ : Mu} {A : Nat → Prop} (hs : Sim w0 μ0 A0 s a w μ A) :
    (Code.region id ops draw).wp P Q a w := by
  unfold compR at h
  cases draw
  · simp only [cond_false] at h
    unfold evalC at h
    refine wp_region ?_
    rw [List.range_eq_range']
    have := ops_run (P := P) hC refm (ops := ops) (Q := Q) (K := K .normal) (fun s a w μ A => hK .normal s a w μ A) ops.toList 0 s a w μ A (fun j => by simp) hs h
    simpa using this
  · simp only [cond_true] at h
    cases hd : drawOk refm ops (ops.toList.map (compI P ops))
    · rw [hd] at h; simp only [cond_false] at h; unfold evalC at h; cases h
    · rw [hd] at h
      simp only [cond_true] at h
      unfold evalC at h
      refine wp_region_any hm ?_
      obtain ⟨mv, hh⟩ := draw_step hs.h (w.drawn + 1)
      exact draw_run hC refm (K := K .normal) (fun s a w μ A => hK .normal s a w μ A) hd h (w0 := w0) (μ0 := μ0) (A0 := A0) (μ := μ) (A := A)
        ⟨hh, RepL.step hs.t hs.h mv, hs.m.trans mv, hs.d⟩

theorem code_run (hm : P.follows .mixedOrders = true) {C : Oracle} (hC : Sound P C) (refm : Nat → Bool) (n : Nat) {w0 : World} {μ0 : Mu} {A0 : Nat → Prop} : ∀ (c : Code) (d : List (List Nat)) {R : Type} (s : St) (K : Ex → St → Option R) (r : R) (Q : Exit → Act → World → Prop),
    (∀ e s a w μ A, K e s = some r → Sim w0 μ0 A0 s a w μ A → Q (exOf e) a w) → evalC C refm (iter n) (compC P refm c d).1 s K = some r → ∀ (a : Act) (w : World) (μ : Mu) (A : Nat → Prop), Sim w0 μ0 A0 s a w μ A → c.wp P Q a w := by
  intro c
  induction c with
  | skip => intro d R s K r Q hK h a w μ A hs; exact wp_skip (hK .normal s a w μ A h hs)
  | region id ops draw => intro d R s K r Q hK h a w μ A hs; exact region_run hm hC refm hK h hs
  | seq x y ihx ihy =>
    intro d R s K r Q hK h a w μ A hs
    refine wp_seq (ihx d s _ r _ (fun e s a w μ A h hs => ?_) h a w μ A hs)
    cases e
    · exact ihy _ s K r Q hK h a w μ A hs
    · exact hK (.exit _) s a w μ A h hs
    · exact hK .ret s a w μ A h hs
  | cond c x y ihx ihy =>
    intro d R s K r Q hK h a w μ A hs
    unfold compC at h
    cases hc : opd c with
    | none => simp only [hc] at h; unfold evalC at h; cases h
    | some c' =>
      simp only [hc] at h
      unfold evalC condK at h
      split at h
      · rename_i t ht
        have hr := opd_rep hs.t hc
        rw [ht] at hr
        refine wp_cond hr.bool_inv ?_
        cases t
        · exact ihy _ s K r Q hK h a w μ A hs
        · exact ihx _ s K r Q hK h a w μ A hs
      · cases h
  | block id x ihx =>
    intro d R s K r Q hK h a w μ A hs
    refine wp_block (ihx d s _ r _ (fun e s a w μ A h hs => ?_) h a w μ A hs)
    cases e with
    | normal => exact hK .normal s a w μ A h hs
    | ret => exact hK .ret s a w μ A h hs
    | exit id' =>
      simp only [blockK] at h
      show (if id' = id then Q .normal a w else Q (.exit id') a w)
      by_cases he : id' = id
      · subst he
        simp only [beq_self_eq_true, cond_true] at h
        rw [if_pos rfl]
        exact hK .normal s a w μ A h hs
      · rw [if_neg he]
        have : (id' == id) = false := by simpa using he
        rw [this] at h
        exact hK (.exit id') s a w μ A h hs
  | loop x ihx =>
    intro d R s K r Q hK h a w μ A hs
    unfold compC at h
    simp only at h
    unfold evalC at h
    simp only [Option.bind_eq_some_iff] at h
    generalize hg : (fun s => evalC C refm (iter n) (compC P refm x d.tail).1 s (roundEnd (d.headD []))) = g at h
    obtain ⟨⟨e1, s1⟩, hit, hKr⟩ := h
    let p : Act → World → Nat → Prop := fun a w k => ∃ s μ A, Sim w0 μ0 A0 s a w μ A ∧ iter k g s = some (e1, s1)
    have hex : ∃ m : Act → World → Nat, ∀ a w, (∃ k, p a w k) → p a w (m a w) ∧ ∀ j, p a w j → m a w ≤ j := by
      have : ∀ q : Act × World, ∃ k, (∃ k, p q.1 q.2 k) → p q.1 q.2 k ∧ ∀ j, p q.1 q.2 j → k ≤ j := fun q => by
        by_cases hq : ∃ k, p q.1 q.2 k
        · obtain ⟨k, h1, h2⟩ := least hq
          exact ⟨k, fun _ => ⟨h1, h2⟩⟩
        · exact ⟨0, fun h => absurd h hq⟩
      exact ⟨fun a w => Classical.choose (this (a, w)), fun a w => Classical.choose_spec (this (a, w))⟩
    obtain ⟨m, hmm⟩ := hex
    refine wp_loop (fun a w => ∃ k, p a w k) m ⟨n, kill (d.headD []) s, μ, A, hs.kill _, hit⟩ ?_
    intro a w hI
    obtain ⟨⟨s2, μ2, A2, hs2, hit2⟩, _⟩ := hmm a w hI
    generalize m a w = k at hit2
    cases k with
    | zero => cases hit2
    | succ k =>
      unfold iter at hit2
      cases hgs : g s2 with
      | none => rw [hgs] at hit2; cases hit2
      | some q =>
        obtain ⟨e', s'⟩ := q
        rw [hgs] at hit2
        rw [← hg] at hgs
        refine ihx d.tail s2 _ (e', s') _ (fun e s a w μ A h hs => ?_) hgs a w μ2 A2 hs2
        cases e with
        | normal =>
          cases h
          have hp : p a w k := ⟨_, μ, A, hs.kill _, hit2⟩
          exact ⟨⟨k, hp⟩, Nat.lt_succ_of_le ((hmm a w ⟨k, hp⟩).2 k hp)⟩
        | exit id =>
          cases h
          cases hit2
          exact hK (.exit id) _ _ _ _ _ hKr hs
        | ret =>
          cases h
          cases hit2
          exact hK .ret _ _ _ _ _ hKr hs
  | exit id => intro d R s K r Q hK h a w μ A hs; exact wp_exit (hK (.exit id) s a w μ A h hs)
  | ret => intro d R s K r Q hK h a w μ A hs; exact wp_ret (hK .ret s a w μ A h hs)
  | _ => intro d R s K r Q hK h a w μ A hs; exact nomatch h


/-! ### Functions -/

theorem opLoad_addr {t : TypeId} {g : Option Nat} (h : agT P t = some g) {hp : Heap} (hh : HRep w μ A hp) {c av : AV} {v : Value} (hr : Rep w μ A c v) (hv : opLoad hp g c = some av) :
    ∃ a u, v = .pointer (some a) ∧ Rep w μ A av u ∧ (loadVar t a).run P w = .ok u w := by
  cases c <;> try (simp [opLoad] at hv; done)
  case ip cs =>
    cases hr with
    | ip _ a val h0 h1 h2 h3 =>
      obtain ⟨u, hu, hrun⟩ := loadVar_run h h2 h3 hv
      exact ⟨a, u, rfl, hu, hrun⟩
  case rp id off =>
    simp only [opLoad, Option.bind_eq_some_iff] at hv
    obtain ⟨cs, hl, hv⟩ := hv
    cases hr with
    | rp _ _ x h0 h1 =>
      obtain ⟨b, r, hm, hs, val, h2, h3⟩ := blk_cells hh hl
      obtain ⟨d2, d3⟩ := drop_val (fun _ => hs) off h2 h3
      obtain ⟨u, hu, hrun⟩ := loadVar_run h d2 d3 hv
      rw [h1 b r hm]
      exact ⟨_, u, rfl, hu, hrun⟩

theorem ress_run {s : St} {tmps : Array Value} {f : ResultVar → Sem Value} (hf1 : ∀ t, f (.tmp t) = pure (tmps.getD t undef)) (hf2 : ∀ a t, f (.cell a t) = asAddr (tmps.getD a undef) >>= loadVar t) (hh : HRep w μ A s.h) (ht : Tmps w μ A s.t tmps) : ∀ (l : List ResultVar) (rs : List ARes) (vs : List AV), l.mapM (compRes P) = some rs → readRess s rs = some vs →
    ∃ us, RepL w μ A vs us ∧ (l.mapM f).run P w = .ok us w
  | [], rs, vs, h, hv => by
    simp at h
    subst h
    cases hv
    exact ⟨[], RepL.nil _ _ _, rfl⟩
  | x :: l, rs, vs, h, hv => by
    rw [List.mapM_cons] at h
    simp only [Option.bind_eq_bind, Option.bind_eq_some_iff] at h
    obtain ⟨r, hr, rs', hrs, he⟩ := h
    cases he
    simp only [readRess, Option.bind_eq_some_iff] at hv
    obtain ⟨v, hv1, vs', hv2, he⟩ := hv
    cases he
    obtain ⟨us, hus, hrun⟩ := ress_run hf1 hf2 hh ht l rs' vs' hrs hv2
    have hx : ∃ u, Rep w μ A v u ∧ (f x).run P w = .ok u w := by
      cases x with
      | tmp t =>
        cases hr
        cases hv1
        exact ⟨_, Tmps.get (a := ⟨tmps, []⟩) ht t, by rw [hf1]; rfl⟩
      | cell a t =>
        simp only [compRes, Option.map_eq_some_iff] at hr
        obtain ⟨g, hg, rfl⟩ := hr
        obtain ⟨ad, u, he, hu, hl⟩ := opLoad_addr hg hh (Tmps.get (a := ⟨tmps, []⟩) ht a) hv1
        refine ⟨u, hu, ?_⟩
        rw [hf2]
        simp only [Sem.run_bind]
        simp only at he
        rw [he]
        simp only [asAddr, Sem.run_pure, Result.andThen_ok, hl]
    obtain ⟨u, hu, hur⟩ := hx
    refine ⟨u :: us, RepL.cons hu hus, ?_⟩
    rw [List.mapM_cons]
    simp only [Sem.run_bind, hur, Result.andThen_ok, hrun, Sem.run_pure]

theorem results_run {s : St} {tmps : Array Value} (hh : HRep w μ A s.h) (ht : Tmps w μ A s.t tmps) {fn : Func} {rs : List ARes} (hrs : fn.results.toList.mapM (compRes P) = some rs) {v : AV} (hv : results s rs = some v) :
    ∃ u, (Go.results fn tmps).run P w = .ok u w ∧ Rep w μ A v u := by
  simp only [results, Option.map_eq_some_iff] at hv
  obtain ⟨vs, hvs, rfl⟩ := hv
  have h1 : ∃ us, RepL w μ A vs us ∧ (Go.results fn tmps).run P w = .ok (if h : us.toArray.size = 1 then us.toArray[0] else .tuple us.toArray) w := by
    unfold Go.results
    rw [Array.mapM_eq_mapM_toList]
    have key : ∀ f : ResultVar → Sem Value, (∀ t, f (.tmp t) = pure (tmps.getD t undef)) → (∀ a t, f (.cell a t) = asAddr (tmps.getD a undef) >>= loadVar t) →
        ∃ us, RepL w μ A vs us ∧ ((List.toArray <$> fn.results.toList.mapM f) >>= fun vs => (pure (if h : vs.size = 1 then vs[0] else .tuple vs) : Sem Value)).run P w = .ok (if h : us.toArray.size = 1 then us.toArray[0] else .tuple us.toArray) w := by
      intro f h1 h2
      obtain ⟨us, hus, hrun⟩ := ress_run (P := P) h1 h2 hh ht _ rs vs hrs hvs
      refine ⟨us, hus, ?_⟩
      simp only [Sem.run_bind, Sem.run_map]
      rw [hrun]
      simp only [Result.andThen_ok, Sem.run_pure]
    exact key _ (by intros; rfl) (by intros; rfl)
  obtain ⟨us, hus, h1⟩ := h1
  refine ⟨_, h1, ?_⟩
  have hl := hus.1
  match vs, us, hus, hl with
  | [], [], hus, _ => exact .tup _ _ hus.1 hus.2
  | [v], [u], hus, _ => exact hus.head
  | v1 :: v2 :: vs, u1 :: u2 :: us, hus, _ =>
    rw [dif_neg (by simp)]
    exact .tup _ _ hus.1 hus.2

/-- Every bound on rounds and calls. -/
theorem callK_sound (hm : P.follows .mixedOrders = true) (live : Nat → List (List Nat)) (refm : Nat → Bool) : ∀ k, Sound P (callK (prog P live refm) k)
  | 0 => fun f args h v h' hc => by cases hc
  | k + 1 => fun f args h v h' hc => by
    have ih := callK_sound hm live refm k
    unfold callK at hc
    simp only [Option.bind_eq_some_iff] at hc
    obtain ⟨F, hF, hev⟩ := hc
    simp only [prog, Option.bind_eq_some_iff] at hF
    obtain ⟨fn, hfn, hF⟩ := hF
    unfold compF at hF
    split at hF
    · cases hF
    rename_i hname
    simp only [Option.bind_eq_some_iff, Option.map_eq_some_iff] at hF
    obtain ⟨c, hbody, rs, hrs, rfl⟩ := hF
    refine ⟨⟨fn, c, hfn, hbody, by simpa using hname⟩, fun w μ A vals hh hr => ?_⟩
    refine calls_of_wp hfn hbody ?_
    unfold evalF at hev
    have hsim : Sim w μ A ⟨entry { nt := fn.ntmps, np := fn.params.size, res := rs, code := (compC P refm c (live f)).1 } args, h⟩ { tmps := vals.toArray ++ Array.replicate (fn.ntmps - vals.toArray.size) undef, defers := [] } w μ A := by
      refine ⟨hh, ?_, Move.refl _ _ _, rfl⟩
      show RepL w μ A (args ++ List.replicate (fn.ntmps - args.length) .undef) (vals.toArray ++ Array.replicate (fn.ntmps - vals.toArray.size) undef).toList
      have : (vals.toArray ++ Array.replicate (fn.ntmps - vals.toArray.size) undef).toList = vals ++ List.replicate (fn.ntmps - args.length) undef := by
        simp [hr.1]
      rw [this]
      refine hr.append ⟨by simp, fun j c v hj hv => ?_⟩
      rw [List.getElem?_replicate] at hj hv
      split at hj
      · rename_i hlt
        rw [if_pos hlt] at hv
        cases hj; cases hv
        exact .undef
      · cases hj
    refine code_run hm ih refm k c (live f) _ _ (v, h') _ (fun e s a w' μ' A' hK hs => ?_) hev _ _ _ _ hsim
    have fin : (results s rs).bind (fun v => some (v, s.h)) = some (v, h') → (a.defers = [] ∧ ∃ u, (Go.results fn a.tmps).run P w' = .ok u w' ∧ (∃ u' μ'' A'', Ending.returned u = .returned u' ∧ HRep w' μ'' A'' h' ∧ Rep w' μ'' A'' v u' ∧ Move w μ A w' μ'' A'')) := by
      intro hf
      simp only [Option.bind_eq_some_iff, Option.some.injEq, Prod.mk.injEq] at hf
      obtain ⟨v', hv', rfl, rfl⟩ := hf
      obtain ⟨u, hu, hru⟩ := results_run hs.h hs.t hrs hv'
      exact ⟨hs.d, u, hu, u, μ', A', rfl, hs.h, hru, hs.m⟩
    cases e with
    | normal => exact fin hK
    | exit id => cases hK
    | ret => exact fin hK

/-- What the abstract machine says of a call by value, the machine does: nothing that was there is changed. -/
theorem cv_calls (hm : P.follows .mixedOrders = true) {live : Nat → List (List Nat)} {refm : Nat → Bool} {f : Nat} {args : List AV} {vals : List Value} {A : Nat → Prop} {v : AV} (hv : cv (prog P live refm) f args = some v) (hA : ∀ b, A b → b < w.heap.size) (hr : RepL w [] A args vals) :
    Calls P f vals.toArray w fun e w' => ∃ u A', e = .returned u ∧ Rep w' [] A' v u ∧ w'.os = w.os ∧ w'.tape = w.tape ∧ w'.output = w.output ∧ w.heap.size ≤ w'.heap.size ∧ (∀ b, b < w.heap.size → w'.heap[b]? = w.heap[b]?) ∧ (∀ b, A' b → b < w'.heap.size) := by
  unfold cv at hv
  simp only [Option.bind_eq_some_iff] at hv
  obtain ⟨⟨v0, h0⟩, hc, hf⟩ := hv
  obtain ⟨n, hn⟩ := callW_iff.1 hc
  obtain ⟨_, hcall⟩ := callK_sound hm live refm n f args [] v0 h0 hn
  refine (hcall w [] A vals (HRep.empty w hA) hr).mono ?_
  rintro e w' ⟨u, μ', A', rfl, hh', hru, mv⟩
  have hfz := freezeN_rep hh' (fun b => A' b ∨ Liv μ' b) (fun b h => .inl h) (fun b h => .inr h) 12 v0 v u hf hru
  refine ⟨u, _, rfl, hfz.move (fun b _ => rfl) (fun b h => h) (by simp) (fun id x hid => by simp at hid), mv.os, mv.tape, mv.output, mv.size, fun b hb => mv.keep b hb fun ⟨id, a, r, hm, _⟩ => by simp at hm, fun b hb => hb.elim (hh'.old b) (liv_lt hh')⟩

end Go.Proofs.Ytlpimdkgboabcaa.Am
