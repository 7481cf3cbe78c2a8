import Derived.Test.YtiblnpnfaadmcaaGreatAmMem
import Derived.Orders
import Derived.OrdersIn
import Derived.RangeFuncSeq
import Derived.RangeFuncRecord
import Derived.RangeFuncBound
import Derived.Defers
import Derived.Scope
/- What the abstract machine tells of a call, the machine does. -/
set_option linter.unusedVariables false
set_option maxRecDepth 10000
set_option linter.unusedSectionVars false
set_option linter.unusedSimpArgs false
namespace Go.Proofs.YtiblnpnfaadmcaaGreat.Am
open Go

variable [Gl] {P : Program} {w : World} {μ : Mu} {A : Nat → Prop}

def DfrOk (d : Deferred) : Prop := ∃ f g caps, Gl.dead f = true ∧ d.target = .fn (.func f) #[] ∧ d.args = #[.func (.func g) #[] caps]

def MarkOk (w0 w : World) (μ : Mu) (A : Nat → Prop) (D : Nat) : Prop := w.heap[D]? = some (.deferred (some [])) ∧ w0.heap.size ≤ D ∧ ¬ A D ∧ ¬ Liv μ D
def Dfs (w0 w : World) (μ : Mu) (A : Nat → Prop) : List Deferred → Prop
 | [] => True
 | d :: ds => (DfrOk d ∨ ∃ D, d.target = .collected D ∧ MarkOk w0 w μ A D ∧ ∀ e ∈ ds, e.target ≠ .collected D) ∧ Dfs w0 w μ A ds
theorem MarkOk.step {w0 w' : World} {μ' : Mu} {A' : Nat → Prop} {D : Nat} (h : MarkOk w0 w μ A D) (m : Move w μ A w' μ' A') : MarkOk w0 w' μ' A' D := by
 obtain ⟨h1, h2, h3, h4⟩ := h
 have hlt := (Array.getElem?_eq_some_iff.1 h1).1
 refine ⟨by rw [m.keep D hlt h4]; exact h1, h2, fun h => ?_, fun h => ?_⟩
 ·rcases m.new D h with h | h | h
  ·exact h3 h
  ·exact h4 h
  ·omega
 ·rcases m.liv D h with h | h
  ·exact h4 h
  ·omega
theorem Dfs.step {w0 w' : World} {μ' : Mu} {A' : Nat → Prop} (m : Move w μ A w' μ' A') : ∀ {ds : List Deferred}, Dfs w0 w μ A ds → Dfs w0 w' μ' A' ds
 | [], _ => trivial
 | d :: ds, ⟨h, hs⟩ => ⟨h.imp id fun ⟨D, h1, h2, h3⟩ => ⟨D, h1, h2.step m, h3⟩, hs.step m⟩

def Enters (P : Program) (f : Nat) : Prop := ∃ fn c, P.funcs[f]? = some fn ∧ fn.body = some c ∧ (fn.name == "runtime.NumGoroutine") = false

def zy02 (P : Program) : Prop := ∀ f, Gl.dead f = true → Enters P f ∧ ∀ g caps w, CallsD P f #[.func (.func g) #[] caps] .returning w fun e u' w' => (∃ v, e = .returned v) ∧ u' = .returning ∧ ∃ n, w' = { w with drawn := n }

def Sound (P : Program) (C : Oracle) : Prop := ∀ f args h v h', C f args h = some (v, h') → f < yb → Enters P f ∧ ∀ w μ A vals, HRep w μ A h → RepL w μ A args vals →
 Calls P f vals.toArray w fun e w' => ∃ u μ' A', e = .returned u ∧ HRep w' μ' A' h' ∧ Rep w' μ' A' v u ∧ Move w μ A w' μ' A'

def zy08 (P : Program) (w0 : World) (μ0 : Mu) (A0 : Nat → Prop) (C : Oracle) : Prop := ∀ id args h v h', C (yb + id) args h = some (v, h') → (live h id).isSome = true ∧ ∀ w μ A vals b r, Move w0 μ0 A0 w μ A → HRep w μ A h → RepL w μ A args vals → μ[id]? = some (some (b, r)) →
 YieldAt Fence.wide 0 P b.block vals.toArray w fun e w' => ∃ u μ' A', e = .returned u ∧ HRep w' μ' A' h' ∧ Rep w' μ' A' v u ∧ Move w μ A w' μ' A'

abbrev FW (ρ : Option Nat) : Fence := { Fence.wide with round := ρ }
theorem zy2t {ρ : Option Nat} {n f : Nat} {args : Array Value} {R : Ending → World → Prop} (h : Calls P f args w R) : CallsIn (FW ρ) n P f args w R := ⟨trivial, fun cs _ => (callsIn_wide (n := n)).2 h |>.2 cs (room_wide _)⟩
theorem rowsIn_FW {ρ : Option Nat} {n : Nat} {row : String} {args : Array Value} {R : Value → World → Prop} (h : Rows P row args w R) : RowsIn (FW ρ) n P row args w R := fun c cs _ => let ⟨v, w', r, s⟩ := h c cs; ⟨v, w', r, stepsIn_wide.2 s⟩
theorem upon_FW {ρ : Option Nat} {o : Oper} {a : Act} {next : Act → World → Prop} {Q : Exit → Act → World → Prop} {r : Result Next} (h : o.upon P a next Q r) : o.uponIn (FW ρ) 0 P a next Q r := by
 cases r with
 | ok x w' =>
  cases x <;> first
   | exact h
   | exact ⟨fun h => (by cases h), zy2t h⟩
   | exact ⟨fun h => (by cases h), rowsIn_FW h⟩
   | exact h.elim
 | halt x w' => cases x <;> first | exact h | exact h.elim
theorem wp_FW {ρ : Option Nat} {o : Oper} {a : Act} {next : Act → World → Prop} {Q : Exit → Act → World → Prop} (hd : ρ = none ∨ ∀ c, o.op ≠ .defer c) (h : o.wp P a w next Q) : o.wpIn (FW ρ) 0 P a w next Q := by
 refine ⟨fun _ _ => trivial, ?_⟩
 have e : o.semAt ρ a.eval = execOp a.eval o := by
  rcases hd with rfl | hd
  ·rfl
  ·exact Oper.semAt_eq ρ _ o hd
 show o.uponIn (FW ρ) 0 P a next Q ((o.semAt ρ a.eval).run P w)
 rw [e]
 exact upon_FW h

theorem zyi6 {h : Heap} (hh : HRep w μ A h) {w' : World} {μ' : Mu} {Ac A' : Nat → Prop} (m : Move w [] Ac w' μ' A') :
  Move w μ A w' μ (fun b => A b ∨ (w.heap.size ≤ b ∧ b < w'.heap.size)) ∧ HRep w' μ (fun b => A b ∨ (w.heap.size ≤ b ∧ b < w'.heap.size)) h := by
 have nol : ∀ b, ¬ Liv ([] : Mu) b := fun b ⟨id, a, r, hm, _⟩ => by simp at hm
 have mv : Move w μ A w' μ (fun b => A b ∨ (w.heap.size ≤ b ∧ b < w'.heap.size)) := {
  os := m.os, tape := m.tape, output := m.output, size := m.size
  keep := fun b hb _ => m.keep b hb (nol b)
  len := Nat.le_refl _
  mu := fun _ _ _ h => h
  liv := fun _ h => .inl h
  a := fun _ h => .inl h
  new := fun b hb => hb.elim .inl (fun h => .inr (.inr h.1))
  lp := m.lp }
 refine ⟨mv, ⟨hh.len, hh.liv, fun id cs b r hl hm hs => ?_, hh.inj, fun b hb hl => ?_, fun b hb => ?_, hh.glbStep mv, fun id cs b r hl hm hs => ?_⟩⟩
 ·obtain ⟨g1, g2, arr, e, fr, g3, g4, g5, g6⟩ := hh.blk id cs b r hl hm hs
  refine ⟨g1, g2, arr, e, fr, ?_, g4, g5, fun j c hj => let ⟨v, h1, h2⟩ := g6 j c hj; ⟨v, h1, h2.step hh mv⟩⟩
  rw [m.keep _ (Array.getElem?_eq_some_iff.1 g3).1 (nol _)]
  exact g3
 ·rcases hb with hb | hb
  ·exact hh.off b hb hl
  ·have := zya5 hh hl; omega
 ·rcases hb with hb | hb
  ·exact Nat.lt_of_lt_of_le (hh.old b hb) m.size
  ·exact hb.2
 ·have g := hh.mp id cs b r hl hm hs
  exact g.to (m.keep _ g.lt (nol _)) fun c v hr => hr.step hh mv

theorem HRep.empty (w : World) {A : Nat → Prop} (ha : ∀ b, A b → b < w.heap.size) (hg : GRep w A) : HRep w [] A [] :=
 ⟨rfl, fun id => by simp [live], fun id cs b r h => by simp [live] at h, fun i j a b r s h => by simp at h, fun b _ ⟨id, a, r, hm, _⟩ => by simp at hm, ha, hg, fun id cs b r h => by simp [live] at h⟩

theorem byVal_run {C : Oracle} (hC : Sound P C) {h : Heap} (hh : HRep w μ A h) {f : Nat} (hfb : f < yb) {args : List AV} {vals : List Value} (hr : RepL w μ A args vals) {v : AV} (hv : byVal C h f args = some v) :
  Enters P f ∧ Calls P f vals.toArray w fun e w' => ∃ u A', e = .returned u ∧ HRep w' μ A' h ∧ Rep w' μ A' v u ∧ Move w μ A w' μ A' := by
 simp only [byVal, Option.bind_eq_some_iff] at hv
 obtain ⟨as, has, ⟨v0, h0⟩, hc, v1, hf, hv⟩ := hv
 split at hv
 case isFalse => cases hv
 rename_i hcond
 cases hv
 obtain ⟨hen, hcall⟩ := hC f as [] v0 h0 hc hfb
 refine ⟨hen, ?_⟩
 obtain ⟨h1, h2⟩ := zyb6 has
 by_cases hn : args.all noRef = true
 ·have hr' : RepL w [] A as vals := ⟨by rw [hr.1, h1], fun j c x hj hx => by
   have hl : j < args.length := by rw [← h1]; exact (List.getElem?_eq_some_iff.1 hj).1
   exact zy5z 12 12 _ _ _ (List.all_eq_true.1 hn _ (List.getElem_mem hl)) (h2 j _ _ (List.getElem?_eq_getElem hl) hj) (hr.2 j _ x (List.getElem?_eq_getElem hl) hx)⟩
  refine (hcall w [] A vals (HRep.empty w hh.old hh.glb) hr').mono ?_
  rintro e w' ⟨u, μ', A', rfl, hh', hru, mv⟩
  obtain ⟨mv', hh2⟩ := zyi6 hh mv
  have hfz := zy61 hh' (fun b => A' b ∨ Liv μ' b) (fun b h => .inl h) (fun b h => .inr h) 12 v0 v u hf hru
  refine ⟨u, _, rfl, hh2, hfz.move (fun b _ => rfl) (fun b hb => ?_) (by simp) (fun id x hid => by simp at hid), mv'⟩
  rcases hb with hb | hb
  ·rcases mv.new b hb with h | ⟨id, a, r, h, _⟩ | h
   ·exact .inl h
   ·simp at h
   ·exact .inr ⟨h, hh'.old b hb⟩
  ·rcases mv.liv b hb with h | h
   ·obtain ⟨id, a, r, hm, _⟩ := h; simp at hm
   ·exact .inr ⟨h, zya5 hh' hb⟩
 ·have hfl : flatV v = true := by
   cases ha : args.all noRef
   ·rw [ha] at hcond; simpa using hcond
   ·exact absurd ha hn
  have hr' : RepL w [] (fun b => A b ∨ Liv μ b) as vals := ⟨by rw [hr.1, h1], fun j c x hj hx => by
   have hl : j < args.length := by rw [← h1]; exact (List.getElem?_eq_some_iff.1 hj).1
   exact zy61 hh _ (fun b h => .inl h) (fun b h => .inr h) 12 _ _ _ (h2 j _ _ (List.getElem?_eq_getElem hl) hj) (hr.2 j _ x (List.getElem?_eq_getElem hl) hx)⟩
  refine (hcall w [] _ vals (HRep.empty w (fun b hb => hb.elim (hh.old b) (zya5 hh)) (hh.glb.move (fun _ _ => rfl) fun _ h => .inl h)) hr').mono ?_
  rintro e w' ⟨u, μ', A', rfl, hh', hru, mv⟩
  obtain ⟨mv', hh2⟩ := zyi6 hh mv
  have hfz := zy61 hh' (fun b => A' b ∨ Liv μ' b) (fun b h => .inl h) (fun b h => .inr h) 12 v0 v u hf hru
  exact ⟨u, _, rfl, hh2, flatV_rep hfl hfz, mv'⟩

structure Sim (w0 : World) (μ0 : Mu) (A0 : Nat → Prop) (s : St) (a : Act) (w : World) (μ : Mu) (A : Nat → Prop) : Prop where
 h : HRep w μ A s.h
 t : Tmps w μ A s.t a.tmps
 m : Move w0 μ0 A0 w μ A
 d : Dfs w0 w μ A a.defers

theorem zyhc {t : List AV} {a : Act} (h : Tmps w μ A t a.tmps) {r : AV} {v : Value} (hr : Rep w μ A r v) (d : Option Nat) (s : St) (hs : s.t = t) : Tmps w μ A (s.put d r).t (a.put d v).tmps := by
 subst hs
 cases d with
 | none => exact h
 | some d =>
  show RepL w μ A (s.t.set d r) (a.tmps.setIfInBounds d v).toList
  rw [Array.toList_setIfInBounds]
  refine ⟨by simp [h.1], fun j c x hj hx => ?_⟩
  rw [List.getElem?_set] at hj hx
  by_cases hd : d = j
  ·subst hd
   rw [if_pos rfl] at hj hx
   split at hj
   ·split at hx
    ·cases hj; cases hx; exact hr
    ·cases hx
   ·cases hj
  ·rw [if_neg hd] at hj hx
   exact h.2 j c x hj hx

theorem Sim.put {w0 : World} {μ0 : Mu} {A0 : Nat → Prop} {s : St} {a : Act} {w w' : World} {μ μ' : Mu} {A A' : Nat → Prop} (hs : Sim w0 μ0 A0 s a w μ A) {r : AV} {v : Value} {h' : Heap} (hh : HRep w' μ' A' h') (hr : Rep w' μ' A' r v) (m : Move w μ A w' μ' A') (d : Option Nat) :
  Sim w0 μ0 A0 ({ s with h := h' }.put d r) (a.put d v) w' μ' A' where
 h := by cases d <;> exact hh
 t := zyhc (RepL.step hs.t hs.h m) hr d _ rfl
 m := hs.m.trans m
 d := by cases d <;> exact hs.d.step m

theorem zy2s {o : Oper} {f : Opd} {args : List Opd} (hc : compOp? P o = some (.call f args)) : ∃ fo as ts, o.op = .call { callee := .value fo, args := as, argTypes := ts } ∧ opd fo = some f ∧ as.toList.mapM opd = some args := by
 unfold compOp? at hc
 split at hc <;> rename_i hop
 ·rename_i fo as ts
  refine ⟨fo, as, ts, hop, ?_⟩
  unfold zy2g at hc
  simp only [Option.bind_eq_some_iff] at hc
  obtain ⟨l, hl, hc⟩ := hc
  split at hc
  ·split at hc
   case h_2 => cases hc
   split at hc
   ·rw [Bool.cond_eq_ite] at hc
    split at hc
    ·rename_i hb
     cases hc
     refine ⟨?_, hl⟩
     show (bif Nat.blt _ yb then _ else _) = _
     rw [hb]; rfl
    ·cases hc
   ·split at hc
    case isFalse => cases hc
    split at hc
    ·split at hc <;> cases hc
    ·split at hc
     ·split at hc <;> cases hc
     ·cases hc
  ·simp only [Option.map_eq_some_iff] at hc
   obtain ⟨y, hy, he⟩ := hc
   cases he
   exact ⟨hy, hl⟩
 ·unfold zy36 at hc
  split at hc
  ·split at hc
   ·simp only [Option.bind_eq_some_iff, Option.map_eq_some_iff] at hc
    obtain ⟨_, _, _, _, he⟩ := hc
    cases he
   ·cases hc
  ·cases hc
 ·simp only [Option.bind_eq_some_iff] at hc
  obtain ⟨ao', h1, h2⟩ := hc
  split at h2
  ·cases h2
  ·rename_i hn; cases h2; exact absurd rfl hn
theorem step_wp {C : Oracle} (hC : Sound P C) (refm : Nat → Bool) {ops : Array Oper} {o : Oper} {s : St} {a : Act} {r : AV} {h' : Heap} (hnd : (compI P ops o).op.isDfr = false) (hny : ∀ f args id, (compI P ops o).op = .call f args → s.get f ≠ .yld id) (hv : stepA C refm (compI P ops o) s = some (r, h')) (hh : HRep w μ A s.h) (ht : Tmps w μ A s.t a.tmps)
  {next : Act → World → Prop} {Q : Exit → Act → World → Prop} (hn : ∀ v w' μ' A', HRep w' μ' A' h' → Rep w' μ' A' r v → Move w μ A w' μ' A' → next (a.put o.dst v) w') : o.wp P a w next Q := by
 have hop : ∃ ao, compOp? P o = some ao ∧ (compI P ops o).op = ao := by
  unfold compI at hv ⊢
  cases hg : zy6p ops 20 o with
  | none => simp only [hg] at hv; cases hv
  | some g =>
   simp only [hg] at hv ⊢
   cases hc : compOp? P o with
   | none => rw [hc] at hv; cases hv
   | some ao => exact ⟨ao, rfl, rfl⟩
 obtain ⟨ao, hc, hao⟩ := hop
 unfold stepA at hv
 rw [hao] at hv hnd hny
 unfold Oper.wp
 split at hv
 ·-- a call
  rename_i f args
  have hcall := zy2s hc
  obtain ⟨fo, as, ts, hop, hfo, has⟩ := hcall
  have hrf := zydt hh ht hfo
  have hra := zydu hh ht has
  unfold zy2o at hv
  split at hv
  case h_2 => rename_i id hy; exact absurd hy (hny _ _ _ rfl)
  case h_3 => cases hv
  rename_i g cap hfn
  rw [hfn] at hrf
  have hgb := hrf.fn_lt
  obtain ⟨capv, ecap, hcap⟩ := hrf.fn_inv
  have hargs := hra.append hcap
  have ea : (as.map a.eval ++ capv.toArray) = (as.toList.map a.eval ++ capv).toArray := by apply Array.ext'; simp
  have enter : Enters P g → (execOp a.eval o).run P w = .ok (.enter g (as.toList.map a.eval ++ capv).toArray) w := by
   rintro ⟨fn, c, h1, h2, h3⟩
   unfold execOp
   simp only [hop, resolve, ecap, Deferred.ofValue, invoke, callFunc, Sem.run_bind, Sem.run_pure, Result.andThen_ok, Array.empty_append, run_program, h1, h3, h2, Bool.false_eq_true, if_false, Option.isNone_some, ea]
  cases hrefm : refm g
  ·rw [hrefm] at hv
   simp only [cond_false, Option.map_eq_some_iff, Prod.mk.injEq] at hv
   obtain ⟨v, hbv, rfl, rfl⟩ := hv
   obtain ⟨hen, hcl⟩ := byVal_run hC hh hgb hargs hbv
   rw [enter hen]
   refine hcl.mono ?_
   rintro e w' ⟨u, A', rfl, h1, h2, h3⟩
   exact hn u w' μ A' h1 h2 h3
  ·rw [hrefm] at hv
   simp only [cond_true] at hv
   obtain ⟨hen, hcl⟩ := hC _ _ _ _ _ hv hgb
   rw [enter hen]
   refine (hcl w μ A _ hh hargs).mono ?_
   rintro e w' ⟨u, μ', A', rfl, h1, h2, h3⟩
   exact hn u w' μ' A' h1 h2 h3
 ·cases hp : ao.isPure
  ·rw [hp] at hv
   simp only [cond_false] at hv
   obtain ⟨n, v, w', μ', A', hr, hnv, h1, h2, h3⟩ := mem_run hc hnd hv ht hh
   rw [hr]
   rcases hnv with rfl | ⟨rfl, rfl⟩
   ·exact hn v w' μ' A' h1 h2 h3
   ·exact hn _ w' μ' A' h1 h2 h3
  ·rw [hp] at hv
   simp only [cond_true, Option.map_eq_some_iff, Prod.mk.injEq] at hv
   obtain ⟨v, hpv, rfl, rfl⟩ := hv
   obtain ⟨u, h1, h2⟩ := pure_run hc hp hpv ht hh
   rw [h2]
   exact hn u w μ A hh h1 (Move.refl _ _ _)

theorem zygt {C : Oracle} (hC : Sound P C) {w0 : World} {μ0 : Mu} {A0 : Nat → Prop} (hY : zy08 P w0 μ0 A0 C) (ρ : Option Nat) (refm : Nat → Bool) {ops : Array Oper} {o : Oper} {s : St} {a : Act} {r : AV} {h' : Heap} (hnd : (compI P ops o).op.isDfr = false) (hv : stepA C refm (compI P ops o) s = some (r, h')) (hh : HRep w μ A s.h) (ht : Tmps w μ A s.t a.tmps) (hm0 : Move w0 μ0 A0 w μ A)
  {next : Act → World → Prop} {Q : Exit → Act → World → Prop} (hn : ∀ v w' μ' A', HRep w' μ' A' h' → Rep w' μ' A' r v → Move w μ A w' μ' A' → next (a.put o.dst v) w') : o.wpIn (FW ρ) 0 P a w next Q := by
 have hop : ∃ ao, compOp? P o = some ao ∧ (compI P ops o).op = ao := by
  unfold compI at hv ⊢
  cases hg : zy6p ops 20 o with
  | none => simp only [hg] at hv; cases hv
  | some g =>
   simp only [hg] at hv ⊢
   cases hc : compOp? P o with
   | none => rw [hc] at hv; cases hv
   | some ao => exact ⟨ao, rfl, rfl⟩
 have hdf : ∀ c, o.op ≠ .defer c := fun c e => by
  obtain ⟨ao, hc, hao⟩ := hop
  rw [hao] at hnd
  unfold compOp? at hc
  rw [e] at hc
  simp only [] at hc
  unfold zy36 at hc
  split at hc
  ·split at hc
   ·simp only [Option.bind_eq_some_iff, Option.map_eq_some_iff] at hc
    obtain ⟨_, _, _, _, rfl⟩ := hc
    cases hnd
   ·cases hc
  ·cases hc
 by_cases hy : ∃ f args id, (compI P ops o).op = .call f args ∧ s.get f = .yld id
 ·obtain ⟨f, args, id, e1, e2⟩ := hy
  obtain ⟨ao, hc, hao⟩ := hop
  obtain rfl : AOp.call f args = ao := by rw [← hao, e1]
  unfold stepA at hv
  rw [e1] at hv
  obtain ⟨fo, as, ts, hop, hfo, has⟩ := zy2s hc
  have hrf := zydt hh ht hfo
  have hra := zydu hh ht has
  have hv : C (yb + id) (args.map s.get) s.h = some (r, h') := by
   have : zy2o C refm s.h (s.get f) (args.map s.get) = some (r, h') := hv
   rw [e2] at this
   exact this
  obtain ⟨hl, hall⟩ := hY _ _ _ _ _ hv
  rw [e2] at hrf
  have hmu : ∃ b r, μ[id]? = some (some (b, r)) := by
   have := hh.liv id
   rw [hl] at this
   cases h1 : μ[id]? with
   | none => rw [h1] at this; cases this
   | some q =>
    cases q with
    | none => rw [h1] at this; cases this
    | some q => exact ⟨q.1, q.2, rfl⟩
  obtain ⟨b, r0, hmu⟩ := hmu
  obtain ⟨fn, tmps, assign, body, hrun, hround⟩ := hall w μ A _ b r0 hm0 hh hra hmu
  have ev : a.eval fo = .func (.yield b.block) #[] #[] := by
   generalize a.eval fo = v at hrf
   cases hrf with
   | yld _ l h0 h1 => rw [h1 b r0 hmu]
  refine ⟨fun _ _ => trivial, ?_⟩
  show o.uponIn (FW ρ) 0 P a next Q ((o.semAt ρ a.eval).run P w)
  rw [Oper.semAt_eq ρ _ o hdf]
  have ea : as.map a.eval = (as.toList.map a.eval).toArray := by apply Array.ext'; simp
  have hx : (execOp a.eval o).run P w = .ok (.round b.block fn tmps assign body) w := by
   unfold execOp
   simp only [hop, resolve, ev, Deferred.ofValue, invoke, callFunc, Sem.run_bind, Sem.run_pure, Result.andThen_ok, Array.empty_append, ea]
   first | exact hrun | (simp only [Array.append_empty]; exact hrun) | (simp; exact hrun)
  rw [hx]
  refine ⟨fun h => (by cases h), RoundIn.mono (R := fun e w' => ∃ u μ' A', e = .returned u ∧ HRep w' μ' A' h' ∧ Rep w' μ' A' r u ∧ Move w μ A w' μ' A') hround ?_⟩
  rintro e w' ⟨u, μ', A', rfl, h1, h2, h3⟩
  exact hn u w' μ' A' h1 h2 h3
 ·exact wp_FW (.inr hdf) (step_wp hC refm hnd (fun f args id h1 h2 => hy ⟨f, args, id, h1, h2⟩) hv hh ht hn)


theorem zyie {s : St} : ∀ (l : List (Nat × Bool)) (p : Nat × Bool) (b : Bool), s.wanted (l ++ [p]) = some b → (b = true ∧ ∃ c, s.t.getD p.1 .junk = .bool c ∧ (c == p.2) = true) ∨ (b = false ∧ ((∃ c, s.t.getD p.1 .junk = .bool c ∧ (c == p.2) = false) ∨ s.t.getD p.1 .junk = .undef))
 | [], p, b, h => by
  obtain ⟨n, q⟩ := p
  simp only [List.nil_append, St.wanted] at h
  split at h
  ·rename_i c hc
   cases hq : (c == q)
   ·rw [hq] at h
    simp only [cond_false, zyga, cond_true, Option.some.injEq] at h
    exact .inr ⟨h.symm, .inl ⟨c, hc, hq⟩⟩
   ·rw [hq] at h
    simp only [cond_true, Option.some.injEq] at h
    exact .inl ⟨h.symm, c, hc, hq⟩
  ·cases h
 | (n, q) :: l, p, b, h => by
  simp only [List.cons_append, St.wanted] at h
  split at h
  ·rename_i c hc
   cases hq : (c == q)
   ·rw [hq] at h
    simp only [cond_false] at h
    have hs : ∀ (l : List (Nat × Bool)), zyga s (l ++ [p]) = (match s.t.getD p.1 .junk with | .undef => true | _ => false) := by
     intro l
     induction l with
     | nil => rfl
     | cons x l ih =>
      cases l with
      | nil => rfl
      | cons y l => exact ih
    rw [hs] at h
    split at h
    ·rename_i hu
     simp only [cond_true, Option.some.injEq] at h
     exact .inr ⟨h.symm, .inr hu⟩
    ·cases h
   ·rw [hq] at h
    simp only [cond_true] at h
    exact zyie l p b h
  ·cases h

theorem zyid {ops : Array Oper} {o : Oper} {s : St} {a : Act} (ht : Tmps w μ A s.t a.tmps) {g : List (Nat × Bool)} (hg : zy6p ops 20 o = some g) {b : Bool} (hw : s.wanted g = some b) : Region.wanted o (yielded ops a.tmps) = b := by
 unfold zy6p at hg
 unfold Region.wanted
 cases ho : o.guard with
 | none =>
  rw [ho] at hg
  cases hg
  cases hw
  rfl
 | some p =>
  obtain ⟨j, want⟩ := p
  rw [ho] at hg
  simp only at hg
  split at hg
  case h_2 => cases hg
  rename_i q hq
  simp only [Option.bind_eq_some_iff, Option.map_eq_some_iff] at hg
  obtain ⟨d, hd, l, hl, rfl⟩ := hg
  have hy : yielded ops a.tmps j = match a.tmps[d]? with | some (.bool b) => some b | _ => none := by
   unfold yielded
   simp only [hq, Option.bind_some, hd]
   generalize a.tmps[d]? = x
   cases x with
   | none => rfl
   | some v => cases v <;> rfl
  have val : ∀ {c : AV}, s.t.getD d .junk = c → c ≠ .junk → ∃ v, a.tmps[d]? = some v ∧ Rep w μ A c v := by
   intro c hc hj
   rcases Nat.lt_or_ge d s.t.length with h | h
   ·obtain ⟨v, h1, h2⟩ := RepL.get ht (List.getElem?_eq_getElem h)
    rw [List.getD_eq_getElem?_getD, List.getElem?_eq_getElem h, Option.getD_some] at hc
    rw [hc] at h2
    exact ⟨v, by simpa using h1, h2⟩
   ·rw [List.getD_eq_getElem?_getD, List.getElem?_eq_none h] at hc
    exact absurd hc.symm hj
  rcases zyie l (d, want) b hw with ⟨rfl, c, h1, h2⟩ | ⟨rfl, ⟨c, h1, h2⟩ | h1⟩
  ·obtain ⟨v, hv, hr⟩ := val h1 (by simp)
   have := hr.bool_inv
   subst this
   simp only [hy, hv]
   simpa using h2
  ·obtain ⟨v, hv, hr⟩ := val h1 (by simp)
   have := hr.bool_inv
   subst this
   simp only [hy, hv]
   simpa using h2
  ·obtain ⟨v, hv, hr⟩ := val h1 (by simp)
   cases hr
   simp only [hy, hv, Go.undef]
   rfl

theorem zy37 {ops : Array Oper} {o : Oper} {C : Oracle} {refm : Nat → Bool} {s : St} {b : Bool} (hw : s.wanted (compI P ops o).guard = some b) (hb : b = true → ∃ r, stepA C refm (compI P ops o) s = some r) :
  ∃ g, zy6p ops 20 o = some g ∧ s.wanted g = some b := by
 cases hg : zy6p ops 20 o with
 | some g => unfold compI at hw; rw [hg] at hw; exact ⟨g, rfl, hw⟩
 | none =>
  unfold compI at hw hb
  rw [hg] at hw hb
  cases hw
  obtain ⟨r, hr⟩ := hb rfl
  cases hr


theorem dfr_run {C : Oracle} (refm : Nat → Bool) {ops : Array Oper} {o : Oper} {s : St} {a : Act} {q : AV × Heap} (hd : (compI P ops o).op.isDfr = true) (hv : stepA C refm (compI P ops o) s = some q) {w0 : World} {μ0 : Mu} {A0 : Nat → Prop} (hs : Sim w0 μ0 A0 s a w μ A) :
  ∃ a', Sim w0 μ0 A0 ({ s with h := q.2 }.put o.dst q.1) a' w μ A ∧ ∀ next Q, next a' w → o.wp P a w next Q := by
 have hop : ∃ ao, compOp? P o = some ao ∧ (compI P ops o).op = ao := by
  unfold compI at hv ⊢
  cases hg : zy6p ops 20 o with
  | none => simp only [hg] at hv; cases hv
  | some g =>
   simp only [hg] at hv ⊢
   cases hc : compOp? P o with
   | none => rw [hc] at hv; cases hv
   | some ao => exact ⟨ao, rfl, rfl⟩
 obtain ⟨ao, hc, hao⟩ := hop
 rw [hao] at hd
 have hop : ∃ f args ts x y, o.op = .defer { callee := .value (.func f), args, argTypes := ts } ∧ Gl.dead f = true ∧ args = #[x] ∧ opd x = some y ∧ ao = .dfr f y := by
  unfold compOp? at hc
  split at hc
  ·unfold zy2g at hc
   simp only [Option.bind_eq_some_iff] at hc
   obtain ⟨as, has, hc⟩ := hc
   split at hc
   ·split at hc
    case h_2 => cases hc
    split at hc
    ·rw [Bool.cond_eq_ite] at hc
     split at hc
     ·cases hc; cases hd
     ·cases hc
    ·split at hc
     case isFalse => cases hc
     split at hc
     ·split at hc <;> cases hc; cases hd
     ·split at hc
      ·split at hc <;> cases hc; cases hd
      ·cases hc
   ·simp only [Option.map_eq_some_iff] at hc
    obtain ⟨_, _, rfl⟩ := hc
    cases hd
  ·unfold zy36 at hc
   split at hc
   ·rename_i f args ts hop
    split at hc
    case isFalse => cases hc
    rename_i hcond
    simp only [Option.bind_eq_some_iff, Option.map_eq_some_iff] at hc
    obtain ⟨x, hx, y, hy, rfl⟩ := hc
    refine ⟨f, args, ts, x, y, hop, hcond.1, ?_, hy, rfl⟩
    apply Array.ext (by simp [hcond.2])
    intro i h1 h2
    have : i = 0 := by rw [hcond.2] at h1; omega
    subst this
    have := (Array.getElem?_eq_some_iff.1 hx).2
    simpa using this
   ·cases hc
  ·simp only [Option.bind_eq_some_iff] at hc
   obtain ⟨ao', h1, h2⟩ := hc
   split at h2
   ·cases h2
   ·rename_i hn
    cases h2
    rw [hd] at hn
    simp at hn
 obtain ⟨f, args, ts, x, y, hop, hdead, rfl, hy, rfl⟩ := hop
 unfold stepA at hv
 rw [hao] at hv
 have hv' : (opDfr (s.get y)).map (fun v => (v, s.h)) = some q := hv
 clear hv
 simp only [Option.map_eq_some_iff] at hv'
 obtain ⟨v, hv, rfl⟩ := hv'
 have hr := zydt hs.h hs.t hy
 have hfn : ∃ g cs, s.get y = .fn g cs ∧ v = .undef := by
  cases hz : s.get y <;> rw [hz] at hv <;> first | (cases hv; done) | (cases hv; exact ⟨_, _, rfl, rfl⟩)
 obtain ⟨g, cs, hfn, rfl⟩ := hfn
 rw [hfn] at hr
 obtain ⟨capv, ecap, hcap⟩ := hr.fn_inv
 let d : Deferred := { target := .fn (.func f) #[], args := #[.func (.func g) #[] capv.toArray] }
 have hs2 : Sim w0 μ0 A0 s { a with defers := d :: a.defers } w μ A := ⟨hs.h, hs.t, hs.m, ⟨.inl ⟨f, g, _, hdead, rfl, rfl⟩, hs.d⟩⟩
 refine ⟨_, hs2.put (h' := s.h) hs.h .undef (Move.refl _ _ _) o.dst, fun next Q hn => ?_⟩
 unfold Oper.wp
 have hrun : (execOp a.eval o).run P w = .ok (.defer d) w := by
  unfold execOp
  simp only [hop, resolve, Act.eval, Deferred.ofValue, Sem.run_bind, Sem.run_pure, Result.andThen_ok]
  simp [d, ecap]
 rw [hrun]
 exact hn

theorem zydv {C : Oracle} (hC : Sound P C) (refm : Nat → Bool) {ops : Array Oper} {R : Type} {K : St → Option R} {r : R} {w0 : World} {μ0 : Mu} {A0 : Nat → Prop} {Q : Exit → Act → World → Prop} (hY : zy08 P w0 μ0 A0 C) (ρ : Option Nat)
  (hK : ∀ s a w μ A, K s = some r → Sim w0 μ0 A0 s a w μ A → Q .normal a w) : ∀ (l : List Oper) (hρ : ρ = none ∨ ∀ o ∈ l, (compI P ops o).op.isDfr = false) (k : Nat) (s : St) (a : Act) (w : World) (μ : Mu) (A : Nat → Prop), (∀ j, l[j]? = ops[k + j]?) → Sim w0 μ0 A0 s a w μ A →
   zy52 C refm (l.map (compI P ops)) s K = some r → wpOpsIn (FW ρ) 0 P ops Q (List.range' k l.length) a w
 | [], _, k, s, a, w, μ, A, _, hs, h => hK s a w μ A h hs
 | o :: l, hρ, k, s, a, w, μ, A, hl, hs, h => by
  have hρ' : ρ = none ∨ ∀ o ∈ l, (compI P ops o).op.isDfr = false := hρ.imp (fun h => h) fun h o ho => h o (List.mem_cons_of_mem _ ho)
  have h0 : ops[k]? = some o := by simpa using (hl 0).symm
  have hl' : ∀ j, l[j]? = ops[k + 1 + j]? := fun j => by have := hl (j + 1); simpa [Nat.add_assoc, Nat.add_comm 1 j] using this
  rw [List.map_cons, zy55] at h
  rw [List.length_cons, List.range'_succ]
  unfold wpOpsIn
  simp only [h0]
  split at h
  ·rename_i hw
   cases hst : stepA C refm (compI P ops o) s with
   | none => rw [hst] at h; cases h
   | some q =>
    rw [hst] at h
    obtain ⟨g, hg, hwg⟩ := zy37 hw (fun _ => ⟨q, hst⟩)
    rw [zyid hs.t hg hwg, if_pos rfl]
    have hd : (compI P ops o).dst = o.dst := by unfold compI; rw [hg]
    cases hdf : (compI P ops o).op.isDfr
    case true =>
     obtain ⟨a', hs', hwp⟩ := dfr_run refm hdf hst hs
     rw [Option.bind_some, hd] at h
     exact wp_FW (.inl (hρ.elim id fun h => by rw [h o (List.mem_cons_self ..)] at hdf; cases hdf)) (hwp _ _ (zydv hC refm hY ρ hK l hρ' (k + 1) _ _ _ _ _ hl' hs' h))
    refine zygt hC hY ρ refm hdf hst hs.h hs.t hs.m fun v w' μ' A' h1 h2 h3 => ?_
    have hd : (compI P ops o).dst = o.dst := by unfold compI; rw [hg]
    have hs' := hs.put h1 h2 h3 o.dst
    rw [Option.bind_some, hd] at h
    exact zydv hC refm hY ρ hK l hρ' (k + 1) _ _ _ _ _ hl' hs' h
  ·rename_i hw
   obtain ⟨g, hg, hwg⟩ := zy37 (C := C) (refm := refm) hw (fun e => by cases e)
   rw [zyid hs.t hg hwg]
   simp only [Bool.false_eq_true, if_false]
   have hd : (compI P ops o).dst = o.dst := by unfold compI; rw [hg]
   have hs' := hs.put (h' := s.h) hs.h .undef (Move.refl _ _ _) o.dst
   rw [hd] at h
   exact ⟨fun _ _ => trivial, zydv hC refm hY ρ hK l hρ' (k + 1) _ _ _ _ _ hl' hs' h⟩
  ·cases h


theorem St.get_congr {s s' : St} {x : Opd} (h : ∀ n, x = .t n → s.t.getD n .junk = s'.t.getD n .junk) : s.get x = s'.get x := by
 cases x with
 | t n => exact h n rfl
 | c v => rfl

theorem zybc {s s' : St} {l : List Opd} (h : ∀ x ∈ l, s.get x = s'.get x) : l.map s.get = l.map s'.get := List.map_congr_left h

theorem zydw {s s' : St} {o : Option Opd} (h : ∀ x ∈ oo o, s.get x = s'.get x) : o.map s.get = o.map s'.get := by
 cases o with
 | none => rfl
 | some x => simp [h x (by simp [oo])]

theorem zyea {s s' : St} {ao : AOp} (h : ∀ x ∈ ao.opds, s.get x = s'.get x) (hh : ao.rdh = true → s.h = s'.h) : zye9 s ao = zye9 s' ao := by
 cases ao <;> simp only [zye9] <;> simp only [AOp.opds, List.mem_cons, List.mem_append, List.not_mem_nil, or_false, forall_eq_or_imp, forall_eq, List.mem_map] at h <;> try rfl
 case load g a => rw [h, hh rfl]
 case arrs sz n a => rw [h, hh rfl]
 case b2s x => rw [h, hh rfl]
 case lkp L z ok x i => rw [h.1, h.2, hh rfl]
 case mlen x => rw [h, hh rfl]
 case slc sz x lo hi mx =>
  rw [h x (.inl (.inl (.inl rfl))), zydw fun y hy => h y (.inl (.inl (.inr hy))), zydw fun y hy => h y (.inl (.inr hy)), zydw fun y hy => h y (.inr hy)]
 case slcs x lo hi =>
  rw [h x (.inl (.inl rfl)), zydw fun y hy => h y (.inl (.inr hy)), zydw fun y hy => h y (.inr hy)]
 case slcc sz x lo hi =>
  rw [h x (.inl (.inl rfl)), zydw fun y hy => h y (.inl (.inr hy)), zydw fun y hy => h y (.inr hy)]
 case mm mx xs => rw [zybc h]
 case mkfn f xs => rw [zybc h]
 case bld z ps =>
  have : (ps.map fun p => (p.1, p.2.1, s.get p.2.2)) = ps.map fun p => (p.1, p.2.1, s'.get p.2.2) := List.map_congr_left fun p hp => by rw [h _ ⟨p, hp, rfl⟩]
  rw [this]
 all_goals simp only [h]

theorem zybe {s s' : St} {ao : AOp} (h : ∀ x ∈ ao.opds, s.get x = s'.get x) (hh : s.h = s'.h) : memOp s ao = memOp s' ao := by
 cases ao <;> simp only [memOp] <;> simp only [AOp.opds, List.mem_cons, List.mem_append, List.not_mem_nil, or_false, forall_eq_or_imp, forall_eq, List.mem_map] at h <;> try rfl
 case bslc sz n z ps =>
  have : (ps.map fun p => (p.1, s.get p.2)) = ps.map fun p => (p.1, s'.get p.2) := List.map_congr_left fun p hp => by rw [h _ ⟨p, hp, rfl⟩]
  rw [this, hh]
 case zbox cs => rw [hh]
 all_goals simp only [h, hh]

theorem zyes {i : AI} {s s' : St} (h : ∀ n ∈ i.reads, s.t.getD n .junk = s'.t.getD n .junk) : ∀ x ∈ i.op.opds, s.get x = s'.get x := fun x hx => St.get_congr fun n hn => h n (by
 unfold AI.reads
 refine List.mem_append_left _ (List.mem_filterMap.2 ⟨x, hx, ?_⟩)
 rw [hn])

theorem zygq {C : Oracle} {refm : Nat → Bool} {i : AI} {s : St} (h : i.op.isPure = true) : stepA C refm i s = (zye9 s i.op).map fun v => (v, s.h) := by
 obtain ⟨d, op, g⟩ := i
 cases op <;> first | rfl | cases h

theorem zygo {C : Oracle} {refm : Nat → Bool} {i : AI} {s : St} (h : i.op.isPure = false) (hn : i.op.isCall = false) : stepA C refm i s = memOp s i.op := by
 obtain ⟨d, op, g⟩ := i
 cases op <;> first | rfl | (cases h; done) | (cases hn; done)

theorem zy6y {refm : Nat → Bool} {op : AOp} (h : op.isPure = true) : op.heed refm < 2 ∧ (op.rdh = true → 1 ≤ op.heed refm) := by
 cases op <;> first
  | (cases h; done)
  | (refine ⟨Nat.lt_succ_self 1, fun _ => Nat.le_refl 1⟩; done)
  | (refine ⟨Nat.zero_lt_succ 1, ?_⟩; intro he; cases he)

theorem heed_mem {refm : Nat → Bool} {op : AOp} (h : op.isPure = false) (hn : op.isCall = false) : op.heed refm = 2 ∨ ∃ sz n z ps, op = .bslc sz n z ps := by
 cases op <;> first | exact .inl rfl | exact .inr ⟨_, _, _, _, rfl⟩ | (cases h; done) | (cases hn; done)

theorem zygm {C : Oracle} {refm : Nat → Bool} {i : AI} {s s' : St} (h : ∀ n ∈ i.reads, s.t.getD n .junk = s'.t.getD n .junk) (hh : 1 ≤ i.op.heed refm → s.h = s'.h) {v : AV} {h1 : Heap} (hv : stepA C refm i s = some (v, h1)) :
  (2 ≤ i.op.heed refm → stepA C refm i s' = some (v, h1)) ∧ (i.op.heed refm < 2 → h1 = s.h ∧ stepA C refm i s' = some (v, s'.h)) := by
 have ho := zyes h
 cases hp : i.op.isPure
 ·cases hc : i.op.isCall
  ·rcases heed_mem (refm := refm) hp hc with h2 | ⟨sz, n, z, ps, he⟩
   ·rw [zygo hp hc] at hv ⊢
    refine ⟨fun _ => ?_, fun h3 => by omega⟩
    rw [← zybe ho (hh (by omega))]
    exact hv
   ·rw [zygo hp hc] at hv ⊢
    rw [he] at hv ho ⊢
    simp only [memOp, Option.map_eq_some_iff, Prod.mk.injEq] at hv ⊢
    obtain ⟨x, hx, rfl, rfl⟩ := hv
    have e : (ps.map fun p => (p.1, s.get p.2)) = ps.map fun p => (p.1, s'.get p.2) := List.map_congr_left fun p hp => by
     rw [ho p.2 (List.mem_map.2 ⟨p, hp, rfl⟩)]
    rw [e] at hx
    exact ⟨fun h => absurd h (by show ¬ 2 ≤ 0; omega), fun _ => ⟨by first | rfl | trivial, x, hx, by first | rfl | trivial⟩⟩
  ·obtain ⟨dst, op, g⟩ := i
   cases op <;> first | (cases hc; done) | skip
   rename_i f args
   have e1 : s.get f = s'.get f := ho f (by simp [AOp.opds])
   have e2 : args.map s.get = args.map s'.get := zybc fun x hx => ho x (by simp [AOp.opds, hx])
   have hheed : 1 ≤ (AOp.call f args).heed refm := by
    cases f with
    | t n => exact Nat.le_succ 1
    | c c =>
     cases c <;> first | exact Nat.le_succ 1 | skip
     rename_i g' c'
     show 1 ≤ bif refm g' then 2 else 1
     cases refm g' <;> simp
   have e3 := hh hheed
   simp only [stepA] at hv ⊢
   rw [← e1, ← e2, ← e3]
   refine ⟨fun _ => hv, fun hlt => ?_⟩
   cases f with
   | t n => exact absurd hlt (Nat.lt_irrefl 2)
   | c c =>
    cases c <;> first | exact absurd hlt (Nat.lt_irrefl 2) | skip
    rename_i g' c'
    have hr : refm g' = false := by
     cases hr : refm g'
     ·rfl
     ·have : (bif refm g' then 2 else 1) < 2 := hlt
      rw [hr] at this; simp at this
    simp only [St.get, zy2o, hr, cond_false, Option.map_eq_some_iff, Prod.mk.injEq] at hv ⊢
    obtain ⟨x, hx, rfl, rfl⟩ := hv
    exact ⟨by first | rfl | trivial, x, hx, by first | rfl | trivial⟩
 ·obtain ⟨h2, h3⟩ := zy6y (refm := refm) hp
  rw [zygq hp] at hv ⊢
  simp only [Option.map_eq_some_iff, Prod.mk.injEq] at hv ⊢
  obtain ⟨x, hx, rfl, rfl⟩ := hv
  have hq := zyea ho (fun hl => hh (h3 hl))
  exact ⟨fun h4 => by omega, fun _ => ⟨by first | rfl | trivial, x, hq ▸ hx, by first | rfl | trivial⟩⟩

theorem zy58 {C : Oracle} {refm : Nat → Bool} {R : Type} {K : St → Option R} {r : R} : ∀ (l : List AI) (s : St), zy52 C refm l s K = some r →
  ∃ (S : Nat → St) (V : Nat → AV), S 0 = s ∧ K (S l.length) = some r ∧ ∀ (i : Nat) (x : AI), l[i]? = some x →
   ((S i).wanted x.guard = some true ∧ ∃ h, stepA C refm x (S i) = some (V i, h) ∧ S (i + 1) = { S i with h := h }.put x.dst (V i)) ∨ ((S i).wanted x.guard = some false ∧ V i = .undef ∧ S (i + 1) = (S i).put x.dst (V i))
 | [], s, h => ⟨fun _ => s, fun _ => .junk, rfl, h, fun i x hx => by simp at hx⟩
 | x :: l, s, h => by
  rw [zy55] at h
  split at h
  ·rename_i hw
   cases hst : stepA C refm x s with
   | none => rw [hst] at h; cases h
   | some q =>
    rw [hst] at h
    obtain ⟨S, V, h0, hK, hS⟩ := zy58 l _ h
    refine ⟨fun | 0 => s | n + 1 => S n, fun | 0 => q.1 | n + 1 => V n, rfl, hK, fun i y hy => ?_⟩
    cases i with
    | zero => simp at hy; subst hy; exact .inl ⟨hw, q.2, hst, h0⟩
    | succ i => exact hS i y (by simpa using hy)
  ·rename_i hw
   obtain ⟨S, V, h0, hK, hS⟩ := zy58 l _ h
   refine ⟨fun | 0 => s | n + 1 => S n, fun | 0 => .undef | n + 1 => V n, rfl, hK, fun i y hy => ?_⟩
   cases i with
   | zero => simp at hy; subst hy; exact .inr ⟨hw, rfl, h0⟩
   | succ i => exact hS i y (by simpa using hy)
  ·cases h


theorem zyac {h : Heap} {id : Nat} (ex : Heap) (hl : id < h.length) : live (h ++ ex) id = live h id := by
 unfold live
 rw [List.getElem?_append_left hl]
theorem live_lt' {h : Heap} {id : Nat} {cs : List AV} (hl : live h id = some cs) : id < h.length := by
 rcases Nat.lt_or_ge id h.length with h1 | h1
 ·exact h1
 ·simp [live, List.getElem?_eq_none h1] at hl
theorem zyad {h : Heap} {id : Nat} {cs : List AV} (ex : Heap) (hl : live h id = some cs) : live (h ++ ex) id = some cs := by
 rw [zyac ex (live_lt' hl), hl]

theorem zyb2 {α β : Type} {f g : α → Option β} : ∀ {l : List α}, (∀ x ∈ l, f x = g x) → l.mapM f = l.mapM g
 | [], _ => rfl
 | x :: l, h => by
  rw [List.mapM_cons, List.mapM_cons, h x (List.mem_cons_self ..), zyb2 fun y hy => h y (List.mem_cons_of_mem _ hy)]
theorem zyb3 {α β : Type} {f g : α → Option β} : ∀ {l : List α} {r : List β}, (∀ x ∈ l, ∀ y, f x = some y → g x = some y) → l.mapM f = some r → l.mapM g = some r
 | [], r, _, h => h
 | x :: l, r, h, hr => by
  rw [List.mapM_cons] at hr ⊢
  cases hx : f x with
  | none => rw [hx] at hr; cases hr
  | some y =>
   rw [hx] at hr
   rw [h x (List.mem_cons_self ..) y hx]
   cases hl : l.mapM f with
   | none => rw [hl] at hr; cases hr
   | some ys =>
    rw [hl] at hr
    rw [zyb3 (fun z hz => h z (List.mem_cons_of_mem _ hz)) hl]
    exact hr

theorem zy5y (h ex : Heap) : ∀ (k : Nat) (c c' : AV), zy5w k h c = some c' → zy5w k (h ++ ex) c = some c' := by
 intro k
 induction k with
 | zero => intro c c' hf; cases hf
 | succ k ih =>
  intro c c' hf
  have row : ∀ {cs ds : List AV}, cs.mapM (zy5w k h) = some ds → cs.mapM (zy5w k (h ++ ex)) = some ds := fun hm => zyb3 (fun x _ y hy => ih x y hy) hm
  cases c with
  | agg cs | tup cs | fn f cs | ip cs | is n full cs | im cs =>
   simp only [zy5w, Option.map_eq_some_iff] at hf ⊢
   obtain ⟨ds, hd, rfl⟩ := hf
   exact ⟨ds, row hd, rfl⟩
  | ifc t c =>
   simp only [zy5w, Option.map_eq_some_iff] at hf ⊢
   obtain ⟨d, hd, rfl⟩ := hf
   exact ⟨d, ih _ _ hd, rfl⟩
  | rp id off =>
   simp only [zy5w, Option.bind_eq_some_iff, Option.map_eq_some_iff] at hf ⊢
   obtain ⟨cs, hl, ds, hd, rfl⟩ := hf
   exact ⟨cs, zyad ex hl, ds, row hd, rfl⟩
  | rs sz id off n =>
   simp only [zy5w, Option.bind_eq_some_iff] at hf ⊢
   obtain ⟨cs, hl, hf⟩ := hf
   refine ⟨cs, zyad ex hl, ?_⟩
   split at hf
   case isFalse => cases hf
   rename_i hb
   rw [if_pos hb]
   simp only [Option.map_eq_some_iff] at hf ⊢
   obtain ⟨ds, hd, rfl⟩ := hf
   exact ⟨ds, row hd, rfl⟩
  | rc sz id off n k' =>
   simp only [zy5w, Option.bind_eq_some_iff] at hf ⊢
   obtain ⟨cs, hl, hf⟩ := hf
   refine ⟨cs, zyad ex hl, ?_⟩
   split at hf
   case isFalse => cases hf
   rename_i hb
   rw [if_pos hb]
   simp only [Option.map_eq_some_iff] at hf ⊢
   obtain ⟨ds, hd, rfl⟩ := hf
   exact ⟨ds, row hd, rfl⟩
  | rm id =>
   simp only [zy5w, Option.bind_eq_some_iff] at hf ⊢
   obtain ⟨cs, hl, hf⟩ := hf
   refine ⟨cs, zyad ex hl, ?_⟩
   split at hf
   ·simp only [Option.map_eq_some_iff] at hf ⊢
    obtain ⟨ds, hd, rfl⟩ := hf
    exact ⟨ds, row hd, rfl⟩
   ·cases hf
  | _ => first | exact hf | cases hf

theorem zy5x {h : Heap} (hh : HRep w μ A h) (ex : Heap) : ∀ (k : Nat) (c : AV) (v : Value), Rep w μ A c v → zy5w k (h ++ ex) c = zy5w k h c := by
 intro k
 induction k with
 | zero => intro c v _; rfl
 | succ k ih =>
  intro c v hr
  have row : ∀ {cs : List AV}, (∀ c ∈ cs, ∃ v, Rep w μ A c v) → cs.mapM (zy5w k (h ++ ex)) = cs.mapM (zy5w k h) := fun hm => zyb2 fun x hx => by
   obtain ⟨v, hv⟩ := hm x hx
   exact ih x v hv
  have ofL : ∀ {cs : List AV} {vs : List Value}, RepL w μ A cs vs → ∀ c ∈ cs, ∃ v, Rep w μ A c v := fun hl c hc => by
   obtain ⟨j, hj⟩ := List.getElem?_of_mem hc
   obtain ⟨v, _, hv⟩ := hl.get hj
   exact ⟨v, hv⟩
  have blk : ∀ {id : Nat} {cs : List AV}, live h id = some cs → (∀ b r, μ[id]? = some (some (b, r)) → b.spot = none) → ∀ c ∈ cs, ∃ v, Rep w μ A c v := fun {id cs} hl hsp c hc => by
   have hlv := hh.liv id
   rw [hl] at hlv
   cases hm : μ[id]? with
   | none => rw [hm] at hlv; simp at hlv
   | some q =>
    cases q with
    | none => rw [hm] at hlv; simp at hlv
    | some br =>
     obtain ⟨_, _, arr, e, fr, _, _, _, h3⟩ := hh.blk id cs br.1 br.2 hl hm (hsp _ _ hm)
     obtain ⟨j, hj⟩ := List.getElem?_of_mem hc
     obtain ⟨v, _, hv⟩ := h3 j c hj
     exact ⟨v, hv⟩
  cases c with
  | agg cs =>
   obtain ⟨vs, rfl, hv⟩ := hr.agg_inv
   simp only [zy5w, row (ofL hv)]
  | tup cs =>
   obtain ⟨vs, rfl, hv⟩ := hr.tup_inv
   simp only [zy5w, row (ofL hv)]
  | fn f cs =>
   obtain ⟨vs, rfl, hv⟩ := hr.fn_inv
   simp only [zy5w, row (ofL hv)]
  | ifc t c =>
   cases hr with
   | ifc _ _ v h => simp only [zy5w, ih _ _ h]
  | ip cs =>
   cases hr with
   | ip _ a val g0 g1 g2 g3 =>
    simp only [zy5w, row fun c hc => by
     obtain ⟨j, hj⟩ := List.getElem?_of_mem hc
     exact ⟨_, g3 j c hj⟩]
  | is n full cs =>
   cases hr with
   | nils f => rfl
   | is _ _ _ a c val g0 g1 g2 g3 g4 g5 =>
    simp only [zy5w, row fun c hc => by
     obtain ⟨j, hj⟩ := List.getElem?_of_mem hc
     exact ⟨_, g3 j c hj⟩]
  | rp id off =>
   cases hr with
   | rp _ _ x h0 h1 =>
    have hid : id < h.length := by rw [← hh.len]; exact h0
    simp only [zy5w, zyac ex hid]
    cases hl : live h id with
    | none => rfl
    | some cs =>
     simp only [Option.bind_some]
     rw [row fun c hc => blk hl (fun b r hm => (h1 b r hm).1) c (List.mem_of_mem_drop hc)]
  | rs sz id off n =>
   cases hr with
   | rs _ _ _ _ x c h0 h1 h2 h3 =>
    have hid : id < h.length := by rw [← hh.len]; exact h0
    simp only [zy5w, zyac ex hid]
    cases hl : live h id with
    | none => rfl
    | some cs =>
     simp only [Option.bind_some]
     rw [row fun c hc => blk hl (fun b r hm => (h2 b r hm).1) c (List.mem_of_mem_drop (List.mem_of_mem_take hc))]
  | rc sz id off n k' =>
   cases hr with
   | rc _ _ _ _ _ x c h0 h1 h2 h3 h4 =>
    have hid : id < h.length := by rw [← hh.len]; exact h0
    simp only [zy5w, zyac ex hid]
    cases hl : live h id with
    | none => rfl
    | some cs =>
     simp only [Option.bind_some]
     rw [row fun c hc => blk hl (fun b r hm => (h2 b r hm).1) c (List.mem_of_mem_drop (List.mem_of_mem_take hc))]
  | im es =>
   cases hr with
   | im _ b ent ck g0 g1 g2 =>
    simp only [zy5w, row fun c hc => by
     obtain ⟨j, hj⟩ := List.getElem?_of_mem hc
     exact ⟨_, g2 j c hj⟩]
  | rm id =>
   cases hr with
   | rm _ b h0 h1 =>
    have hid : id < h.length := by rw [← hh.len]; exact h0
    simp only [zy5w, zyac ex hid]
    cases hl : live h id with
    | none => rfl
    | some cs =>
     simp only [Option.bind_some]
     have hlv := hh.liv id
     rw [hl] at hlv
     cases hm : μ[id]? with
     | none => rw [hm] at hlv; simp at hlv
     | some q =>
      cases q with
      | none => rw [hm] at hlv; simp at hlv
      | some br =>
       have ea := h1 br.1 br.2 hm
       obtain ⟨es, ent, ck, rfl, _, _, he⟩ := (hh.mp id cs br.1 br.2 hl hm (by rw [ea]; simp)).map (by rw [ea])
       simp only
       rw [row fun c hc => by
        obtain ⟨j, hj⟩ := List.getElem?_of_mem hc
        exact ⟨_, he j c hj⟩]
  | _ => rfl

theorem zy60 (h h' : Heap) : ∀ (k m : Nat) (c : AV), zyca m c = true → zy5w k h' c = zy5w k h c := by
 intro k
 induction k with
 | zero => intro m c _; rfl
 | succ k ih =>
  intro m c hn
  cases m with
  | zero => cases hn
  | succ m =>
   have row : ∀ {cs : List AV}, cs.all (zyca m) = true → cs.mapM (zy5w k h') = cs.mapM (zy5w k h) := fun hm => zyb2 fun x hx => ih m x (List.all_eq_true.1 hm x hx)
   cases c with
   | agg cs | tup cs | fn f cs | ip cs | is n full cs | im cs => simp only [zy5w, row hn]
   | ifc t c => simp only [zy5w, ih m c hn]
   | rp id off => cases hn
   | rs sz id off n => cases hn
   | rc sz id off n k => cases hn
   | rm id => cases hn
   | _ => rfl

def Known (w : World) (μ : Mu) (A : Nat → Prop) (c : AV) : Prop := noRef c = true ∨ ∃ v, Rep w μ A c v
theorem Known.fz {h : Heap} (hh : HRep w μ A h) (ex : Heap) {c : AV} (hk : Known w μ A c) : zy5v (h ++ ex) c = zy5v h c := by
 rcases hk with hk | ⟨v, hv⟩
 ·exact zy60 h (h ++ ex) 12 12 c hk
 ·exact zy5x hh ex 12 c v hv
theorem Known.lt_rp {h : Heap} (hh : HRep w μ A h) {id off : Nat} (hk : Known w μ A (.rp id off)) : id < h.length := by
 rcases hk with hk | ⟨v, hv⟩
 ·cases hk
 ·cases hv with
  | rp _ _ x h0 h1 => rw [← hh.len]; exact h0
theorem Known.lt_rm {h : Heap} (hh : HRep w μ A h) {id : Nat} (hk : Known w μ A (.rm id)) : id < h.length := by
 rcases hk with hk | ⟨v, hv⟩
 ·cases hk
 ·cases hv with
  | rm _ b h0 h1 => rw [← hh.len]; exact h0
theorem zyb8 {h ex : Heap} {x : AV} {es : List AV} (hv : mapOf h x = some es) : mapOf (h ++ ex) x = some es := by
 cases x <;> try exact hv
 case rm id =>
  simp only [mapOf] at hv ⊢
  split at hv
  ·rename_i hl
   cases hv
   rw [zyad ex hl]
  ·cases hv
theorem zyba {h ex : Heap} (hh : HRep w μ A h) {x : AV} (hk : Known w μ A x) : mapOf (h ++ ex) x = mapOf h x := by
 cases x <;> try rfl
 case rm id => simp only [mapOf, zyac ex (hk.lt_rm hh)]
theorem Known.lt_rs {h : Heap} (hh : HRep w μ A h) {sz id off n : Nat} (hk : Known w μ A (.rs sz id off n)) : id < h.length := by
 rcases hk with hk | ⟨v, hv⟩
 ·cases hk
 ·cases hv with
  | rs _ _ _ _ x c h0 h1 h2 h3 => rw [← hh.len]; exact h0

theorem Known.lt_rc {h : Heap} (hh : HRep w μ A h) {sz id off n k : Nat} (hk : Known w μ A (.rc sz id off n k)) : id < h.length := by
 rcases hk with hk | ⟨v, hv⟩
 ·cases hk
 ·cases hv with
  | rc _ _ _ _ _ x c h0 h1 h2 h3 h4 => rw [← hh.len]; exact h0

theorem zyd6 {h ex : Heap} {ag : Option Nat} {a v : AV} (hv : zyd4 h ag a = some v) : zyd4 (h ++ ex) ag a = some v := by
 cases a with
 | ip cs => exact hv
 | rp id off =>
  simp only [zyd4, Option.bind_eq_some_iff] at hv ⊢
  obtain ⟨cs, hl, hv⟩ := hv
  exact ⟨cs, zyad ex hl, hv⟩
 | _ => cases hv
theorem zyct {h ex : Heap} {sz len : Nat} {a v : AV} (hv : zycs h sz len a = some v) : zycs (h ++ ex) sz len a = some v := by
 cases a with
 | ip cs => exact hv
 | rp id off =>
  simp only [zycs, Option.bind_eq_some_iff] at hv ⊢
  obtain ⟨cs, hl, hv⟩ := hv
  exact ⟨cs, zyad ex hl, hv⟩
 | _ => cases hv
theorem zy4k {h ex : Heap} {sz : Nat} {a : AV} {r : Nat × List AV} (hv : zy4j h sz a = some r) : zy4j (h ++ ex) sz a = some r := by
 cases a with
 | rs sz' id off n =>
  simp only [zy4j, Option.bind_eq_some_iff] at hv ⊢
  obtain ⟨cs, hl, hv⟩ := hv
  exact ⟨cs, zyad ex hl, hv⟩
 | rc sz' id off n k =>
  simp only [zy4j, Option.bind_eq_some_iff] at hv ⊢
  obtain ⟨cs, hl, hv⟩ := hv
  exact ⟨cs, zyad ex hl, hv⟩
 | _ => first | exact hv | cases hv
theorem zycv {h : Heap} {a : AV} : opB2s h a = if a.notStr = true then (zy4j h 1 a).bind fun (_, cs) => (zy1x cs).map fun l => .str ⟨l.toArray⟩ else none := by
 cases a <;> rfl

theorem zyeq {C : Oracle} {refm : Nat → Bool} {x : AI} {t : List AV} {h ex : Heap} {v : AV} {h1 : Heap} (hx : x.op.heed refm ≤ 1) (hv : stepA C refm x ⟨t, h⟩ = some (v, h1)) : stepA C refm x ⟨t, h ++ ex⟩ = some (v, h ++ ex) := by
 obtain ⟨dst, op, g⟩ := x
 have hget : ∀ o, St.get ⟨t, h⟩ o = St.get ⟨t, h ++ ex⟩ o := fun o => by cases o <;> rfl
 have h0 : h1 = h := ((zygm (s := ⟨t, h⟩) (s' := ⟨t, h⟩) (fun _ _ => rfl) (fun _ => rfl) hv).2 (by omega)).1
 subst h0
 by_cases h00 : op.heed refm = 0
 ·exact ((zygm (s := ⟨t, h1⟩) (s' := ⟨t, h1 ++ ex⟩) (fun _ _ => rfl) (fun h => absurd h (by show ¬ 1 ≤ op.heed refm; omega)) hv).2 (by show op.heed refm < 2; omega)).2
 ·cases op with
  | call f args =>
   cases f with
   | t n => exact absurd hx (by show ¬ 2 ≤ 1; omega)
   | c fv =>
    cases fv with
    | fn g caps =>
     have hr : refm g = false := by
      cases hr : refm g
      ·rfl
      ·exfalso
       have : (AOp.call (.c (.fn g caps)) args).heed refm = 2 := by show (bif refm g then 2 else 1) = 2; rw [hr]; rfl
       simp only [this] at hx
       omega
     have hv' : zy2o C refm h1 (.fn g caps) (args.map (St.get ⟨t, h1⟩)) = some (v, h1) := hv
     show zy2o C refm (h1 ++ ex) (.fn g caps) (args.map (St.get ⟨t, h1 ++ ex⟩)) = some (v, h1 ++ ex)
     have ea : args.map (St.get ⟨t, h1 ++ ex⟩) = args.map (St.get ⟨t, h1⟩) := List.map_congr_left fun o _ => (hget o).symm
     rw [ea]
     simp only [zy2o, hr, cond_false, Option.map_eq_some_iff, Prod.mk.injEq] at hv' ⊢
     obtain ⟨u, hu, rfl, _⟩ := hv'
     refine ⟨u, ?_, rfl, trivial⟩
     simp only [byVal, Option.bind_eq_some_iff] at hu ⊢
     obtain ⟨fs, hf, hu⟩ := hu
     exact ⟨fs, zyb3 (fun y _ z hz => zy5y h1 ex 12 y z hz) hf, hu⟩
    | _ => exact absurd hx (by show ¬ 2 ≤ 1; omega)
  | load ag a =>
   have hv' : (zyd4 h1 ag (St.get ⟨t, h1⟩ a)).map (fun v => (v, h1)) = some (v, h1) := hv
   show (zyd4 (h1 ++ ex) ag (St.get ⟨t, h1 ++ ex⟩ a)).map (fun v => (v, h1 ++ ex)) = _
   simp only [Option.map_eq_some_iff, Prod.mk.injEq] at hv' ⊢
   obtain ⟨u, hu, rfl, _⟩ := hv'
   rw [hget] at hu
   exact ⟨u, zyd6 hu, rfl, trivial⟩
  | arrs sz len a =>
   have hv' : (zycs h1 sz len (St.get ⟨t, h1⟩ a)).map (fun v => (v, h1)) = some (v, h1) := hv
   show (zycs (h1 ++ ex) sz len (St.get ⟨t, h1 ++ ex⟩ a)).map (fun v => (v, h1 ++ ex)) = _
   simp only [Option.map_eq_some_iff, Prod.mk.injEq] at hv' ⊢
   obtain ⟨u, hu, rfl, _⟩ := hv'
   rw [hget] at hu
   exact ⟨u, zyct hu, rfl, trivial⟩
  | b2s a =>
   have hv' : (opB2s h1 (St.get ⟨t, h1⟩ a)).map (fun v => (v, h1)) = some (v, h1) := hv
   show (opB2s (h1 ++ ex) (St.get ⟨t, h1 ++ ex⟩ a)).map (fun v => (v, h1 ++ ex)) = _
   simp only [Option.map_eq_some_iff, Prod.mk.injEq] at hv' ⊢
   obtain ⟨u, hu, rfl, _⟩ := hv'
   refine ⟨u, ?_, rfl, trivial⟩
   rw [hget, zycv] at hu
   rw [zycv]
   split at hu
   ·rename_i hs
    rw [if_pos hs]
    simp only [Option.bind_eq_some_iff] at hu ⊢
    obtain ⟨r, hr, hu⟩ := hu
    exact ⟨r, zy4k hr, hu⟩
   ·cases hu
  | lkp L z ok a i =>
   have hv' : (opLkp h1 L z ok (St.get ⟨t, h1⟩ a) (St.get ⟨t, h1⟩ i)).map (fun v => (v, h1)) = some (v, h1) := hv
   show (opLkp (h1 ++ ex) L z ok (St.get ⟨t, h1 ++ ex⟩ a) (St.get ⟨t, h1 ++ ex⟩ i)).map (fun v => (v, h1 ++ ex)) = _
   simp only [Option.map_eq_some_iff, Prod.mk.injEq] at hv' ⊢
   obtain ⟨u, hu, rfl, _⟩ := hv'
   rw [hget, hget] at hu
   simp only [opLkp, Option.bind_eq_some_iff] at hu ⊢
   obtain ⟨es, hm, hu⟩ := hu
   exact ⟨u, ⟨es, zyb8 hm, hu⟩, rfl, trivial⟩
  | mlen a =>
   have hv' : (zyd8 h1 (St.get ⟨t, h1⟩ a)).map (fun v => (v, h1)) = some (v, h1) := hv
   show (zyd8 (h1 ++ ex) (St.get ⟨t, h1 ++ ex⟩ a)).map (fun v => (v, h1 ++ ex)) = _
   simp only [Option.map_eq_some_iff, Prod.mk.injEq] at hv' ⊢
   obtain ⟨u, hu, rfl, _⟩ := hv'
   rw [hget] at hu
   simp only [zyd8, Option.map_eq_some_iff] at hu ⊢
   obtain ⟨es, hm, rfl⟩ := hu
   exact ⟨_, ⟨es, zyb8 hm, rfl⟩, rfl, trivial⟩
  | _ => first | exact absurd rfl h00 | exact absurd hx (by show ¬ 2 ≤ 1; omega)

theorem zyer {C : Oracle} {refm : Nat → Bool} {x : AI} {t : List AV} {h ex : Heap} {v : AV} {h1 : Heap} (hx : x.op.heed refm ≤ 1) (hh : HRep w μ A h) (hk : ∀ o ∈ x.op.opds, Known w μ A (St.get ⟨t, h⟩ o)) (hv : stepA C refm x ⟨t, h ++ ex⟩ = some (v, h1)) : stepA C refm x ⟨t, h⟩ = some (v, h) := by
 obtain ⟨dst, op, g⟩ := x
 have hget : ∀ o, St.get ⟨t, h ++ ex⟩ o = St.get ⟨t, h⟩ o := fun o => by cases o <;> rfl
 have h0 : h1 = h ++ ex := ((zygm (s := ⟨t, h ++ ex⟩) (s' := ⟨t, h ++ ex⟩) (fun _ _ => rfl) (fun _ => rfl) hv).2 (by show op.heed refm < 2; have : op.heed refm ≤ 1 := hx; omega)).1
 subst h0
 by_cases h00 : op.heed refm = 0
 ·exact ((zygm (s := ⟨t, h ++ ex⟩) (s' := ⟨t, h⟩) (fun _ _ => rfl) (fun h => absurd h (by show ¬ 1 ≤ op.heed refm; omega)) hv).2 (by show op.heed refm < 2; omega)).2
 ·cases op with
  | call f args =>
   cases f with
   | t n => exact absurd hx (by show ¬ 2 ≤ 1; omega)
   | c fv =>
    cases fv with
    | fn g caps =>
     have hr : refm g = false := by
      cases hr : refm g
      ·rfl
      ·exfalso
       have : (AOp.call (.c (.fn g caps)) args).heed refm = 2 := by show (bif refm g then 2 else 1) = 2; rw [hr]; rfl
       simp only [this] at hx
       omega
     have hv' : zy2o C refm (h ++ ex) (.fn g caps) (args.map (St.get ⟨t, h ++ ex⟩)) = some (v, h ++ ex) := hv
     show zy2o C refm h (.fn g caps) (args.map (St.get ⟨t, h⟩)) = some (v, h)
     have ea : args.map (St.get ⟨t, h ++ ex⟩) = args.map (St.get ⟨t, h⟩) := List.map_congr_left fun o _ => hget o
     rw [ea] at hv'
     simp only [zy2o, hr, cond_false, Option.map_eq_some_iff, Prod.mk.injEq] at hv' ⊢
     obtain ⟨u, hu, rfl, _⟩ := hv'
     refine ⟨u, ?_, rfl, trivial⟩
     have hcap : ∀ c ∈ caps, Known w μ A c := fun c hc => by
      have := hk (.c (.fn g caps)) (List.mem_cons_self ..)
      rcases this with h1 | ⟨v, hv⟩
      ·left
       have h2 : caps.all (zyca 11) = true := h1
       have h3 := List.all_eq_true.1 h2 c hc
       have up : ∀ (k : Nat) (c : AV), zyca k c = true → zyca (k + 1) c = true := by
        intro k
        induction k with
        | zero => intro c h; cases h
        | succ k ih =>
         intro c h
         cases c with
         | agg cs | tup cs | fn f cs | ip cs | is n full cs | im cs => exact List.all_eq_true.2 fun x hx => ih x (List.all_eq_true.1 h x hx)
         | ifc t c => exact ih c h
         | rp id off => cases h
         | rs sz id off n => cases h
         | rc sz id off n k => cases h
         | rm id => cases h
         | _ => first | rfl | cases h
       exact up 11 c h3
      ·right
       obtain ⟨vs, _, hl⟩ := Rep.fn_inv hv
       obtain ⟨j, hj⟩ := List.getElem?_of_mem hc
       obtain ⟨v, _, hv⟩ := hl.get hj
       exact ⟨v, hv⟩
     have hall : ∀ c ∈ args.map (St.get ⟨t, h⟩) ++ caps, Known w μ A c := fun c hc => by
      rcases List.mem_append.1 hc with hc | hc
      ·obtain ⟨o, ho, rfl⟩ := List.mem_map.1 hc
       exact hk o (List.mem_cons_of_mem _ ho)
      ·exact hcap c hc
     simp only [byVal] at hu ⊢
     rw [zyb2 (f := zy5v (h ++ ex)) (g := zy5v h) fun c hc => (hall c hc).fz hh ex] at hu
     exact hu
    | _ => exact absurd hx (by show ¬ 2 ≤ 1; omega)
  | load ag a =>
   have hv' : (zyd4 (h ++ ex) ag (St.get ⟨t, h ++ ex⟩ a)).map (fun v => (v, h ++ ex)) = some (v, h ++ ex) := hv
   show (zyd4 h ag (St.get ⟨t, h⟩ a)).map (fun v => (v, h)) = _
   simp only [Option.map_eq_some_iff, Prod.mk.injEq] at hv' ⊢
   obtain ⟨u, hu, rfl, _⟩ := hv'
   refine ⟨u, ?_, rfl, trivial⟩
   rw [hget] at hu
   have := hk a (List.mem_cons_self ..)
   generalize St.get ⟨t, h⟩ a = z at hu this
   cases z with
   | rp id off => simpa only [zyd4, zyac ex (this.lt_rp hh)] using hu
   | ip cs => exact hu
   | _ => cases hu
  | arrs sz len a =>
   have hv' : (zycs (h ++ ex) sz len (St.get ⟨t, h ++ ex⟩ a)).map (fun v => (v, h ++ ex)) = some (v, h ++ ex) := hv
   show (zycs h sz len (St.get ⟨t, h⟩ a)).map (fun v => (v, h)) = _
   simp only [Option.map_eq_some_iff, Prod.mk.injEq] at hv' ⊢
   obtain ⟨u, hu, rfl, _⟩ := hv'
   refine ⟨u, ?_, rfl, trivial⟩
   rw [hget] at hu
   have := hk a (List.mem_cons_self ..)
   generalize St.get ⟨t, h⟩ a = z at hu this
   cases z with
   | rp id off => simpa only [zycs, zyac ex (this.lt_rp hh)] using hu
   | ip cs => exact hu
   | _ => cases hu
  | b2s a =>
   have hv' : (opB2s (h ++ ex) (St.get ⟨t, h ++ ex⟩ a)).map (fun v => (v, h ++ ex)) = some (v, h ++ ex) := hv
   show (opB2s h (St.get ⟨t, h⟩ a)).map (fun v => (v, h)) = _
   simp only [Option.map_eq_some_iff, Prod.mk.injEq] at hv' ⊢
   obtain ⟨u, hu, rfl, _⟩ := hv'
   refine ⟨u, ?_, rfl, trivial⟩
   rw [hget] at hu
   have := hk a (List.mem_cons_self ..)
   generalize St.get ⟨t, h⟩ a = z at hu this
   cases z with
   | rs sz id off n => simpa only [opB2s, zy4j, zyac ex (this.lt_rs hh)] using hu
   | rc sz id off n k => simpa only [opB2s, zy4j, zyac ex (this.lt_rc hh)] using hu
   | _ => first | exact hu | cases hu
  | lkp L z ok a i =>
   have hv' : (opLkp (h ++ ex) L z ok (St.get ⟨t, h ++ ex⟩ a) (St.get ⟨t, h ++ ex⟩ i)).map (fun v => (v, h ++ ex)) = some (v, h ++ ex) := hv
   show (opLkp h L z ok (St.get ⟨t, h⟩ a) (St.get ⟨t, h⟩ i)).map (fun v => (v, h)) = _
   simp only [Option.map_eq_some_iff, Prod.mk.injEq] at hv' ⊢
   obtain ⟨u, hu, rfl, _⟩ := hv'
   refine ⟨u, ?_, rfl, trivial⟩
   rw [hget, hget] at hu
   simp only [opLkp, zyba hh (hk a (List.mem_cons_self ..))] at hu ⊢
   exact hu
  | mlen a =>
   have hv' : (zyd8 (h ++ ex) (St.get ⟨t, h ++ ex⟩ a)).map (fun v => (v, h ++ ex)) = some (v, h ++ ex) := hv
   show (zyd8 h (St.get ⟨t, h⟩ a)).map (fun v => (v, h)) = _
   simp only [Option.map_eq_some_iff, Prod.mk.injEq] at hv' ⊢
   obtain ⟨u, hu, rfl, _⟩ := hv'
   refine ⟨u, ?_, rfl, trivial⟩
   rw [hget] at hu
   simp only [zyd8, zyba hh (hk a (List.mem_cons_self ..))] at hu ⊢
   exact hu
  | _ => first | exact absurd rfl h00 | exact absurd hx (by show ¬ 2 ≤ 1; omega)

theorem zy6h {s : St} {op : AOp} {v : AV} {h' : Heap} (hg : op.grows = true) (hv : memOp s op = some (v, h')) : ∃ b, h' = s.h ++ [b] := by
 cases op with
 | box x =>
  have hv : opBox s.h (s.get x) = some (v, h') := hv
  cases hx : s.get x <;> rw [hx] at hv <;> first | (simp only [opBox, Option.some.injEq, Prod.mk.injEq] at hv; exact ⟨_, hv.2.symm⟩) | cases hv
 | zbox cs =>
  have hv : zydr s.h cs = some (v, h') := hv
  simp only [zydr, Option.some.injEq, Prod.mk.injEq] at hv
  exact ⟨_, hv.2.symm⟩
 | mks sz z n c =>
  have hv : opMks s.h sz z (s.get n) (s.get c) = some (v, h') := hv
  unfold opMks at hv
  split at hv
  ·split at hv
   ·simp only [Option.some.injEq, Prod.mk.injEq] at hv
    exact ⟨_, hv.2.symm⟩
   ·cases hv
  ·cases hv
 | s2b x =>
  have hv : opS2b s.h (s.get x) = some (v, h') := hv
  unfold opS2b at hv
  split at hv
  ·split at hv
   ·simp only [Option.some.injEq, Prod.mk.injEq] at hv
    exact ⟨_, hv.2.symm⟩
   ·cases hv
  ·cases hv
 | mkm =>
  have hv : some (AV.rm s.h.length, s.h ++ [some [.mpc []]]) = some (v, h') := hv
  cases hv
  exact ⟨_, rfl⟩
 | _ => cases hg

theorem least' {p : Nat → Prop} (h : ∃ k, p k) : ∃ k, p k ∧ ∀ j, p j → k ≤ j := by
 obtain ⟨k, hk⟩ := h
 induction k using Nat.strongRecOn with
 | _ k ih =>
  by_cases hc : ∃ j, p j ∧ j < k
  ·obtain ⟨j, hj, hlt⟩ := hc
   exact ih j hlt hj
  ·exact ⟨k, hk, fun j hj => by
    rcases Nat.lt_or_ge j k with h | h
    ·exact absurd ⟨j, hj, h⟩ hc
    ·exact h⟩

section draws
variable (l : List AI) (refm : Nat → Bool) (S : Nat → St) (V : Nat → AV)

def valD (L : Nat → Bool) : Nat → Nat → AV
 | 0, x => (S 0).t.getD x .junk
 | k + 1, x => if L k = true ∧ (l[k]?).bind (·.dst) = some x then V k else valD L k x

def heapD (L : Nat → Bool) : Nat → Heap
 | 0 => (S 0).h
 | k + 1 => if L k = true ∧ 2 ≤ ((l[k]?).map (·.op.heed refm)).getD 0 then (S (k + 1)).h else heapD L k

theorem zyhu (L : Nat → Bool) (k x : Nat) : valD l S V L (k + 1) x = if L k = true ∧ (l[k]?).bind (·.dst) = some x then V k else valD l S V L k x := rfl
theorem zy6x (L : Nat → Bool) (k : Nat) : heapD l refm S L (k + 1) = if L k = true ∧ 2 ≤ ((l[k]?).map (·.op.heed refm)).getD 0 then (S (k + 1)).h else heapD l refm S L k := rfl

theorem zyht (L : Nat → Bool) (x i : Nat) : ∀ k, i ≤ k → (∀ j, i ≤ j → j < k → L j = true → (l[j]?).bind (·.dst) ≠ some x) → valD l S V L k x = valD l S V L i x
 | 0, h, _ => by
   have : i = 0 := by omega
   subst this; rfl
 | k + 1, h, hn => by
  by_cases hi : i = k + 1
  ·subst hi; rfl
  ·rw [zyhu, if_neg (fun ⟨h1, h2⟩ => hn k (by omega) (by omega) h1 h2)]
   exact zyht L x i k (by omega) (fun j h1 h2 => hn j h1 (by omega))

theorem zyhs (L M : Nat → Bool) (x : Nat) : ∀ k, (∀ j, j < k → (l[j]?).bind (·.dst) = some x → L j = M j) → valD l S V L k x = valD l S V M k x
 | 0, _ => rfl
 | k + 1, h => by
  rw [zyhu, zyhu, zyhs L M x k (fun j hj => h j (by omega))]
  by_cases hd : (l[k]?).bind (·.dst) = some x
  ·rw [h k (by omega) hd]
  ·rw [if_neg (fun ⟨_, h⟩ => hd h), if_neg (fun ⟨_, h⟩ => hd h)]

theorem zy6w (L : Nat → Bool) (i : Nat) : ∀ k, i ≤ k → (∀ j, i ≤ j → j < k → L j = true → ¬ 2 ≤ ((l[j]?).map (·.op.heed refm)).getD 0) → heapD l refm S L k = heapD l refm S L i
 | 0, h, _ => by
   have : i = 0 := by omega
   subst this; rfl
 | k + 1, h, hn => by
  by_cases hi : i = k + 1
  ·subst hi; rfl
  ·rw [zy6x, if_neg (fun ⟨h1, h2⟩ => hn k (by omega) (by omega) h1 h2)]
   exact zy6w L i k (by omega) (fun j h1 h2 => hn j h1 (by omega))

theorem zy6v (L M : Nat → Bool) : ∀ k, (∀ j, j < k → 2 ≤ ((l[j]?).map (·.op.heed refm)).getD 0 → L j = M j) → heapD l refm S L k = heapD l refm S M k
 | 0, _ => rfl
 | k + 1, h => by
  rw [zy6x, zy6x, zy6v L M k (fun j hj => h j (by omega))]
  by_cases hd : 2 ≤ ((l[k]?).map (·.op.heed refm)).getD 0
  ·rw [h k (by omega) hd]
  ·rw [if_neg (fun ⟨_, h⟩ => hd h), if_neg (fun ⟨_, h⟩ => hd h)]

end draws

theorem zyic {s s' : St} : ∀ (g : List (Nat × Bool)), (∀ p ∈ g, s.t.getD p.1 .junk = s'.t.getD p.1 .junk) → s.wanted g = s'.wanted g
 | [], _ => rfl
 | (n, b) :: l, h => by
  have hs : ∀ (l : List (Nat × Bool)), (∀ p ∈ l, s.t.getD p.1 .junk = s'.t.getD p.1 .junk) → zyga s l = zyga s' l := by
   intro l
   induction l with
   | nil => intro _; rfl
   | cons x l ih =>
    intro h
    cases l with
    | nil => simp only [zyga, h x (List.mem_cons_self ..)]
    | cons y l => exact ih fun p hp => h p (List.mem_cons_of_mem _ hp)
  unfold St.wanted
  rw [h (n, b) (List.mem_cons_self ..), zyic l (fun p hp => h p (List.mem_cons_of_mem _ hp)), hs l (fun p hp => h p (List.mem_cons_of_mem _ hp))]

theorem tget_set (t : List AV) (d : Nat) (v : AV) (x : Nat) (hx : x < t.length) : (t.set d v).getD x .junk = if d = x then v else t.getD x .junk := by
 rw [List.getD_eq_getElem?_getD, List.getElem?_set]
 by_cases h : d = x
 ·subst h; rw [if_pos rfl, if_pos rfl, if_pos hx]; rfl
 ·rw [if_neg h, if_neg h, List.getD_eq_getElem?_getD]

theorem zyee (s : St) (d : Option Nat) (v : AV) : (s.put d v).t.length = s.t.length := by cases d <;> simp [St.put]
theorem put_h (s : St) (d : Option Nat) (v : AV) : (s.put d v).h = s.h := by cases d <;> rfl
theorem zyed (s : St) (d : Option Nat) (v : AV) (x : Nat) (hx : x < s.t.length) : (s.put d v).t.getD x .junk = if d = some x then v else s.t.getD x .junk := by
 cases d with
 | none => simp [St.put]
 | some d => simp only [St.put, tget_set _ _ _ _ hx, Option.some.injEq]

def left_ (L : Nat → Bool) : Nat → Nat
 | 0 => 0
 | k + 1 => left_ L k + if L k = true then 0 else 1

theorem zy9p (L : Nat → Bool) : ∀ k, left_ L k ≤ k
 | 0 => Nat.le_refl _
 | k + 1 => by
  have := zy9p L k
  unfold left_
  split <;> omega

theorem St.ext' {s s' : St} (hl : s.t.length = s'.t.length) (hg : ∀ x, x < s.t.length → s.t.getD x .junk = s'.t.getD x .junk) (hh : s.h = s'.h) : s = s' := by
 obtain ⟨t, h⟩ := s
 obtain ⟨t', h'⟩ := s'
 simp only at hl hg hh
 subst hh
 congr 1
 apply List.ext_getElem hl
 intro n h1 h2
 have := hg n h1
 rw [List.getD_eq_getElem?_getD, List.getElem?_eq_getElem h1, List.getD_eq_getElem?_getD, List.getElem?_eq_getElem h2] at this
 exact this

theorem zy9t (L M : Nat → Bool) : ∀ k, (∀ j, j < k → L j = M j) → left_ L k = left_ M k
 | 0, _ => rfl
 | k + 1, h => by unfold left_; rw [zy9t L M k (fun j hj => h j (by omega)), h k (by omega)]

theorem zy9r (L M : Nat → Bool) (i : Nat) (hi : L i = false) (hm : M i = true) (h : ∀ j, j ≠ i → L j = M j) : ∀ k, i < k → left_ L k = left_ M k + 1
 | 0, hk => by omega
 | k + 1, hk => by
  unfold left_
  by_cases hik : i = k
  ·subst hik
   rw [zy9t L M i (fun j hj => h j (by omega)), hi, hm]
   simp
  ·rw [zy9r L M i hi hm h k (by omega), h k (fun e => hik e.symm)]
   omega

theorem zy9s (L : Nat → Bool) : ∀ k, left_ L k ≠ 0 → ∃ m, m < k ∧ L m = false ∧ ∀ j, j < m → L j = true
 | 0, h => absurd rfl h
 | k + 1, h => by
  by_cases h0 : left_ L k = 0
  ·unfold left_ at h
   rw [h0] at h
   have all : ∀ k, left_ L k = 0 → ∀ j, j < k → L j = true := by
    intro k
    induction k with
    | zero => intro _ j hj; omega
    | succ k ih =>
     intro hk j hj
     unfold left_ at hk
     by_cases hjk : j = k
     ·subst hjk
      cases hL : L j
      ·rw [hL] at hk; simp at hk
      ·rfl
     ·exact ih (by omega) j (by omega)
   refine ⟨k, by omega, ?_, all k h0⟩
   cases hL : L k
   ·rfl
   ·rw [hL] at h; simp at h
  ·obtain ⟨m, h1, h2, h3⟩ := zy9s L k h0
   exact ⟨m, by omega, h2, h3⟩

theorem zy9q (L : Nat → Bool) : ∀ k, left_ L k = 0 → ∀ j, j < k → L j = true
 | 0, _, j, hj => by omega
 | k + 1, h, j, hj => by
  unfold left_ at h
  by_cases hjk : j = k
  ·subst hjk
   cases hL : L j
   ·rw [hL] at h; simp at h
   ·rfl
  ·exact zy9q L k (by omega) j (by omega)

def zy01 (ops : Array Oper) (L : Nat → Bool) : Prop := ∀ j o, ops[j]? = some o → L j = true → ∀ e ∈ o.after, Region.binds .any e = true → L e.on = true

theorem zy0w {ops : Array Oper} {L : Nat → Bool} (hc : zy01 ops L) : ∀ (k j i : Nat), zy0v ops k j i = true → (∀ o, ops[j]? = some o → ∀ e ∈ o.after, Region.binds .any e = true → L e.on = true) → L i = true
 | 0, j, i, h, _ => by cases h
 | k + 1, j, i, h, hj => by
  unfold zy0v at h
  split at h
  case h_2 => cases h
  rename_i o ho
  obtain ⟨e, he, h⟩ := List.any_eq_true.1 h
  simp only [Bool.and_eq_true, Bool.or_eq_true, beq_iff_eq] at h
  obtain ⟨hb, h⟩ := h
  have hl := hj o ho e (by simpa using he) hb
  rcases h with h | h
  ·rw [← h]; exact hl
  ·exact zy0w hc k e.on i h.2 fun o' ho' e' he' hb' => hc e.on o' ho' hl e' he' hb'

theorem zy2y {x y : AI} {d : Nat} (hx : x.dst = some d) (hy : y.dst = some d) : clash x y = true := by
 unfold clash; simp [hx, hy]
theorem zy2z {x y : AI} {d : Nat} (hx : x.dst = some d) (hy : d ∈ y.reads) : clash x y = true := by
 unfold clash; simp [hx, hy]
theorem zy30 {x y : AI} {d : Nat} (hy : y.dst = some d) (hx : d ∈ x.reads) : clash x y = true := by
 unfold clash; simp [hy, hx]

theorem zy4c {refm : Nat → Bool} {ops : Array Oper} {l : List AI} (h : zy4b refm ops l = true) {j : Nat} (hj : j < l.length) :
  (∀ o, ops[j]? = some o → ∀ e ∈ o.after, Region.binds .any e = true → e.on < j) ∧ ∀ i, i < j → ∀ x y, l[i]? = some x → l[j]? = some y → (clash x y = true ∨ confL refm l i j = true) → zy0v ops 12 j i = true ∨ (i = zyhp refm ops l ∧ j = zyhp refm ops l + 1 ∧ twin refm ops l (zyhp refm ops l) = true) := by
 have h1 := List.all_eq_true.1 h j (List.mem_range.2 hj)
 simp only [Bool.and_eq_true] at h1
 obtain ⟨h1, h2⟩ := h1
 refine ⟨fun o ho e he hb => ?_, fun i hi x y hx hy hc => ?_⟩
 ·rw [ho] at h1
  have := List.all_eq_true.1 h1 e (by simpa using he)
  simpa [hb] using this
 ·have h3 := List.all_eq_true.1 h2 i (List.mem_range.2 hi)
  rw [hx, hy] at h3
  simp only [Bool.or_eq_true, Bool.and_eq_true, Bool.not_eq_true', beq_iff_eq] at h3
  rcases h3 with (⟨h3, h4⟩ | h3) | ⟨⟨h3, h4⟩, h5⟩
  ·rcases hc with hc | hc
   ·rw [hc] at h3; cases h3
   ·rw [hc] at h4; cases h4
  ·exact .inl h3
  ·subst h5; exact .inr ⟨rfl, h3, h4⟩

theorem zyhq {refm : Nat → Bool} {ops : Array Oper} {l : List AI} {i : Nat} (h : twin refm ops l i = true) :
  ∃ d e b c, l[i]? = some ⟨some d, .zbox b, []⟩ ∧ l[i + 1]? = some ⟨some e, .zbox c, []⟩ ∧ d ≠ e ∧ (∃ o t, ops[i + 1]? = some o ∧ o.op = .alloc t) ∧ ∀ k x, i + 1 < k → l[k]? = some x → (clash ⟨some e, .zbox c, []⟩ x = true ∨ conf refm (.zbox c) x.op = true) → zy0v ops 12 k i = true := by
 unfold twin at h
 split at h
 case h_2 => cases h
 rename_i d b e c h1 h2
 simp only [Bool.and_eq_true, Bool.not_eq_true', beq_eq_false_iff_ne] at h
 refine ⟨d, e, b, c, h1, h2, h.1.1, ?_, fun k x hk hx hc => ?_⟩
 ·have := h.1.2
  split at this
  ·rename_i o hoo
   split at this
   ·rename_i t ht; exact ⟨o, t, hoo, ht⟩
   ·cases this
  ·cases this
 have h3 := List.all_eq_true.1 h.2 k (List.mem_range.2 (List.getElem?_eq_some_iff.1 hx).1)
 rw [hx, decide_eq_false (by omega)] at h3
 simp only [Bool.false_or, Bool.or_eq_true, Bool.not_eq_true', Bool.or_eq_false_iff] at h3
 rcases h3 with h3 | h3
 ·rcases hc with hc | hc
  ·rw [hc] at h3; cases h3.1
  ·rw [hc] at h3; cases h3.2
 ·exact h3

theorem conf22 {refm : Nat → Bool} {x y : AOp} (hx : 2 ≤ x.heed refm) (hy : 2 ≤ y.heed refm) : conf refm x y = true := by
 unfold conf
 rw [decide_eq_true (show 3 ≤ x.heed refm + y.heed refm by omega), decide_eq_false (show ¬ y.heed refm ≤ 1 by omega), decide_eq_false (show ¬ x.heed refm ≤ 1 by omega)]
 simp
theorem zy3h {refm : Nat → Bool} {x y : AOp} (hx : x.heed refm = 1) (hy : 2 ≤ y.heed refm) (hc : conf refm x y ≠ true) : y.grows = true ∧ x.plain = true := by
 unfold conf at hc
 rw [decide_eq_true (show 3 ≤ x.heed refm + y.heed refm by omega), decide_eq_false (show ¬ y.heed refm ≤ 1 by omega), decide_eq_true (show x.heed refm ≤ 1 by omega)] at hc
 simpa using hc
theorem zy3i {refm : Nat → Bool} {x y : AOp} (hx : x.heed refm = 1) (hy : 2 ≤ y.heed refm) (hc : conf refm y x ≠ true) : y.grows = true ∧ x.plain = true := by
 unfold conf at hc
 rw [decide_eq_true (show 3 ≤ y.heed refm + x.heed refm by omega), decide_eq_false (show ¬ y.heed refm ≤ 1 by omega), decide_eq_true (show x.heed refm ≤ 1 by omega)] at hc
 simpa using hc

theorem zy3f {refm : Nat → Bool} {l : List AI} {i j : Nat} {x y : AI} (hx : l[i]? = some x) (hy : l[j]? = some y) (h : confL refm l i j = true) : conf refm x.op y.op = true := by
 unfold confL at h
 rw [hx, hy] at h
 simp only [Bool.and_eq_true] at h
 exact h.1
theorem zyck {refm : Nat → Bool} {l : List AI} {i : Nat} {x : AI} (hx : l[i]? = some x) (h : oldLd l i = true) : x.op.heed refm = 1 := by
 unfold oldLd at h
 rw [hx] at h
 split at h
 ·rename_i he
  simp only [Option.some.injEq] at he
  subst he
  rfl
 ·cases h
theorem nst_heed {refm : Nat → Bool} {l : List AI} {i : Nat} {x : AI} (hx : l[i]? = some x) (h : nst l i = true) : x.op.heed refm = 2 := by
 unfold nst at h
 rw [hx] at h
 split at h
 ·rename_i he
  simp only [Option.some.injEq] at he
  subst he
  rfl
 ·cases h
theorem zy3e {refm : Nat → Bool} {l : List AI} {i j : Nat} {x y : AI} (hx : l[i]? = some x) (hy : l[j]? = some y) (h1 : 2 ≤ x.op.heed refm) (h2 : 2 ≤ y.op.heed refm) : confL refm l i j = true := by
 have e1 : oldLd l i = false := by
  cases h : oldLd l i
  ·rfl
  ·have := zyck (refm := refm) hx h; omega
 have e2 : oldLd l j = false := by
  cases h : oldLd l j
  ·rfl
  ·have := zyck (refm := refm) hy h; omega
 unfold confL
 rw [hx, hy, e1, e2]
 simp only [conf22 h1 h2, Bool.false_and, Bool.or_false, Bool.not_false, Bool.and_true]
theorem zy3g {refm : Nat → Bool} {l : List AI} {i j : Nat} {x y : AI} (hx : l[i]? = some x) (hy : l[j]? = some y) (h1 : x.op.heed refm = 1) (h2 : 2 ≤ y.op.heed refm) (hn : ¬ (zy0f refm l = true ∧ oldLd l i = true)) (hc : confL refm l i j ≠ true ∨ confL refm l j i ≠ true) : y.op.grows = true ∧ x.op.plain = true := by
 have e2 : oldLd l j = false := by
  cases h : oldLd l j
  ·rfl
  ·have := zyck (refm := refm) hy h; omega
 have e3 : nst l i = false := by
  cases h : nst l i
  ·rfl
  ·have := nst_heed (refm := refm) hx h; omega
 have e4 : ((oldLd l i && nst l j) && zy0f refm l) = false := by
  cases ha : zy0f refm l
  ·simp
  ·cases ho : oldLd l i
   ·rfl
   ·exact absurd ⟨ha, ho⟩ hn
 rcases hc with hc | hc
 ·refine zy3h h1 h2 fun hcf => hc ?_
  unfold confL
  rw [hx, hy, e2, e3]
  simp only [hcf, Bool.and_false, Bool.or_false, e4, Bool.not_false, Bool.and_true]
 ·refine zy3i h1 h2 fun hcf => hc ?_
  unfold confL
  rw [hx, hy, e2, e3]
  simp only [hcf, Bool.and_false, Bool.false_or, Bool.false_and, e4, Bool.not_false, Bool.and_true]
theorem zycn {l : List AI} {d j k : Nat} {y : AI} (h : onlyAt l d j = true) (hy : l[k]? = some y) (hd : y.dst = some d) : k = j := by
 have h1 := List.all_eq_true.1 h k (List.mem_range.2 (List.getElem?_eq_some_iff.1 hy).1)
 rw [hy] at h1
 simp only [Bool.or_eq_true, beq_iff_eq, Bool.not_eq_true', beq_eq_false_iff_ne] at h1
 rcases h1 with h1 | h1
 ·exact h1
 ·exact absurd hd h1

theorem push_only {h : Heap} (hh : HRep w μ A h) (ty : TypeId) (arr : Array Value) : Move w μ A { w with heap := w.heap.push (.cells arr ty) } μ A ∧ HRep { w with heap := w.heap.push (.cells arr ty) } μ A h := by
 have hold : ∀ b, b < w.heap.size → (w.heap.push (.cells arr ty))[b]? = w.heap[b]? := fun b hb => by rw [Array.getElem?_push, if_neg (by omega)]
 have mv : Move w μ A { w with heap := w.heap.push (.cells arr ty) } μ A := ⟨rfl, rfl, rfl, by simp, fun b hb _ => hold b hb, Nat.le_refl _, fun _ _ _ h => h, fun _ h => .inl h, fun _ h => h, fun _ h => .inl h, fun b r hb => by show (w.heap.push _)[b]? = _; rw [hold b (Array.getElem?_eq_some_iff.1 hb).1]; exact hb⟩
 refine ⟨mv, hh.len, hh.liv, fun id ds b r hlv hm hs => ?_, hh.inj, hh.off, fun b hb => ?_, hh.glbStep mv, fun id ds b r hlv hm hs => ?_⟩
 ·obtain ⟨g1, g2, arr', e', fr', g3, g4, g5, g6⟩ := hh.blk id ds b r hlv hm hs
  refine ⟨g1, g2, arr', e', fr', ?_, g4, g5, fun j c hj => ?_⟩
  ·show (w.heap.push _)[b.block]? = _
   rw [hold _ (Array.getElem?_eq_some_iff.1 g3).1]; exact g3
  ·obtain ⟨v, hv1, hv2⟩ := g6 j c hj
   exact ⟨v, hv1, hv2.step hh mv⟩
 ·have := hh.old b hb
  show b < (w.heap.push _).size
  rw [Array.size_push]; omega
 ·have g := hh.mp id ds b r hlv hm hs
  exact g.to (hold _ g.lt) fun c v hr => hr.step hh mv

theorem dfs_add {w0 : World} {b : Nat} {arr : Array Value} {ty : TypeId} {fr : Nat × Nat} {q : Nat} (hb : w.heap[b]? = some (.cells arr ty fr)) : ∀ {ds : List Deferred}, Dfs w0 w μ A ds → Dfs w0 w (μ ++ [some (⟨b, 0, none⟩, q)]) A ds
 | [], _ => trivial
 | d :: ds, ⟨h, hs⟩ => ⟨h.imp id fun ⟨D, h1, ⟨g1, g2, g3, g4⟩, h3⟩ => ⟨D, h1, ⟨g1, g2, g3, fun ⟨id, a, r, hm, e⟩ => by
   rcases Nat.lt_or_ge id μ.length with hl | hl
   ·rw [List.getElem?_append_left hl] at hm
    exact g4 ⟨id, a, r, hm, e⟩
   ·rw [List.getElem?_append_right hl] at hm
    cases hz : id - μ.length with
    | succ n => rw [hz] at hm; simp at hm
    | zero =>
     rw [hz] at hm
     simp at hm
     obtain ⟨rfl, rfl⟩ := hm
     simp at e
     subst e
     rw [hb] at g1
     cases g1⟩, h3⟩, dfs_add hb hs⟩
theorem Sim.addBlock {w0 : World} {μ0 : Mu} {A0 : Nat → Prop} {s : St} {a : Act} (hs : Sim w0 μ0 A0 s a w μ A) {b : Nat} {arr : Array Value} {ty : TypeId} {fr : Nat × Nat} {c : List AV} (hb : w.heap[b]? = some (.cells arr ty fr)) (hfr : ∀ o, o < arr.size → ¬ (fr.1 ≤ o ∧ o < fr.2))
  (hc : ∀ w μ A, RepL w μ A c arr.toList) (hl : ¬ Liv μ b) (ha : ¬ A b) (h0 : w0.heap.size ≤ b) (e : Nat) (he : e < a.tmps.size → a.tmps.getD e Go.undef = .pointer (some ⟨b, 0, none⟩)) :
  Sim w0 μ0 A0 ({ s with h := s.h ++ [some c] }.put (some e) (.rp s.h.length 0)) a w (μ ++ [some (⟨b, 0, none⟩, arr.size)]) A := by
 have hh := hs.h
 have hbs : b < w.heap.size := (Array.getElem?_eq_some_iff.1 hb).1
 have old : ∀ (id : Nat) (x : Addr × Nat), id < μ.length → (μ ++ [some (⟨b, 0, none⟩, arr.size)])[id]? = some (some x) → μ[id]? = some (some x) := fun id x hid hx => by
  rwa [List.getElem?_append_left hid] at hx
 have split : ∀ (id : Nat) (a : Addr) (r : Nat), (μ ++ [some (⟨b, 0, none⟩, arr.size)])[id]? = some (some (a, r)) → (id < μ.length ∧ μ[id]? = some (some (a, r))) ∨ (id = μ.length ∧ a = ⟨b, 0, none⟩ ∧ r = arr.size) := fun id a r hx => by
  rcases Nat.lt_or_ge id μ.length with h1 | h1
  ·exact .inl ⟨h1, old id _ h1 hx⟩
  ·rw [List.getElem?_append_right h1] at hx
   have : id = μ.length := by
    have := (List.getElem?_eq_some_iff.1 hx).1
    simp at this; omega
   subst this
   simp at hx
   exact .inr ⟨rfl, hx.1.symm, hx.2.symm⟩
 have mvR : ∀ {c : AV} {v : Value}, Rep w μ A c v → Rep w (μ ++ [some (⟨b, 0, none⟩, arr.size)]) A c v := fun h => h.move (fun _ _ => rfl) (fun _ h => h) (by simp) old
 have hcl : c.length = arr.size := by have := (hc w μ A).1; simpa using this.symm
 have hH : HRep w (μ ++ [some (⟨b, 0, none⟩, arr.size)]) A (s.h ++ [some c]) := by
  refine ⟨by simp [hh.len], fun id => ?_, fun id ds x r hlv hm hsx => ?_, fun i j x y r q hi hj hab => ?_, fun y hy hl' => ?_, hh.old, hh.glb, fun id ds x r hlv hm hsx => ?_⟩
  ·rw [zyab]
   rcases Nat.lt_or_ge id μ.length with h1 | h1
   ·rw [List.getElem?_append_left h1, if_pos (by rw [← hh.len]; exact h1)]; exact hh.liv id
   ·rw [List.getElem?_append_right h1, if_neg (by rw [← hh.len]; omega)]
    by_cases h2 : id = μ.length
    ·subst h2; rw [if_pos hh.len]; simp
    ·rw [if_neg (by rw [← hh.len]; exact h2), List.getElem?_eq_none (by simp; omega)]; rfl
  ·rcases split id x r hm with ⟨h1, h2⟩ | ⟨h1, h2, h3⟩
   ·rw [zyab, if_pos (by rw [← hh.len]; exact h1)] at hlv
    obtain ⟨g1, g2, arr', e', fr', g3, g4, g5, g6⟩ := hh.blk id ds x r hlv h2 hsx
    refine ⟨g1, g2, arr', e', fr', g3, g4, g5, fun j c hj => ?_⟩
    obtain ⟨v, hv1, hv2⟩ := g6 j c hj
    exact ⟨v, hv1, mvR hv2⟩
   ·subst h1; subst h2; subst h3
    rw [zyab, if_neg (by rw [← hh.len]; omega), if_pos hh.len] at hlv
    cases hlv
    refine ⟨rfl, by omega, arr, ty, fr, hb, fun o _ ho => hfr o ho, by simp, fun j x hj => ?_⟩
    obtain ⟨v, hv1, hv2⟩ := (hc w (μ ++ [some (⟨b, 0, none⟩, arr.size)]) A).get hj
    exact ⟨v, by simpa using hv1, hv2⟩
  ·rcases split i x r hi with ⟨h1, h2⟩ | ⟨h1, h2, h3⟩ <;> rcases split j y q hj with ⟨k1, k2⟩ | ⟨k1, k2, k3⟩
   ·exact hh.inj i j x y r q h2 k2 hab
   ·subst k2
    exact absurd ⟨i, x, r, h2, hab⟩ hl
   ·subst h2
    exact absurd ⟨j, y, q, k2, hab.symm⟩ hl
   ·omega
  ·obtain ⟨id, x, r, hm, rfl⟩ := hl'
   rcases split id x r hm with ⟨h1, h2⟩ | ⟨h1, h2, h3⟩
   ·exact hh.off _ hy ⟨id, x, r, h2, rfl⟩
   ·subst h2; exact ha hy
  ·rcases split id x r hm with ⟨h1, h2⟩ | ⟨h1, h2, h3⟩
   ·rw [zyab, if_pos (by rw [← hh.len]; exact h1)] at hlv
    exact (hh.mp id ds x r hlv h2 hsx).to rfl fun c v hr => mvR hr
   ·subst h2; exact absurd rfl hsx
 refine ⟨hH, ?_, ⟨hs.m.os, hs.m.tape, hs.m.output, hs.m.size, hs.m.keep, Nat.le_trans hs.m.len (by simp), fun id x hid hx => hs.m.mu id x hid (old id x (Nat.lt_of_lt_of_le hid hs.m.len) hx), fun y ⟨id, x, r, hm, hy⟩ => ?_, hs.m.a, hs.m.new, hs.m.lp⟩, dfs_add hb hs.d⟩
 ·have ht : Tmps w (μ ++ [some (⟨b, 0, none⟩, arr.size)]) A s.t a.tmps := ⟨hs.t.1, fun j c v h1 h2 => mvR (hs.t.2 j c v h1 h2)⟩
  refine ⟨by show _ = (s.t.set e _).length; simpa using ht.1, fun j x v hj hv => ?_⟩
  have hj' : (s.t.set e (.rp s.h.length 0))[j]? = some x := hj
  rw [List.getElem?_set] at hj'
  by_cases hej : e = j
  ·subst hej
   rw [if_pos rfl] at hj'
   split at hj'
   ·cases hj'
    have hsz : e < a.tmps.size := by have := (List.getElem?_eq_some_iff.1 hv).1; simpa using this
    have h1 := he hsz
    have h2 : a.tmps.getD e Go.undef = v := by
     simp only [Array.getElem?_toList] at hv
     simp [Array.getD_eq_getD_getElem?, hv]
    rw [← h2, h1]
    refine .rp _ _ _ (by rw [← hh.len]; exact new_ref.1) fun y q hy => ?_
    rw [← hh.len, new_ref.2] at hy
    cases hy
    exact ⟨rfl, rfl⟩
   ·cases hj'
  ·rw [if_neg hej] at hj'
   exact ht.2 j x v hj' hv
 ·rcases split id x r hm with ⟨h1, h2⟩ | ⟨h1, h2, h3⟩
  ·exact hs.m.liv y ⟨id, x, r, h2, hy⟩
  ·subst h2; subst hy; exact .inr h0

theorem zbox_wp {ops : Array Oper} {o : Oper} {t : TypeId} {e : Nat} {c : List AV} (hop : o.op = .alloc t) (hx : compI P ops o = ⟨some e, .zbox c, []⟩) {a : Act} {next : Act → World → Prop} {Q : Exit → Act → World → Prop}
  (hn : ∀ arr ty, (∀ w μ A, RepL w μ A c arr.toList) → ∀ w', w' = { w with heap := w.heap.push (.cells arr ty) } → next (a.put o.dst (.pointer (some ⟨w.heap.size, 0, none⟩))) w') : o.wp P a w next Q := by
 have hz : zeroT P t = some c := by
  have h1 : (compI P ops o).op = .zbox c := by rw [hx]
  unfold compI at h1
  split at h1
  ·simp only [compOp?, hop, zy38] at h1
   cases hzt : zeroT P t with
   | none => rw [hzt] at h1; cases h1
   | some z =>
    rw [hzt] at h1
    simp only [Option.map_some, Option.bind_some, AOp.isCall, Bool.false_eq_true, if_false, Option.getD_some] at h1
    cases h1
    rfl
  ·cases h1
 obtain ⟨i, v, hi, hz', _⟩ := zyin (w := w) (μ := []) (A := fun _ => False) hz
 have hr : ∀ w μ A, RepL w μ A c v.cells.toList := fun w μ A => by
  obtain ⟨i2, v2, hi2, hz2, hr⟩ := zyin (w := w) (μ := μ) (A := A) hz
  rw [hi] at hi2; cases hi2
  rw [hz'] at hz2; cases hz2
  exact hr
 unfold Oper.wp
 have hrun : (execOp a.eval o).run P w = .ok (.value (.pointer (some ⟨w.heap.size, 0, none⟩))) { w with heap := w.heap.push (.cells v.cells t) } := by
  unfold execOp
  simp only [hop]
  simp [Instr.alloc, zyfl hi hz', newVar, zyfh]
 rw [hrun]
 exact hn v.cells t hr _ rfl

theorem draw_run {C : Oracle} (hC : Sound P C) (refm : Nat → Bool) {ops : Array Oper} {R : Type} {K : St → Option R} {r : R} {w0 : World} {μ0 : Mu} {A0 : Nat → Prop} {Q : Exit → Act → World → Prop} (hY : zy08 P w0 μ0 A0 C) (ρ : Option Nat)
  (hK : ∀ s a w μ A, K s = some r → Sim w0 μ0 A0 s a w μ A → Q .normal a w) (hdr : zy4b refm ops (ops.toList.map (compI P ops)) = true) (hnd : ∀ o ∈ ops.toList, (compI P ops o).op.isDfr = false) {s : St} (h : zy52 C refm (ops.toList.map (compI P ops)) s K = some r) {a : Act} {w : World} {μ : Mu} {A : Nat → Prop} (hs : Sim w0 μ0 A0 s a w μ A) :
  wpAnyIn (FW ρ) 0 P .any ops Q ops.size (Array.replicate ops.size false) a w := by
 obtain ⟨S, V, hS0, hKS, hS⟩ := zy58 _ s h
 generalize hl : ops.toList.map (compI P ops) = l at *
 have hN : l.length = ops.size := by rw [← hl]; simp
 have hlen : ∀ k, k ≤ l.length → (S k).t.length = (S 0).t.length := by
  intro k
  induction k with
  | zero => intro _; rfl
  | succ k ih =>
   intro hk
   rcases hS k _ (List.getElem?_eq_getElem (by omega)) with ⟨_, h', _, h2⟩ | ⟨_, _, h2⟩
   ·rw [h2, zyee]; exact ih (by omega)
   ·rw [h2, zyee]; exact ih (by omega)
 have text : ∀ k, k ≤ l.length → (∀ x, x < (S 0).t.length → (S k).t.getD x .junk = valD l S V (fun _ => true) k x) ∧ (S k).h = heapD l refm S (fun _ => true) k := by
  intro k
  induction k with
  | zero => intro _; exact ⟨fun _ _ => rfl, rfl⟩
  | succ k ih =>
   intro hk
   obtain ⟨ih1, ih2⟩ := ih (by omega)
   have hk' : l[k]? = some l[k] := List.getElem?_eq_getElem (by omega)
   have hx : ∀ x, x < (S 0).t.length → (S (k + 1)).t.getD x .junk = if l[k].dst = some x then V k else (S k).t.getD x .junk := fun x hx => by
    rcases hS k _ hk' with ⟨_, h', _, h2⟩ | ⟨_, _, h2⟩
    ·rw [h2, zyed _ _ _ _ (by show x < (S k).t.length; rw [hlen k (by omega)]; exact hx)]
    ·rw [h2, zyed _ _ _ _ (by rw [hlen k (by omega)]; exact hx)]
   refine ⟨fun x hxl => ?_, ?_⟩
   ·rw [hx x hxl, zyhu, ih1 x hxl, hk']
    simp
   ·rw [zy6x, ← ih2, hk']
    simp only [Option.map_some, Option.getD_some, true_and]
    by_cases h2 : 2 ≤ l[k].op.heed refm
    ·rw [if_pos h2]
    ·rw [if_neg h2]
     rcases hS k _ hk' with ⟨_, h', hst, h3⟩ | ⟨_, _, h3⟩
     ·rw [h3, put_h]
      exact ((zygm (s := S k) (s' := S k) (fun _ _ => rfl) (fun _ => rfl) hst).2 (by omega)).1
     ·rw [h3, put_h]
 -- the state in which those in L have come
 let T : (Nat → Bool) → St := fun L => { t := (List.range (S 0).t.length).map (valD l S V L l.length), h := heapD l refm S L l.length }
 have Tget : ∀ L x, (T L).t.getD x .junk = if x < (S 0).t.length then valD l S V L l.length x else AV.junk := fun L x => by
  show ((List.range (S 0).t.length).map (valD l S V L l.length)).getD x AV.junk = _
  rw [List.getD_eq_getElem?_getD, List.getElem?_map]
  by_cases hx : x < (S 0).t.length
  ·rw [List.getElem?_range hx, if_pos hx]; rfl
  ·rw [List.getElem?_eq_none (by simp; omega), if_neg hx]; rfl
 have Tlen : ∀ L, (T L).t.length = (S 0).t.length := fun L => by simp [T]
 have done : ∀ (listed : Array Bool) (a : Act) (w : World) (μ : Mu) (A : Nat → Prop), listed.size = ops.size → Region.ready .any ops listed = [] → Sim w0 μ0 A0 (T fun j => listed.getD j false) a w μ A → Q .normal a w := by
  intro listed a w μ A hsz hr hsim
  have all : ∀ j, j < l.length → listed.getD j false = true := by
   apply zy9q
   by_cases h0 : left_ (fun j => listed.getD j false) l.length = 0
   ·exact h0
   ·obtain ⟨m, hm, hm2, hm3⟩ := zy9s _ _ h0
    have hmem : m ∈ Region.ready .any ops listed := by
     unfold Region.ready
     have hml : m < ops.size := by omega
     refine List.mem_filter.2 ⟨List.mem_range.2 hml, ?_⟩
     have h1 : listed.getD m true = false := by
      have : m < listed.size := by omega
      simp only [Array.getD_eq_getD_getElem?, Array.getElem?_eq_getElem this, Option.getD_some] at hm2 ⊢
      exact hm2
     have ho : ops[m]? = some ops[m] := Array.getElem?_eq_getElem hml
     rw [h1, ho]
     simp only [Bool.not_false, Bool.true_and, Option.map_some, Option.getD_some]
     rw [Array.all_eq_true']
     intro e he
     cases hb : Region.binds .any e
     ·rfl
     ·have := hm3 e.on ((zy4c hdr hm).1 _ ho e he hb)
      simp only [Bool.not_true, Bool.false_or]
      exact this
    rw [hr] at hmem
    cases hmem
  have hT : (T fun j => listed.getD j false) = S l.length := by
   refine St.ext' (by rw [Tlen, hlen _ (Nat.le_refl _)]) (fun x hx => ?_) ?_
   ·rw [Tlen] at hx
    rw [Tget, if_pos hx, (text _ (Nat.le_refl _)).1 x hx]
    exact zyhs _ _ _ _ _ _ _ (fun j hj _ => all j hj)
   ·rw [(text _ (Nat.le_refl _)).2]
    exact zy6v _ _ _ _ _ _ (fun j hj _ => all j hj)
  rw [hT] at hsim
  exact hK _ a w μ A hKS hsim
 -- where all that is changed is new
 have stepT : ∀ k y, l[k]? = some y → ∀ x, y.dst ≠ some x → (S (k + 1)).t.getD x .junk = (S k).t.getD x .junk := by
  intro k y hy x hd
  have hput : ∀ (st : St) (v : AV), (st.put y.dst v).t.getD x .junk = st.t.getD x .junk := fun st v => by
   cases hyd : y.dst with
   | none => rfl
   | some d =>
    show (st.t.set d v).getD x .junk = _
    rw [List.getD_eq_getElem?_getD, List.getElem?_set_ne (fun h => hd (by rw [hyd, h])), ← List.getD_eq_getElem?_getD]
  rcases hS k y hy with ⟨_, h', _, h3⟩ | ⟨_, _, h3⟩
  ·rw [h3, hput]
  ·rw [h3, hput]
 have sameT : ∀ x k, (∀ j y, j < k → l[j]? = some y → y.dst ≠ some x) → k ≤ l.length → (S k).t.getD x .junk = (S 0).t.getD x .junk := by
  intro x k
  induction k with
  | zero => intro _ _; rfl
  | succ k ih =>
   intro h1 h2
   rw [stepT k _ (List.getElem?_eq_getElem (by omega)) x (h1 k _ (by omega) (List.getElem?_eq_getElem (by omega)))]
   exact ih (fun j y hj hy => h1 j y (by omega) hy) (by omega)
 have fromT : ∀ x m k, m + 1 ≤ k → (∀ j y, m < j → j < k → l[j]? = some y → y.dst ≠ some x) → k ≤ l.length → (S k).t.getD x .junk = (S (m + 1)).t.getD x .junk := by
  intro x m k
  induction k with
  | zero => intro h; omega
  | succ k ih =>
   intro h0 h1 h2
   by_cases hk : k = m
   ·subst hk; rfl
   ·rw [stepT k _ (List.getElem?_eq_getElem (by omega)) x (h1 k _ (by omega) (by omega) (List.getElem?_eq_getElem (by omega)))]
    exact ih (by omega) (fun j y hj hj2 hy => h1 j y hj (by omega) hy) (by omega)
 have good : zy0f refm l = true → ∀ k, k ≤ l.length → (S 0).h.length ≤ (S k).h.length ∧ ∀ id, id < (S 0).h.length → live (S k).h id = live (S 0).h id := by
  intro han k
  induction k using Nat.strongRecOn with
  | _ k ih =>
   intro hk
   cases k with
   | zero => exact ⟨Nat.le_refl _, fun _ _ => rfl⟩
   | succ k =>
    obtain ⟨ih1, ih2⟩ := ih k (by omega) (by omega)
    have hy : l[k]? = some l[k] := List.getElem?_eq_getElem (by omega)
    have ha := List.all_eq_true.1 han k (List.mem_range.2 (by omega))
    rw [hy] at ha
    simp only [Bool.or_eq_true, decide_eq_true_eq] at ha
    rcases hS k _ hy with ⟨hw, h', hst, h3⟩ | ⟨_, _, h3⟩
    ·rw [h3, put_h]
     show (S 0).h.length ≤ h'.length ∧ ∀ id, id < (S 0).h.length → live h' id = live (S 0).h id
     rcases ha with (ha | ha) | ha
     ·have := ((zygm (s := S k) (s' := S k) (fun _ _ => rfl) (fun _ => rfl) hst).2 ha).1
      subst this
      exact ⟨ih1, ih2⟩
     ·have hp : l[k].op.isPure = false := by cases ho : l[k].op <;> rw [ho] at ha <;> first | rfl | cases ha
      have hcl : l[k].op.isCall = false := by cases ho : l[k].op <;> rw [ho] at ha <;> first | rfl | cases ha
      rw [zygo hp hcl] at hst
      obtain ⟨b, hb⟩ := zy6h ha hst
      subst hb
      refine ⟨by simp; omega, fun id hid => ?_⟩
      rw [zyac _ (by omega)]
      exact ih2 id hid
     ·-- a store into a new box
      unfold nst at ha
      rw [hy] at ha
      split at ha
      case h_2 => cases ha
      rename_i dst n d v he
      simp only [Option.some.injEq] at he
      obtain ⟨j, hj, hjj⟩ := List.any_eq_true.1 ha
      rw [List.mem_range] at hj
      simp only [Bool.and_eq_true] at hjj
      obtain ⟨hz, honly⟩ := hjj
      have hyj : l[j]? = some l[j] := List.getElem?_eq_getElem (by omega)
      rw [hyj] at hz
      simp only at hz
      have hzz : ∃ c, l[j] = ⟨some d, .zbox c, []⟩ := by
       unfold AI.zb at hz
       split at hz
       ·rename_i d' c hd; rw [hd]; exact ⟨c, by rw [beq_iff_eq.1 hz]⟩
       ·cases hz
      obtain ⟨c, hc⟩ := hzz
      obtain ⟨jh1, _⟩ := ih j (by omega) (by omega)
      have hVj : (S (j + 1)).t.getD d .junk = .rp (S j).h.length 0 ∨ (S j).t.length ≤ d := by
       rcases hS j _ hyj with ⟨_, h'', hst2, h4⟩ | ⟨hw2, _, _⟩
       ·rw [hc] at hst2 h4
        have e : some (AV.rp (S j).h.length 0, (S j).h ++ [some c]) = some (V j, h'') := hst2
        simp only [Option.some.injEq, Prod.mk.injEq] at e
        rw [h4]
        rcases Nat.lt_or_ge d (S j).t.length with hd | hd
        ·left
         show ((S j).t.set d (V j)).getD d .junk = _
         rw [List.getD_eq_getElem?_getD, List.getElem?_set_self hd, e.1]; rfl
        ·exact .inr hd
       ·rw [hc] at hw2; cases hw2
      have hSk : (S k).t.getD d .junk = (S (j + 1)).t.getD d .junk := fromT d j k (by omega) (fun j' y h1 h2 hy' hd => by
       have := zycn honly hy' hd; omega) (by omega)
      have hop : l[k].op = .store n (.t d) v := by rw [he]
      have hst' : (zydm (S k).h n ((S k).t.getD d .junk) ((S k).get v)).map (fun h => (AV.undef, h)) = some (V k, h') := by
       rw [he] at hst
       exact hst
      rw [hSk] at hst'
      simp only [Option.map_eq_some_iff, Prod.mk.injEq] at hst'
      obtain ⟨h9, hs9, _, rfl⟩ := hst'
      rcases hVj with hVj | hlen2
      ·rw [hVj] at hs9
       simp only [zydm, Option.bind_eq_some_iff] at hs9
       obtain ⟨cs, hl1, hs9⟩ := hs9
       split at hs9
       ·cases hs9
        refine ⟨by simpa using ih1, fun id hid => ?_⟩
        have : live ((S k).h.set (S j).h.length (some (zygd cs 0 ((S k).get v).cells))) id = live (S k).h id := by
         unfold live
         rw [List.getElem?_set_ne (by omega)]
        rw [this]
        exact ih2 id hid
       ·cases hs9
      ·have : (S (j + 1)).t.getD d .junk = .junk := by
        rw [List.getD_eq_getElem?_getD, List.getElem?_eq_none (by
         have e1 := hlen (j + 1) (by omega)
         have e2 := hlen j (by omega)
         omega)]
        rfl
       rw [this] at hs9
       cases hs9
    ·rw [h3, put_h]
     exact ⟨ih1, ih2⟩
 have goodD : ∀ (L : Nat → Bool) k, k ≤ l.length → ∃ m, m ≤ l.length ∧ heapD l refm S L k = (S m).h := by
  intro L k
  induction k with
  | zero => intro _; exact ⟨0, Nat.zero_le _, rfl⟩
  | succ k ih =>
   intro hk
   rw [zy6x]
   split
   ·exact ⟨k + 1, hk, rfl⟩
   ·exact ih (by omega)
 have oldA : ∀ f a k, zycj l f a k = true → ∀ i, k ≤ i → i ≤ l.length → ∀ id off, (S i).t.getD a .junk = .rp id off → id < (S 0).h.length := by
  intro f
  induction f with
  | zero => intro a k h; cases h
  | succ f ih =>
   intro a k h i hki hil id off hv
   unfold zycj at h
   simp only [Bool.or_eq_true] at h
   rcases h with h | h
   ·rw [sameT a i (fun j y hj hy hd => by
     have := List.all_eq_true.1 h y (List.mem_of_getElem? hy)
     simp [hd] at this) hil] at hv
    rw [hS0] at hv ⊢
    have hk := hs.t.get a
    rw [hv] at hk
    exact Known.lt_rp hs.h (.inr ⟨_, hk⟩)
   ·obtain ⟨j, hj, hjj⟩ := List.any_eq_true.1 h
    rw [List.mem_range] at hj
    simp only [Bool.and_eq_true] at hjj
    obtain ⟨hz, honly⟩ := hjj
    have hjl : j < l.length := by omega
    have hyj : l[j]? = some l[j] := List.getElem?_eq_getElem hjl
    rw [hyj] at hz
    split at hz
    case h_2 => cases hz
    rename_i a' o s he
    simp only [Option.some.injEq] at he
    simp only [Bool.and_eq_true, beq_iff_eq] at hz
    obtain ⟨rfl, hz⟩ := hz
    have hSi : (S i).t.getD a' .junk = (S (j + 1)).t.getD a' .junk := fromT a' j i (by omega) (fun j' y h1 h2 hy' hd => by
     have := zycn honly hy' hd; omega) hil
    rw [hSi] at hv
    rcases hS j _ hyj with ⟨_, h'', hst2, h4⟩ | ⟨hw2, _, _⟩
    ·rw [he] at hst2 h4
     have e : (zyd1 o ((S j).t.getD s .junk)).map (fun v => (v, (S j).h)) = some (V j, h'') := hst2
     rw [h4] at hv
     have hv2 : ((S j).t.set a' (V j)).getD a' .junk = .rp id off := hv
     rcases Nat.lt_or_ge a' (S j).t.length with hd | hd
     ·rw [List.getD_eq_getElem?_getD, List.getElem?_set_self hd] at hv2
      have hv3 : V j = .rp id off := hv2
      simp only [Option.map_eq_some_iff, Prod.mk.injEq] at e
      obtain ⟨u, hu, rfl, _⟩ := e
      rw [hv3] at hu
      cases hs' : (S j).t.getD s .junk with
      | rp id' off' =>
       rw [hs'] at hu
       simp only [zyd1, Option.some.injEq, AV.rp.injEq] at hu
       have := ih s j hz j (Nat.le_refl _) (by omega) id' off' hs'
       omega
      | _ => rw [hs'] at hu; simp [zyd1] at hu
     ·rw [List.getD_eq_getElem?_getD, List.getElem?_eq_none (by simpa using hd)] at hv2
      cases hv2
    ·rw [he] at hw2; cases hw2
 -- an old load gives the same wherever it comes
 have oldL : ∀ (L : Nat → Bool) i x (t : List AV) v h', l[i]? = some x → zy0f refm l = true → oldLd l i = true → (∀ n ∈ x.reads, (S i).t.getD n .junk = t.getD n .junk) → stepA C refm x (S i) = some (v, h') → stepA C refm x ⟨t, heapD l refm S L l.length⟩ = some (v, heapD l refm S L l.length) := by
  intro L i x t v h' hx han hol hr hst
  have hil : i < l.length := (List.getElem?_eq_some_iff.1 hx).1
  unfold oldLd at hol
  rw [hx] at hol
  split at hol
  case h_2 => cases hol
  rename_i dst ag a g he
  simp only [Option.some.injEq] at he
  subst he
  have e1 : (zyd4 (S i).h ag ((S i).t.getD a .junk)).map (fun v => (v, (S i).h)) = some (v, h') := hst
  show (zyd4 (heapD l refm S L l.length) ag (t.getD a .junk)).map (fun v => (v, heapD l refm S L l.length)) = _
  rw [← hr a (by simp [AI.reads, AOp.opds])]
  simp only [Option.map_eq_some_iff, Prod.mk.injEq] at e1 ⊢
  obtain ⟨u, hu, rfl, _⟩ := e1
  refine ⟨u, ?_, rfl, trivial⟩
  cases hav : (S i).t.getD a .junk with
  | rp id off =>
   rw [hav] at hu
   have hid := oldA 4 a i hol i (Nat.le_refl _) (by omega) id off hav
   obtain ⟨m, hm, hD⟩ := goodD L l.length (Nat.le_refl _)
   have g1 := (good han m hm).2 id hid
   have g2 := (good han i (by omega)).2 id hid
   simp only [zyd4] at hu ⊢
   rw [hD, g1, ← g2]
   exact hu
  | ip cs => rw [hav] at hu; exact hu
  | _ => rw [hav] at hu; cases hu
 -- one operation more
 have adv : ∀ (L : Nat → Bool) (i : Nat) (x : AI), i < l.length → l[i]? = some x → L i = false →
   (∀ j y, j < i → l[j]? = some y → (clash y x = true ∨ confL refm l j i = true) → L j = true) →
   (∀ j y, i < j → l[j]? = some y → (clash x y = true ∨ confL refm l i j = true) → L j = true → False) →
   (∀ j k y z, j < k → l[j]? = some y → l[k]? = some z → 2 ≤ y.op.heed refm → 2 ≤ z.op.heed refm → L k = true → L j = true) →
   (∀ n ∈ x.reads, (S i).t.getD n .junk = (T L).t.getD n .junk) ∧ (2 ≤ x.op.heed refm → (S i).h = (T L).h) ∧
   (x.op.heed refm = 1 → ¬ (zy0f refm l = true ∧ oldLd l i = true) → (∃ ex, (T L).h = (S i).h ++ ex) ∨ (x.op.plain = true ∧ ∃ ex, (S i).h = (T L).h ++ ex)) ∧
   (T fun j => if j = i then true else L j) = ({ T L with h := if 2 ≤ x.op.heed refm then (S (i + 1)).h else (T L).h } : St).put x.dst (V i) := by
   intro L i x hil hx hLi before after pre
   have hA : ∀ n ∈ x.reads, (S i).t.getD n .junk = (T L).t.getD n .junk := by
    intro n hn
    rw [Tget]
    by_cases hnl : n < (S 0).t.length
    ·rw [if_pos hnl, (text i (by omega)).1 n hnl, zyht l S V _ n i l.length (by omega)]
     ·refine zyhs _ _ _ _ _ _ _ fun j hj hd => ?_
      cases hy : l[j]? with
      | none => rw [hy] at hd; cases hd
      | some y =>
       rw [hy] at hd
       exact (before j y hj hy (.inl (zy2z hd hn))).symm
     ·intro j hij hjl hL hd
      by_cases hji : j = i
      ·subst hji; rw [hLi] at hL; cases hL
      ·cases hy : l[j]? with
       | none => rw [hy] at hd; cases hd
       | some y =>
        rw [hy] at hd
        exact after j y (by omega) hy (.inl (zy30 hd hn)) hL
    ·rw [if_neg hnl, List.getD_eq_getElem?_getD, List.getElem?_eq_none (by rw [hlen i (by omega)]; omega)]
     rfl
   have hB : 2 ≤ x.op.heed refm → (S i).h = (T L).h := by
    intro h1
    show _ = heapD l refm S _ l.length
    rw [(text i (by omega)).2, zy6w l refm S _ i l.length (by omega)]
    ·refine zy6v _ _ _ _ _ _ fun j hj hd => ?_
     have hy : l[j]? = some l[j] := List.getElem?_eq_getElem (by omega)
     rw [hy] at hd
     simp only [Option.map_some, Option.getD_some] at hd
     exact (before j _ hj hy (.inr (zy3e hy hx hd h1))).symm
    ·intro j hij hjl hL hd
     by_cases hji : j = i
     ·subst hji; rw [hLi] at hL; cases hL
     ·have hy : l[j]? = some l[j] := List.getElem?_eq_getElem (by omega)
      rw [hy] at hd
      simp only [Option.map_some, Option.getD_some] at hd
      exact after j _ (by omega) hy (.inr (zy3e hx hy h1 hd)) hL
   have stepH : ∀ k y, l[k]? = some y → (2 ≤ y.op.heed refm → y.op.grows = true) → ∃ ex, (S (k + 1)).h = (S k).h ++ ex := by
    intro k y hy hg
    rcases hS k y hy with ⟨_, h', hst, h3⟩ | ⟨_, _, h3⟩
    ·rw [h3, put_h]
     show ∃ ex, h' = (S k).h ++ ex
     by_cases h2 : 2 ≤ y.op.heed refm
     ·have hgr := hg h2
      have hp : y.op.isPure = false := by cases ho : y.op <;> rw [ho] at hgr <;> first | rfl | cases hgr
      have hcl : y.op.isCall = false := by cases ho : y.op <;> rw [ho] at hgr <;> first | rfl | cases hgr
      rw [zygo hp hcl] at hst
      obtain ⟨b, hb⟩ := zy6h hgr hst
      exact ⟨[b], hb⟩
     ·exact ⟨[], by rw [List.append_nil]; exact ((zygm (s := S k) (s' := S k) (fun _ _ => rfl) (fun _ => rfl) hst).2 (by omega)).1⟩
    ·rw [h3, put_h]; exact ⟨[], by simp⟩
   have runH : ∀ b a, a ≤ b → b ≤ l.length → (∀ k y, a ≤ k → k < b → l[k]? = some y → 2 ≤ y.op.heed refm → y.op.grows = true) → ∃ ex, (S b).h = (S a).h ++ ex := by
    intro b
    induction b with
    | zero =>
      intro a ha _ _; have : a = 0 := by omega
      subst this; exact ⟨[], by simp⟩
    | succ b ihb =>
     intro a ha hb hg
     by_cases hab : a = b + 1
     ·subst hab; exact ⟨[], by simp⟩
     ·obtain ⟨e1, h1⟩ := ihb a (by omega) (by omega) fun k y h1 h2 => hg k y h1 (by omega)
      obtain ⟨e2, h2⟩ := stepH b _ (List.getElem?_eq_getElem (by omega)) (hg b _ (by omega) (by omega) (List.getElem?_eq_getElem (by omega)))
      exact ⟨e1 ++ e2, by rw [h2, h1, List.append_assoc]⟩
   have hR : x.op.heed refm = 1 → ¬ (zy0f refm l = true ∧ oldLd l i = true) → (∃ ex, (T L).h = (S i).h ++ ex) ∨ (x.op.plain = true ∧ ∃ ex, (S i).h = (T L).h ++ ex) := by
    intro h1 hns
    by_cases hall : ∀ j y, j < i → l[j]? = some y → 2 ≤ y.op.heed refm → L j = true
    ·left
     show ∃ ex, heapD l refm S _ l.length = (S i).h ++ ex
     have base : heapD l refm S L i = (S i).h := by
      rw [(text i (by omega)).2]
      refine zy6v _ _ _ _ _ _ fun j hj hd => ?_
      have hy : l[j]? = some l[j] := List.getElem?_eq_getElem (by omega)
      rw [hy] at hd
      simp only [Option.map_some, Option.getD_some] at hd
      exact hall j _ hj hy hd
     have up : ∀ k, i ≤ k → k ≤ l.length → ∃ ex, heapD l refm S L k = (S i).h ++ ex := by
      intro k
      induction k with
      | zero =>
        intro hk _; have : i = 0 := by omega
        exact ⟨[], by rw [← this, base]; simp⟩
      | succ k ihk =>
       intro hk hkl
       by_cases hik : i = k + 1
       ·exact ⟨[], by rw [← hik, base]; simp⟩
       ·rw [zy6x]
        split
        ·rename_i hc
         have hy : l[k]? = some l[k] := List.getElem?_eq_getElem (by omega)
         rw [hy] at hc
         simp only [Option.map_some, Option.getD_some] at hc
         refine runH (k + 1) i (by omega) hkl fun j z hj1 hj2 hz hz2 => ?_
         by_cases hji : j = i
         ·subst hji
          rw [hx] at hz; cases hz
          omega
         ·have hLj : L j = true := by
           by_cases hjk : j = k
           ·subst hjk; exact hc.1
           ·exact pre j k z _ (by omega) hz hy hz2 hc.2 hc.1
          have hnc : confL refm l i j ≠ true := fun hcf => after j z (by omega) hz (.inr hcf) hLj
          exact (zy3g hx hz h1 hz2 hns (.inl hnc)).1
        ·exact ihk (by omega) (by omega)
     exact up l.length (by omega) (Nat.le_refl _)
    ·right
     -- the first that has not come
     have hex : ∃ j, j < i ∧ (∃ y, l[j]? = some y ∧ 2 ≤ y.op.heed refm) ∧ L j ≠ true := by
      apply Classical.byContradiction
      intro hne
      refine hall fun j y hj hy h2 => ?_
      apply Classical.byContradiction
      intro hL
      exact hne ⟨j, hj, ⟨y, hy, h2⟩, hL⟩
     obtain ⟨j0, ⟨hj0, ⟨y0, hy0, hh0⟩, hL0⟩, hmin⟩ : ∃ j, (j < i ∧ (∃ y, l[j]? = some y ∧ 2 ≤ y.op.heed refm) ∧ L j ≠ true) ∧ ∀ k, (k < i ∧ (∃ y, l[k]? = some y ∧ 2 ≤ y.op.heed refm) ∧ L k ≠ true) → j ≤ k := least' hex
     have none_ : ∀ k z, j0 ≤ k → l[k]? = some z → 2 ≤ z.op.heed refm → L k ≠ true := fun k z hk hz h2 hL => by
      by_cases hkj : k = j0
      ·subst hkj; exact hL0 hL
      ·exact hL0 (pre j0 k y0 z (by omega) hy0 hz hh0 h2 hL)
     have hT : (T L).h = (S j0).h := by
      show heapD l refm S _ l.length = _
      rw [zy6w l refm S _ j0 l.length (by omega), (text j0 (by omega)).2]
      ·refine zy6v _ _ _ _ _ _ fun j hj hd => ?_
       have hy : l[j]? = some l[j] := List.getElem?_eq_getElem (by omega)
       rw [hy] at hd
       simp only [Option.map_some, Option.getD_some] at hd
       apply Classical.byContradiction
       intro hL
       have := hmin j ⟨by omega, ⟨_, hy, hd⟩, hL⟩
       omega
      ·intro j hij hjl hL hd
       have hy : l[j]? = some l[j] := List.getElem?_eq_getElem (by omega)
       rw [hy] at hd
       simp only [Option.map_some, Option.getD_some] at hd
       exact none_ j _ hij hy hd hL
     have hg : ∀ k z, j0 ≤ k → k < i → l[k]? = some z → 2 ≤ z.op.heed refm → z.op.grows = true ∧ x.op.plain = true := fun k z hk hki hz h2 => by
      refine zy3g hx hz h1 h2 hns (.inr fun hcf => ?_)
      exact none_ k z hk hz h2 (before k z hki hz (.inr hcf))
     rw [hT]
     exact ⟨(hg j0 y0 (Nat.le_refl _) hj0 hy0 hh0).2, runH i j0 (by omega) (by omega) fun k z h1 h2 h3 h4 => (hg k z h1 h2 h3 h4).1⟩
   have hC' : (T fun j => if j = i then true else L j) = ({ (T L) with h := if 2 ≤ x.op.heed refm then (S (i + 1)).h else (T L).h } : St).put x.dst (V i) := by
    refine St.ext' (by rw [zyee, Tlen]; exact (Tlen _).symm) (fun n hn => ?_) ?_
    ·rw [Tlen] at hn
     rw [zyed _ _ _ _ (by show n < (T _).t.length; rw [Tlen]; exact hn)]
     show _ = if x.dst = some n then V i else (T L).t.getD n .junk
     rw [Tget, Tget, if_pos hn, if_pos hn]
     by_cases hd : x.dst = some n
     ·rw [if_pos hd, zyht l S V _ n (i + 1) l.length (by omega), zyhu, if_pos]
      ·exact ⟨if_pos rfl, by rw [hx]; exact hd⟩
      ·intro j hij hjl hL hdj
       have hL : (if j = i then true else L j) = true := hL
       rw [if_neg (by omega)] at hL
       cases hy : l[j]? with
       | none => rw [hy] at hdj; cases hdj
       | some y =>
        rw [hy] at hdj
        exact after j y (by omega) hy (.inl (zy2y hd hdj)) hL
     ·rw [if_neg hd]
      refine zyhs _ _ _ _ _ _ _ fun j hj hdj => ?_
      show (if j = i then true else L j) = L j
      rw [if_neg]
      rintro rfl
      rw [hx] at hdj
      exact hd hdj
    ·rw [put_h]
     show heapD l refm S _ l.length = if _ then _ else heapD l refm S _ l.length
     by_cases h2 : 2 ≤ x.op.heed refm
     ·rw [if_pos h2, zy6w l refm S _ (i + 1) l.length (by omega), zy6x, if_pos]
      ·exact ⟨if_pos rfl, by rw [hx]; exact h2⟩
      ·intro j hij hjl hL hd
       have hL : (if j = i then true else L j) = true := hL
       rw [if_neg (by omega)] at hL
       have hy : l[j]? = some l[j] := List.getElem?_eq_getElem (by omega)
       rw [hy] at hd
       simp only [Option.map_some, Option.getD_some] at hd
       exact after j _ (by omega) hy (.inr (zy3e hx hy h2 hd)) hL
     ·rw [if_neg h2]
      refine zy6v _ _ _ _ _ _ fun j hj hd => ?_
      show (if j = i then true else L j) = L j
      rw [if_neg]
      rintro rfl
      rw [hx] at hd
      exact h2 hd
   exact ⟨hA, hB, hR, hC'⟩
 let i0 := zyhp refm ops l
 let tw : Bool := twin refm ops l i0
 let e0 : Nat := match l[i0 + 1]? with | some ⟨some e, _, _⟩ => e | _ => 0
 let Lp : Array Bool → Nat → Bool := fun listed k => listed.getD k false && !(tw && k == i0 + 1 && !(listed.getD i0 false))
 let pend : Array Bool → Bool := fun listed => tw && listed.getD (i0 + 1) false && !(listed.getD i0 false)
 let J : Array Bool → St → St := fun listed s => bif pend listed then s.put (some e0) .junk else s
 let PB : Act → World → Mu → (Nat → Prop) → Prop := fun a w μ A => ∃ (b : Nat) (arr : Array Value) (ty : TypeId) (fr : Nat × Nat) (c : List AV), l[i0 + 1]? = some ⟨some e0, .zbox c, []⟩ ∧ (e0 < a.tmps.size → a.tmps.getD e0 Go.undef = .pointer (some ⟨b, 0, none⟩)) ∧ w.heap[b]? = some (.cells arr ty fr) ∧ (∀ o, o < arr.size → ¬ (fr.1 ≤ o ∧ o < fr.2)) ∧
  (∀ w μ A, RepL w μ A c arr.toList) ∧ ¬ Liv μ b ∧ ¬ A b ∧ w0.heap.size ≤ b
 have Lp_of : ∀ listed k, Lp listed k = true → listed.getD k false = true := fun listed k h => by
  simp only [Lp, Bool.and_eq_true] at h; exact h.1
 have Lp_np : ∀ listed k, listed.getD k false = true → (tw = true → k = i0 + 1 → listed.getD i0 false = true) → Lp listed k = true := fun listed k h hn => by
  simp only [Lp, h, Bool.true_and, Bool.not_eq_true']
  cases htw : tw
  ·rfl
  ·by_cases hk : k = i0 + 1
   ·rw [hn htw hk]; simp
   ·simp [hk]
 have main : ∀ (fuel : Nat) (listed : Array Bool) (a : Act) (w : World) (μ : Mu) (A : Nat → Prop), listed.size = ops.size → zy01 ops (fun j => listed.getD j false) → left_ (fun j => listed.getD j false) l.length ≤ fuel → Sim w0 μ0 A0 (J listed (T (Lp listed))) a w μ A → (pend listed = true → PB a w μ A) →
   wpAnyIn (FW ρ) 0 P .any ops Q fuel listed a w := by
  -- where all have come nothing is pending
  have fin : ∀ (listed : Array Bool) (a : Act) (w : World) (μ : Mu) (A : Nat → Prop), listed.size = ops.size → Region.ready .any ops listed = [] → (∀ j, j < l.length → listed.getD j false = true) → Sim w0 μ0 A0 (J listed (T (Lp listed))) a w μ A → Q .normal a w := by
   intro listed a w μ A hsz hr all hsim
   have hp : pend listed = false := by
    cases htw : tw
    ·simp [-Array.getD_eq_getD_getElem?, pend, htw]
    ·obtain ⟨_, _, _, _, h1, _⟩ := zyhq htw
     have := all i0 (List.getElem?_eq_some_iff.1 h1).1
     simp [-Array.getD_eq_getD_getElem?, pend, this]
   have hJ : J listed (T (Lp listed)) = T fun j => listed.getD j false := by
    simp only [J, hp, cond_false]
    refine St.ext' (by rw [Tlen, Tlen]) (fun x hx => ?_) ?_
    ·rw [Tlen] at hx
     rw [Tget, Tget, if_pos hx, if_pos hx]
     refine zyhs _ _ _ _ _ _ _ fun j hj _ => ?_
     show _ = listed.getD j false
     rw [all j hj]
     exact Lp_np listed j (all j hj) fun htw _ => by
      obtain ⟨_, _, _, _, h1, _⟩ := zyhq htw
      exact all i0 (List.getElem?_eq_some_iff.1 h1).1
    ·refine zy6v _ _ _ _ _ _ fun j hj _ => ?_
     show _ = listed.getD j false
     rw [all j hj]
     exact Lp_np listed j (all j hj) fun htw _ => by
      obtain ⟨_, _, _, _, h1, _⟩ := zyhq htw
      exact all i0 (List.getElem?_eq_some_iff.1 h1).1
   rw [hJ] at hsim
   exact done listed a w μ A hsz hr hsim
  have allOf : ∀ (listed : Array Bool), listed.size = ops.size → Region.ready .any ops listed = [] → ∀ j, j < l.length → listed.getD j false = true := by
   intro listed hsz hr
   apply zy9q
   by_cases h0 : left_ (fun j => listed.getD j false) l.length = 0
   ·exact h0
   ·obtain ⟨m, hm, hm2, hm3⟩ := zy9s _ _ h0
    have hmem : m ∈ Region.ready .any ops listed := by
     unfold Region.ready
     have hml : m < ops.size := by omega
     refine List.mem_filter.2 ⟨List.mem_range.2 hml, ?_⟩
     have h1 : listed.getD m true = false := by
      have : m < listed.size := by omega
      simp only [Array.getD_eq_getD_getElem?, Array.getElem?_eq_getElem this, Option.getD_some] at hm2 ⊢
      exact hm2
     have ho : ops[m]? = some ops[m] := Array.getElem?_eq_getElem hml
     rw [h1, ho]
     simp only [Bool.not_false, Bool.true_and, Option.map_some, Option.getD_some]
     rw [Array.all_eq_true']
     intro e he
     cases hb : Region.binds .any e
     ·rfl
     ·have := hm3 e.on ((zy4c hdr hm).1 _ ho e he hb)
      simp only [Bool.not_true, Bool.false_or]
      exact this
    rw [hr] at hmem
    cases hmem
  intro fuel
  induction fuel with
  | zero =>
   intro listed a w μ A hsz hcl hle hsim hpb
   have all := zy9q _ _ (Nat.le_zero.1 hle)
   have hr : Region.ready .any ops listed = [] := by
    unfold Region.ready
    rw [List.filter_eq_nil_iff]
    intro j hj
    have hj' : j < ops.size := List.mem_range.1 hj
    have h1 : listed.getD j true = true := by
     have h2 := all j (by omega)
     have : j < listed.size := by omega
     simp only [Array.getD_eq_getD_getElem?, Array.getElem?_eq_getElem this, Option.getD_some] at h2 ⊢
     exact h2
    simp [h1]
   exact ⟨hr, fin listed a w μ A hsz hr all hsim⟩
  | succ fuel ih =>
   intro listed a w μ A hsz hcl hle hsim hpb
   refine ⟨fun hr => fin listed a w μ A hsz hr (allOf listed hsz hr) hsim, fun i hi => ?_⟩
   unfold Region.ready at hi
   obtain ⟨hir, hi⟩ := List.mem_filter.1 hi
   have hil : i < ops.size := List.mem_range.1 hir
   have ho : ops[i]? = some ops[i] := Array.getElem?_eq_getElem hil
   generalize ops[i] = o at ho
   rw [ho] at hi
   simp only [Bool.and_eq_true, Bool.not_eq_true', Option.map_some, Option.getD_some, Array.all_eq_true'] at hi
   obtain ⟨hi0, hedge⟩ := hi
   have hLi : listed.getD i false = false := by
    have : i < listed.size := by omega
    simp only [Array.getD_eq_getD_getElem?, Array.getElem?_eq_getElem this, Option.getD_some] at hi0 ⊢
    exact hi0
   have hedge' : ∀ e ∈ o.after, Region.binds .any e = true → listed.getD e.on false = true := fun e he hb => by
    have := hedge e he
    rw [hb] at this
    simpa using this
   have hx : l[i]? = some (compI P ops o) := by rw [← hl]; simp [ho]
   generalize hxx : compI P ops o = x at hx
   -- zy0v this one: it has come
   have came : ∀ j, zy0v ops 12 i j = true → listed.getD j false = true := fun j hb =>
    zy0w (L := fun j => listed.getD j false) hcl 12 i j hb (fun o' ho' => by rw [ho] at ho'; cases ho'; exact hedge')
   have came' : ∀ j k, listed.getD k false = true → zy0v ops 12 k j = true → listed.getD j false = true := fun j k hk hb =>
    zy0w (L := fun j => listed.getD j false) hcl 12 k j hb (fun o' ho' => hcl k o' ho' hk)
   have hL' : ∀ j, (listed.setIfInBounds i true).getD j false = if j = i then true else listed.getD j false := by
    intro j
    have : i < listed.size := by omega
    simp only [Array.getD_eq_getD_getElem?, Array.getElem?_setIfInBounds]
    by_cases hji : j = i
    ·subst hji; simp [this]
    ·rw [if_neg (fun e => hji e.symm), if_neg hji]
   have hcl' : zy01 ops fun j => (listed.setIfInBounds i true).getD j false := by
    intro j o' ho' hj e he hb
    simp only [hL'] at hj ⊢
    by_cases hji : j = i
    ·subst hji
     rw [ho] at ho'
     cases ho'
     rw [hedge' e he hb]; simp
    ·rw [if_neg hji] at hj
     have := hcl j o' ho' hj e he hb
     simp only at this
     rw [this]; simp
   have hle' : left_ (fun j => (listed.setIfInBounds i true).getD j false) l.length ≤ fuel := by
    have := zy9r (fun j => listed.getD j false) (fun j => (listed.setIfInBounds i true).getD j false) i hLi (by simp only [hL']; simp) (fun j hj => by simp only [hL']; rw [if_neg hj]) l.length (by omega)
    omega
   have hsz' : (listed.setIfInBounds i true).size = ops.size := by simpa using hsz
   have hil' : i < l.length := by omega
   unfold wpOpIn
   simp only [ho]
   -- the second of the twins, ahead of the first
   by_cases hcA : tw = true ∧ i = i0 + 1 ∧ listed.getD i0 false = false
   ·obtain ⟨htw, rfl, h0⟩ := hcA
    obtain ⟨d, e, b, c, g1, g2, g3, ⟨o9, ty0, g5, g6⟩, g4⟩ := zyhq htw
    have he0 : e0 = e := by show (match l[i0 + 1]? with | some ⟨some e, _, _⟩ => e | _ => 0) = e; rw [g2]
    rw [hx] at g2
    cases g2
    have hnp : pend listed = false := by simp [-Array.getD_eq_getD_getElem?, pend, hLi]
    simp only [J, hnp, cond_false] at hsim
    obtain ⟨g, hg, hwg⟩ := zy37 (C := C) (refm := refm) (s := T (Lp listed)) (o := o) (ops := ops) (P := P) (b := true) (by rw [hxx]; rfl) (fun _ => ⟨(.rp (T (Lp listed)).h.length 0, (T (Lp listed)).h ++ [some c]), by rw [hxx]; rfl⟩)
    have hd : (compI P ops o).dst = o.dst := by unfold compI; rw [hg]
    rw [zyid hsim.t hg hwg, if_pos rfl]
    have hop : o.op = .alloc ty0 := by
     rw [ho] at g5
     cases g5
     exact g6
    refine wp_FW (.inr (by rw [hop]; intro c e; cases e)) (zbox_wp hop hxx fun arr ty hrep w' hw' => ?_)
    rw [hxx] at hd
    rw [← hd]
    obtain ⟨mv, hh'⟩ := push_only hsim.h ty arr
    rw [← hw'] at mv hh'
    have hLp : ∀ k, Lp (listed.setIfInBounds (i0 + 1) true) k = Lp listed k := fun k => by
     by_cases hk : k = i0 + 1
     ·subst hk; simp [-Array.getD_eq_getD_getElem?, Lp, hL', hLi, h0, htw]
     ·by_cases hk0 : i0 = i0 + 1
      ·omega
      ·simp [-Array.getD_eq_getD_getElem?, Lp, hL', hk, hk0]
    have hp' : pend (listed.setIfInBounds (i0 + 1) true) = true := by
     simp only [pend, hL']
     rw [if_pos trivial, if_neg (by omega), h0, htw]; rfl
    refine ih _ _ w' μ A hsz' hcl' hle' ?_ ?_
    ·simp only [J, hp', cond_true]
     rw [show Lp (listed.setIfInBounds (i0 + 1) true) = Lp listed from funext hLp, he0]
     exact hsim.put hh' (.junk _) mv (some e)
    ·intro _
     refine ⟨w.heap.size, arr, ty, (0, 0), c, by rw [he0]; exact hx, ?_, ?_, fun o _ h => by simp at h, hrep, ?_, ?_, hsim.m.size⟩
     ·rw [he0]
      intro hlen
      have hlen : e < a.tmps.size := by
       have : e < (a.tmps.setIfInBounds e (.pointer (some ⟨w.heap.size, 0, none⟩))).size := hlen
       simpa using this
      show (a.tmps.setIfInBounds e _).getD e _ = _
      simp [Array.getD_eq_getD_getElem?, Array.getElem?_setIfInBounds, hlen]
     ·rw [hw']; simp
     ·exact fun hl => by have := zya5 hsim.h hl; omega
     ·exact fun ha => by have := hsim.h.old _ ha; omega
   ·-- what adv wants
    have pos : ∀ j, listed.getD j false = true → (tw = true → j = i0 + 1 → listed.getD i0 false = true) → Lp listed j = true := Lp_np listed
    have before : ∀ j y, j < i → l[j]? = some y → (clash y x = true ∨ confL refm l j i = true) → Lp listed j = true := fun j y hj hy hc => by
     rcases (zy4c hdr hil').2 j hj y x hy hx hc with hb | ⟨h1, h2, h3⟩
     ·refine pos j (came j hb) fun htw hj1 => ?_
      obtain ⟨d, e, b, c, g1, g2, g3, _, g4⟩ := zyhq htw
      subst hj1
      have hy2 := hy
      rw [hy] at g2; cases g2
      exact came i0 (g4 i x hj hx (hc.imp id fun h => zy3f hy2 hx h))
     ·have h0 : listed.getD i0 false = true := by
       cases h0 : listed.getD i0 false
       ·exact absurd ⟨h3, h2, h0⟩ hcA
       ·rfl
      subst h1
      exact pos _ h0 fun _ h => by omega
    have after : ∀ j y, i < j → l[j]? = some y → (clash x y = true ∨ confL refm l i j = true) → Lp listed j = true → False := fun j y hj hy hc hL => by
     have hjl : j < l.length := (List.getElem?_eq_some_iff.1 hy).1
     rcases (zy4c hdr hjl).2 i hj x y hx hy hc with hb | ⟨h1, h2, h3⟩
     ·rw [came' i j (Lp_of listed j hL) hb] at hLi; cases hLi
     ·have htw : tw = true := h3
      simp only [Lp, Bool.and_eq_true, htw, Bool.true_and, Bool.not_eq_true', Bool.and_eq_false_iff] at hL
      rcases hL.2 with h | h
      ·simp [h2, i0] at h
      ·subst h1
       rw [show listed.getD i0 false = false from hLi] at h
       simp at h
    have pre : ∀ j k y z, j < k → l[j]? = some y → l[k]? = some z → 2 ≤ y.op.heed refm → 2 ≤ z.op.heed refm → Lp listed k = true → Lp listed j = true := fun j k y z hjk hy hz h1 h2 hL => by
     have hkl : k < l.length := (List.getElem?_eq_some_iff.1 hz).1
     have hLk := Lp_of listed k hL
     rcases (zy4c hdr hkl).2 j hjk y z hy hz (.inr (zy3e hy hz h1 h2)) with hb | ⟨g1, g2, g3⟩
     ·refine pos j (came' j k hLk hb) fun htw hj1 => ?_
      obtain ⟨d, e, b, c, q1, q2, q3, _, q4⟩ := zyhq htw
      subst hj1
      rw [hy] at q2; cases q2
      exact came' i0 k hLk (q4 k z hjk hz (.inr (conf22 h1 h2)))
     ·have htw : tw = true := g3
      simp only [Lp, Bool.and_eq_true, htw, Bool.true_and, Bool.not_eq_true', Bool.and_eq_false_iff] at hL
      rcases hL.2 with h | h
      ·simp [g2, i0] at h
      ·subst g1
       exact pos i0 (by simpa using h) fun _ h => by omega
    have hLi' : Lp listed i = false := by simp [-Array.getD_eq_getD_getElem?, Lp, hLi]
    obtain ⟨hA, hB, hR, hC'⟩ := adv (Lp listed) i x hil' hx hLi' before after pre
    -- what is pending is not looked at
    have off : pend listed = true → i ≠ i0 → e0 ∉ x.reads ∧ x.dst ≠ some e0 := by
     intro hp hi0
     simp only [pend, Bool.and_eq_true, Bool.not_eq_true'] at hp
     obtain ⟨⟨htw, hj⟩, h0⟩ := hp
     obtain ⟨d, e, b, c, g1, g2, g3, _, g4⟩ := zyhq htw
     have he0 : e0 = e := by show (match l[i0 + 1]? with | some ⟨some e, _, _⟩ => e | _ => 0) = e; rw [g2]
     have hne : i ≠ i0 + 1 := fun h => by rw [h, hj] at hLi; cases hLi
     rw [he0]
     rcases Nat.lt_or_ge i (i0 + 1) with hlt | hge
     ·have h3 : clash x ⟨some e, .zbox c, []⟩ ≠ true := fun hc => by
       rcases (zy4c hdr (List.getElem?_eq_some_iff.1 g2).1).2 i hlt x _ hx g2 (.inl hc) with hb | ⟨h1, _, _⟩
       ·rw [came' i _ hj hb] at hLi; cases hLi
       ·exact hi0 h1
      exact ⟨fun hr => h3 (zy30 rfl hr), fun hd => h3 (zy2y hd rfl)⟩
     ·have h3 : clash ⟨some e, .zbox c, []⟩ x ≠ true := fun hc => by
       have := came i0 (g4 i x (by omega) hx (.inl hc))
       rw [h0] at this; cases this
      exact ⟨fun hr => h3 (zy2z rfl hr), fun hd => h3 (zy2y rfl hd)⟩
    -- the state in which it is carried out
    have hget : ∀ n, (pend listed = true → n ≠ e0) → (J listed (T (Lp listed))).t.getD n .junk = (T (Lp listed)).t.getD n .junk := by
     intro n hn
     cases hp : pend listed
     ·simp only [J, hp, cond_false]
     ·simp only [J, hp, cond_true]
      show ((T (Lp listed)).t.set e0 .junk).getD n .junk = _
      rw [List.getD_eq_getElem?_getD, List.getElem?_set_ne (fun h => hn hp h.symm), ← List.getD_eq_getElem?_getD]
    have hJh : (J listed (T (Lp listed))).h = (T (Lp listed)).h := by
     cases hp : pend listed <;> simp only [J, hp, cond_false, cond_true] <;> rfl
    have hxr : ∀ n ∈ x.reads, pend listed = true → n ≠ e0 := fun n hn hp he => by
     by_cases hi0 : i = i0
     ·simp only [pend, Bool.and_eq_true, Bool.not_eq_true'] at hp
      obtain ⟨d, e, b, c, g1, g2, g3, _, g4⟩ := zyhq hp.1.1
      rw [hi0, g1] at hx
      cases hx
      simp [AI.reads, AOp.opds] at hn
     ·exact (off hp hi0).1 (he ▸ hn)
    have hA1 : ∀ n ∈ x.reads, (S i).t.getD n .junk = (J listed (T (Lp listed))).t.getD n .junk := fun n hn => by
     rw [hget n (hxr n hn)]; exact hA n hn
    have hrd : ∀ p ∈ x.guard, (S i).t.getD p.1 .junk = (J listed (T (Lp listed))).t.getD p.1 .junk := fun p hp => hA1 p.1 (by
     unfold AI.reads
     exact List.mem_append_right _ (List.mem_map.2 ⟨p, hp, rfl⟩))
    generalize hHH : (if 2 ≤ x.op.heed refm then (S (i + 1)).h else (T (Lp listed)).h) = HH at hC'
    -- the next state
    have nextC : ¬ (pend listed = true ∧ i = i0) → Lp (listed.setIfInBounds i true) = (fun j => if j = i then true else Lp listed j) ∧ pend (listed.setIfInBounds i true) = pend listed := by
     intro hnB
     have hpi : i = i0 → tw = true → listed.getD (i0 + 1) false = false := fun h1 h2 => by
      cases h3 : listed.getD (i0 + 1) false
      ·rfl
      ·refine absurd ⟨?_, h1⟩ hnB
       subst h1
       simp only [pend, h2, h3, Bool.true_and, Bool.not_eq_true']
       exact hLi
     have hAi : i = i0 + 1 → tw = true → listed.getD i0 false = true := fun h1 h2 => by
      cases h3 : listed.getD i0 false
      ·exact absurd ⟨h2, h1, h3⟩ hcA
      ·rfl
     refine ⟨funext fun j => ?_, ?_⟩
     ·by_cases hj : j = i
      ·subst hj
       simp only [Lp, hL', if_pos rfl, Bool.true_and, if_true]
       cases htw : tw
       ·rfl
       ·by_cases hj1 : j = i0 + 1
        ·have := hAi hj1 htw
         subst hj1
         rw [if_neg (by omega), this]; simp
        ·simp [hj1]
      ·simp only [Lp, hL', if_neg hj]
       by_cases hi0 : i0 = i
       ·rw [if_pos hi0]
        cases htw : tw
        ·simp
        ·by_cases hj1 : j = i0 + 1
         ·have := hpi hi0.symm htw
          subst hj1
          rw [this]; simp
         ·simp [hj1]
       ·rw [if_neg hi0]
     ·simp only [pend, hL']
      by_cases hi0 : i0 = i
      ·rw [if_pos hi0]
       cases htw : tw
       ·simp
       ·rw [hpi hi0.symm htw]; simp
      ·rw [if_neg hi0]
       by_cases hj1 : i0 + 1 = i
       ·rw [if_pos hj1]
        cases htw : tw
        ·simp
        ·rw [hAi hj1.symm htw]; simp
       ·rw [if_neg hj1]
    have putJ : ∀ (v : AV), ¬ (pend listed = true ∧ i = i0) → J (listed.setIfInBounds i true) (({ T (Lp listed) with h := HH } : St).put x.dst v) = ({ J listed (T (Lp listed)) with h := HH } : St).put x.dst v := by
     intro v hnB
     simp only [J, (nextC hnB).2]
     cases hp : pend listed
     ·rfl
     ·simp only [cond_true]
      have hd := (off hp fun h => hnB ⟨hp, h⟩).2
      cases hxd : x.dst with
      | none => rfl
      | some d =>
       show (⟨((T (Lp listed)).t.set d v).set e0 .junk, HH⟩ : St) = ⟨((T (Lp listed)).t.set e0 .junk).set d v, HH⟩
       rw [List.set_comm _ _ (fun h => hd (by rw [hxd, h]))]
    have keepPB : ∀ {w' : World} {μ' : Mu} {A' : Nat → Prop} (v : Value), Move w μ A w' μ' A' → ¬ (pend listed = true ∧ i = i0) → pend listed = true → PB a w μ A → PB (a.put x.dst v) w' μ' A' := by
     intro w' μ' A' v mv hnB hp ⟨b, arr, ty, fr, c, q1, q2, q3, q4, q5, q6, q7, q8⟩
     have hb : b < w.heap.size := (Array.getElem?_eq_some_iff.1 q3).1
     refine ⟨b, arr, ty, fr, c, q1, ?_, by rw [mv.keep b hb q6]; exact q3, q4, q5, fun h => (mv.liv b h).elim q6 (fun h => by omega), fun h => (mv.new b h).elim q7 (fun h => h.elim q6 (fun h => by omega)), q8⟩
     have hd := (off hp fun h => hnB ⟨hp, h⟩).2
     cases hxd : x.dst with
     | none => exact q2
     | some d =>
      intro hlen
      have hlen' : e0 < a.tmps.size := by
       have : e0 < (a.tmps.setIfInBounds d v).size := hlen
       simpa using this
      show (a.tmps.setIfInBounds d v).getD e0 Go.undef = _
      rw [← q2 hlen']
      have hde : ¬ d = e0 := fun h => hd (by rw [hxd, h])
      simp [Array.getD_eq_getD_getElem?, Array.getElem?_setIfInBounds, hde]
    rcases hS i x hx with ⟨hw, h', hst, hS1⟩ | ⟨hw, hV, hS1⟩
    ·have hstT : stepA C refm x (J listed (T (Lp listed))) = some (V i, HH) := by
      rw [← hHH]
      by_cases h2 : 2 ≤ x.op.heed refm
      ·have hcg := zygm hA1 (fun _ => (hB h2).trans hJh.symm) hst
       rw [if_pos h2, hS1, put_h]
       exact hcg.1 h2
      ·rw [if_neg h2, ← hJh]
       by_cases h1 : x.op.heed refm = 1
       ·by_cases hns : zy0f refm l = true ∧ oldLd l i = true
        ·have := oldL (Lp listed) i x (J listed (T (Lp listed))).t (V i) h' hx hns.1 hns.2 hA1 hst
         have e9 : (J listed (T (Lp listed))) = ⟨(J listed (T (Lp listed))).t, heapD l refm S (Lp listed) l.length⟩ := by
          have : (J listed (T (Lp listed))).h = heapD l refm S (Lp listed) l.length := hJh
          rw [← this]
         rw [e9]
         exact this
        have hcg := ((zygm (s' := ⟨(J listed (T (Lp listed))).t, (S i).h⟩) hA1 (fun _ => rfl) hst).2 (by omega)).2
        rw [← hJh] at hR
        rcases hR h1 hns with ⟨ex, he⟩ | ⟨hpl, ex, he⟩
        ·have := zyeq (ex := ex) (by omega) hcg
         rw [← he] at this
         exact this
        ·rw [he] at hcg
         refine zyer (by omega) hsim.h (fun o ho => ?_) hcg
         cases o with
         | t n => exact .inr ⟨_, hsim.t.get n⟩
         | c v => exact .inl (List.all_eq_true.1 hpl _ ho)
       ·exact ((zygm hA1 (fun h => by omega) hst).2 (by omega)).2
     rw [zyic _ hrd] at hw
     subst hxx
     obtain ⟨g, hg, hwg⟩ := zy37 hw (fun _ => ⟨_, hstT⟩)
     have hd : (compI P ops o).dst = o.dst := by unfold compI; rw [hg]
     rw [zyid hsim.t hg hwg, if_pos rfl]
     refine (zygt hC hY ρ refm (hnd o (by have := ‹ops[i]? = some o›; simpa using Array.mem_of_getElem? this)) hstT hsim.h hsim.t hsim.m fun v w' μ' A' h1 h2 h3 => ?_)
     by_cases hB1 : pend listed = true ∧ i = i0
     ·-- the first of the twins, zy0v the second
      obtain ⟨hp, rfl⟩ := hB1
      obtain ⟨b, arr, ty, fr, c, q1, q2, q3, q4, q5, q6, q7, q8⟩ := hpb hp
      have hb : b < w.heap.size := (Array.getElem?_eq_some_iff.1 q3).1
      have hp2 := hp
      simp only [pend, Bool.and_eq_true, Bool.not_eq_true'] at hp2
      obtain ⟨⟨htw, hj⟩, h0⟩ := hp2
      obtain ⟨d, e, bb, cc, g1, g2, g3, _, g4⟩ := zyhq htw
      have he0 : e0 = e := by show (match l[i0 + 1]? with | some ⟨some e, _, _⟩ => e | _ => 0) = e; rw [g2]
      rw [hx] at g1
      have hxe : compI P ops o = ⟨some d, .zbox bb, []⟩ := by simpa using g1
      have sim1 := hsim.put h1 h2 h3 o.dst
      have hne : d ≠ e0 := by rw [he0]; exact g3
      have hdst : o.dst = some d := by rw [← hd, hxe]
      have sim2 := sim1.addBlock (b := b) (arr := arr) (ty := ty) (fr := fr) (c := c) (by rw [h3.keep b hb q6]; exact q3) q4 q5 (fun h => (h3.liv b h).elim q6 (fun h => by omega)) (fun h => (h3.new b h).elim q7 (fun h => h.elim q6 (fun h => by omega))) q8 e0 (by
       intro hlen
       rw [hdst] at hlen ⊢
       have hlen' : e0 < a.tmps.size := by
        have : e0 < (a.tmps.setIfInBounds d v).size := hlen
        simpa using this
       show (a.tmps.setIfInBounds d v).getD e0 Go.undef = _
       rw [← q2 hlen']
       simp [Array.getD_eq_getD_getElem?, Array.getElem?_setIfInBounds, hne])
      refine ih _ _ w' (μ' ++ [some (⟨b, 0, none⟩, arr.size)]) A' hsz' hcl' hle' ?_ (fun hp' => ?_)
      ·have hp' : pend (listed.setIfInBounds i0 true) = false := by simp [-Array.getD_eq_getD_getElem?, pend, hL']
       simp only [J, hp', cond_false]
       have hLpn : Lp (listed.setIfInBounds i0 true) = fun k => if k = i0 + 1 then true else (if k = i0 then true else Lp listed k) := funext fun k => by
        simp only [Lp, hL']
        by_cases hk1 : k = i0 + 1
        ·subst hk1; rw [if_pos rfl, if_neg (by omega), hj]; simp [-Array.getD_eq_getD_getElem?]
        ·rw [if_neg hk1]
         by_cases hk0 : k = i0
         ·subst hk0; simp [-Array.getD_eq_getD_getElem?]
         ·simp [hk0, hk1]
       obtain ⟨hA2, hB2, hR2, hC2⟩ := adv (fun k => if k = i0 then true else Lp listed k) (i0 + 1) _ (List.getElem?_eq_some_iff.1 g2).1 g2 (by
         show (if i0 + 1 = i0 then true else Lp listed (i0 + 1)) = false
         rw [if_neg (by omega)]
         simp [-Array.getD_eq_getD_getElem?, Lp, htw, h0])
        (fun k y hk hy hc => by
         show (if k = i0 then true else Lp listed k) = true
         by_cases hk0 : k = i0
         ·rw [if_pos hk0]
         ·rw [if_neg hk0]
          rcases (zy4c hdr (List.getElem?_eq_some_iff.1 g2).1).2 k hk y _ hy g2 hc with hb | ⟨h1, _, _⟩
          ·exact pos k (came' k _ hj hb) fun _ h => by omega
          ·exact absurd h1 hk0)
        (fun k y hk hy hc hL => by
         have hL : (if k = i0 then true else Lp listed k) = true := hL
         rw [if_neg (by omega)] at hL
         have := came' i0 k (Lp_of listed k hL) (g4 k y hk hy (hc.imp id fun h => zy3f g2 hy h))
         rw [h0] at this; cases this)
        (fun j k y z hjk hy hz e1 e2 hL => by
         have hL : (if k = i0 then true else Lp listed k) = true := hL
         show (if j = i0 then true else Lp listed j) = true
         by_cases hj0 : j = i0
         ·rw [if_pos hj0]
         ·rw [if_neg hj0]
          by_cases hk0 : k = i0
          ·subst hk0
           rw [hx] at hz
           cases hz
           rcases (zy4c hdr hil').2 j hjk y _ hy hx (.inr (zy3e hy hx e1 e2)) with hb | ⟨h1, _, _⟩
           ·exact pos j (came j hb) fun _ h => by omega
           ·exact absurd h1 hj0
          ·rw [if_neg hk0] at hL
           exact pre j k y z hjk hy hz e1 e2 hL)
       rw [hLpn, hC2]
       -- what both give
       have v1 : V i0 = .rp (S i0).h.length 0 ∧ h' = (S i0).h ++ [some bb] := by
        rw [hxe] at hst
        have : some (AV.rp (S i0).h.length 0, (S i0).h ++ [some bb]) = some (V i0, h') := hst
        simp only [Option.some.injEq, Prod.mk.injEq] at this
        exact ⟨this.1.symm, this.2.symm⟩
       have hh2 : (2 : Nat) ≤ (compI P ops o).op.heed refm := by rw [hxe]; exact Nat.le_refl 2
       have hS1h : (S (i0 + 1)).h = (S i0).h ++ [some bb] := by rw [hS1, put_h]; exact v1.2
       rcases hS (i0 + 1) _ g2 with ⟨_, h'', hst2, hS2⟩ | ⟨hw2, _, _⟩
       ·have v2 : V (i0 + 1) = .rp (S (i0 + 1)).h.length 0 ∧ h'' = (S (i0 + 1)).h ++ [some cc] := by
         have : some (AV.rp (S (i0 + 1)).h.length 0, (S (i0 + 1)).h ++ [some cc]) = some (V (i0 + 1), h'') := hst2
         simp only [Option.some.injEq, Prod.mk.injEq] at this
         exact ⟨this.1.symm, this.2.symm⟩
        have hS2h : (S (i0 + 1 + 1)).h = (S (i0 + 1)).h ++ [some cc] := by rw [hS2, put_h]; exact v2.2
        have hcc : c = cc := by
         rw [g2] at q1
         simp only [Option.some.injEq, AI.mk.injEq, AOp.zbox.injEq] at q1
         exact q1.2.1.symm
        have hHH' : HH = (S (i0 + 1)).h := by rw [← hHH, if_pos hh2]
        have hT2 : (T fun k => if k = i0 then true else Lp listed k).h = (S (i0 + 1)).h := (hB2 (Nat.le_refl 2)).symm
        have e2 : (if 2 ≤ (AOp.zbox cc).heed refm then (S (i0 + 1 + 1)).h else (T fun k => if k = i0 then true else Lp listed k).h) = HH ++ [some c] := by
         rw [if_pos (show 2 ≤ (AOp.zbox cc).heed refm from Nat.le_refl 2), hS2h, hHH', hcc]
        rw [e2, hC', v2.1, ← hHH']
        have e3 : ((({ J listed (T (Lp listed)) with h := HH } : St).put o.dst (V i0))).h = HH := by rw [put_h]
        have fin2 : (({ ({ T (Lp listed) with h := HH } : St).put (compI P ops o).dst (V i0) with h := HH ++ [some c] } : St).put (some e) (.rp HH.length 0)) = ({ ({ J listed (T (Lp listed)) with h := HH } : St).put o.dst (V i0) with h := (({ J listed (T (Lp listed)) with h := HH } : St).put o.dst (V i0)).h ++ [some c] } : St).put (some e0) (.rp (({ J listed (T (Lp listed)) with h := HH } : St).put o.dst (V i0)).h.length 0) := by
         rw [e3, hd, hdst, he0]
         simp only [J, hp, cond_true, he0]
         show (⟨((T (Lp listed)).t.set d (V i0)).set e _, HH ++ [some c]⟩ : St) = ⟨(((T (Lp listed)).t.set e .junk).set d (V i0)).set e _, HH ++ [some c]⟩
         congr 1
         rw [List.set_comm (AV.junk) (V i0) (fun h => g3 h.symm), List.set_set]
        rw [fin2]
        exact sim2
       ·cases hw2
      ·simp [-Array.getD_eq_getD_getElem?, pend, hL'] at hp'
     ·refine ih _ _ w' μ' A' hsz' hcl' hle' ?_ fun hp' => ?_
      ·rw [(nextC hB1).1, hC', putJ _ hB1, hd]
       exact hsim.put h1 h2 h3 o.dst
      ·rw [(nextC hB1).2] at hp'
       rw [← hd]
       exact keepPB v h3 hB1 hp' (hpb hp')
    ·have hB1 : ¬ (pend listed = true ∧ i = i0) := fun ⟨hp, h0⟩ => by
      simp only [pend, Bool.and_eq_true, Bool.not_eq_true'] at hp
      obtain ⟨d, e, b, c, g1, g2, g3, _, g4⟩ := zyhq hp.1.1
      rw [h0, g1] at hx
      cases hx
      cases hw
     rw [zyic _ hrd] at hw
     subst hxx
     obtain ⟨g, hg, hwg⟩ := zy37 (C := C) (refm := refm) hw (fun e => by cases e)
     have hd : (compI P ops o).dst = o.dst := by unfold compI; rw [hg]
     rw [zyid hsim.t hg hwg]
     simp only [Bool.false_eq_true, if_false]
     refine ⟨fun _ _ => trivial, ?_⟩
     refine ih _ _ w μ A hsz' hcl' hle' ?_ fun hp' => ?_
     ·have hh : HH = (J listed (T (Lp listed))).h := by
       rw [← hHH, hJh]
       by_cases h2 : 2 ≤ (compI P ops o).op.heed refm
       ·rw [if_pos h2, hS1, put_h]
        exact hB h2
       ·rw [if_neg h2]
      rw [(nextC hB1).1, hC', putJ _ hB1, hd, hh, hV]
      exact hsim.put hsim.h .undef (Move.refl _ _ _) o.dst
     ·rw [(nextC hB1).2] at hp'
      rw [← hd]
      exact keepPB Go.undef (Move.refl _ _ _) hB1 hp' (hpb hp')
 have hf : ∀ j, (Array.replicate ops.size false).getD j false = false := fun j => by
  simp only [Array.getD_eq_getD_getElem?, Array.getElem?_replicate]
  split <;> rfl
 have hp0 : pend (Array.replicate ops.size false) = false := by simp [-Array.getD_eq_getD_getElem?, pend, hf]
 have hLp0 : ∀ j, Lp (Array.replicate ops.size false) j = false := fun j => by simp [-Array.getD_eq_getD_getElem?, Lp, hf]
 have hinit : J (Array.replicate ops.size false) (T (Lp (Array.replicate ops.size false))) = s := by
  simp only [J, hp0, cond_false]
  rw [← hS0]
  refine St.ext' (Tlen _) (fun x hx => ?_) ?_
  ·rw [Tlen] at hx
   rw [Tget, if_pos hx, zyht l S V _ x 0 l.length (by omega)]
   ·rfl
   ·intro j _ _ hL
    rw [hLp0] at hL; cases hL
  ·show heapD l refm S _ l.length = _
   rw [zy6w l refm S _ 0 l.length (by omega)]
   ·rfl
   ·intro j _ _ hL
    rw [hLp0] at hL; cases hL
 refine main ops.size _ a w μ A (by simp) ?_ ?_ (by rw [hinit]; exact hs) (fun hp => by rw [hp0] at hp; cases hp)
 ·intro j o ho hL
  simp only [hf] at hL
  cases hL
 ·rw [← hN]
  exact zy9p _ _


theorem zyfq {refm : Nat → Bool} {ops : Array Oper} {l : List AI} (h : zyfp refm ops l = true) :
  (∀ (i : Nat) (x : AI), l[i]? = some x → x.guard = [] ∧ x.op.sepOp refm = true) ∧
  (∀ j, j < l.length → ∀ o, ops[j]? = some o → ∀ e ∈ o.after, Region.binds .any e = true → e.on < j) ∧
  (∀ (i j : Nat) (x y : AI), i ≤ j → l[i]? = some x → l[j]? = some y → ∀ d, y.dst = some d → d ∉ x.reads) ∧
  (∀ (i j : Nat) (x y : AI), i < j → l[i]? = some x → l[j]? = some y → ∀ d, y.dst = some d → x.dst ≠ some d) ∧
  (∀ (i j : Nat) (x y : AI), i < j → l[i]? = some x → l[j]? = some y → ∀ d, x.dst = some d → d ∈ y.reads → zy0v ops 12 j i = true) := by
 unfold zyfp at h
 simp only [Bool.and_eq_true] at h
 obtain ⟨h1, h2⟩ := h
 have h3 : ∀ j, j < l.length → _ := fun j hj => List.all_eq_true.1 h2 j (List.mem_range.2 hj)
 refine ⟨fun i x hx => ?_, fun j hj o ho e he hb => ?_, fun i j x y hij hx hy d hd hm => ?_, fun i j x y hij hx hy d hd hm => ?_, fun i j x y hij hx hy d hd hm => ?_⟩
 ·have := List.all_eq_true.1 h1 x (List.mem_of_getElem? hx)
  simp only [Bool.and_eq_true, List.isEmpty_iff] at this
  exact this
 ·have := h3 j hj
  simp only [Bool.and_eq_true] at this
  have h4 := this.1.1
  rw [ho] at h4
  have := List.all_eq_true.1 h4 e (by simpa using he)
  simpa [hb] using this
 ·have := h3 j (List.getElem?_eq_some_iff.1 hy).1
  simp only [Bool.and_eq_true] at this
  rcases Nat.lt_or_ge i j with hlt | hge
  ·have h4 := List.all_eq_true.1 this.2 i (List.mem_range.2 hlt)
   rw [hx, hy] at h4
   simp only [Bool.and_eq_true, hd] at h4
   have h5 := h4.1.1
   simp at h5
   exact h5 hm
  ·have : j = i := by omega
   subst this
   rw [hx] at hy; cases hy
   have h4 := this.1.2
   rw [hx] at h4
   simp only [hd] at h4
   simp at h4
   exact h4 hm
 ·have := h3 j (List.getElem?_eq_some_iff.1 hy).1
  simp only [Bool.and_eq_true] at this
  have h4 := List.all_eq_true.1 this.2 i (List.mem_range.2 hij)
  rw [hx, hy] at h4
  simp only [Bool.and_eq_true, hd] at h4
  have h5 := h4.1.2
  simp at h5
  exact h5 hm
 ·have := h3 j (List.getElem?_eq_some_iff.1 hy).1
  simp only [Bool.and_eq_true] at this
  have h4 := List.all_eq_true.1 this.2 i (List.mem_range.2 hij)
  rw [hx, hy] at h4
  simp only [Bool.and_eq_true, hd] at h4
  have h5 := h4.2
  simp only [Bool.or_eq_true, Bool.not_eq_true'] at h5
  rcases h5 with h5 | h5
  ·have : (y.reads.contains d) = true := by simpa using hm
   rw [this] at h5; cases h5
  ·exact h5

section
variable (l : List AI) (S : Nat → St)
def stOf (k : Nat) : Option (Nat × List AV) :=
 match l[k]? with
 | some ⟨_, .store _ a v, _⟩ => match (S k).get a with
  | .rp id off => (live (S k).h id).map fun cs => (id, zygd cs off ((S k).get v).cells)
  | _ => none
 | _ => none
def hSt (L : Nat → Bool) : Nat → Heap
 | 0 => (S 0).h
 | k + 1 => match (bif L k then stOf l S k else none) with | some p => (hSt L k).set p.1 (some p.2) | none => hSt L k
theorem zy6s (L : Nat → Bool) (k : Nat) : hSt l S L (k + 1) = (match (bif L k then stOf l S k else none) with | some p => (hSt l S L k).set p.1 (some p.2) | none => hSt l S L k) := rfl
theorem zy6r (L : Nat → Bool) (id : Nat) : ∀ k, (∀ j, j < k → L j = true → ∀ p, stOf l S j = some p → p.1 ≠ id) → live (hSt l S L k) id = live (S 0).h id
 | 0, _ => rfl
 | k + 1, h => by
  rw [zy6s]
  have ih := zy6r L id k fun j hj => h j (by omega)
  split
  ·rename_i p hp
   cases hL : L k
   ·rw [hL] at hp; cases hp
   ·rw [hL] at hp
    have e : live ((hSt l S L k).set p.1 (some p.2)) id = live (hSt l S L k) id := by
     unfold live; rw [List.getElem?_set_ne (h k (by omega) hL p hp)]
    rw [e]
    exact ih
  ·exact ih
theorem zy6q (L M : Nat → Bool) : ∀ k, (∀ j, j < k → L j = M j) → hSt l S L k = hSt l S M k
 | 0, _ => rfl
 | k + 1, h => by
  rw [zy6s, zy6s, zy6q L M k fun j hj => h j (by omega), h k (by omega)]
theorem hSt_new (L M : Nat → Bool) (i : Nat) (hi : L i = false) (hm : M i = true) (h : ∀ j, j ≠ i → L j = M j) (hd : ∀ j p q, j ≠ i → stOf l S j = some p → stOf l S i = some q → p.1 ≠ q.1) : ∀ k, hSt l S M k = if i < k then (match stOf l S i with | some q => (hSt l S L k).set q.1 (some q.2) | none => hSt l S L k) else hSt l S L k
 | 0 => by rw [if_neg (by omega)]; rfl
 | k + 1 => by
  have ih := hSt_new L M i hi hm h hd k
  by_cases hk : k = i
  ·subst hk
   rw [if_neg (by omega)] at ih
   rw [if_pos (by omega)]
   rw [zy6s, zy6s, hi, hm, ih]
   rfl
  ·rw [zy6s, zy6s, h k hk, ih]
   by_cases hlt : i < k
   ·rw [if_pos hlt, if_pos (by omega)]
    cases hq : stOf l S i with
    | none => rfl
    | some q =>
     simp only
     cases hp : (bif M k then stOf l S k else none) with
     | none => rfl
     | some p =>
      simp only
      have hp' : stOf l S k = some p := by
       cases hM : M k
       ·rw [hM] at hp; cases hp
       ·rw [hM] at hp; exact hp
      rw [List.set_comm _ _ (hd k p q hk hp' hq).symm]
   ·rw [if_neg hlt, if_neg (by omega)]
end
theorem sepL_ld : ∀ {st ld : List AV} {a b : AV}, sepL st ld = true → a ∈ st → b ∈ ld → sepV a b = true
 | [], _, _, _, _, h, _ => by cases h
 | x :: st, ld, a, b, h, ha, hb => by
  unfold sepL at h
  simp only [Bool.and_eq_true] at h
  rcases List.mem_cons.1 ha with rfl | ha
  ·exact List.all_eq_true.1 h.1.1 b hb
  ·exact sepL_ld h.2 ha hb
theorem zyft {a b : AV} {i j o p : Nat} (ha : a = .rp i o) (hb : b = .rp j p) (h : sepV a b = true) : i ≠ j := by
 subst ha; subst hb
 unfold sepV at h
 simpa using h
theorem sepL_tail {x : AV} {st ld : List AV} (h : sepL (x :: st) ld = true) : sepL st ld = true := by
 unfold sepL at h
 simp only [Bool.and_eq_true] at h
 exact h.2
theorem zygu {l : List AI} {k : Nat} {y : AI} {n : Nat} {a v : Opd} (hy : l[k]? = some y) (ho : y.op = .store n a v) : a ∈ stoA l :=
 List.mem_filterMap.2 ⟨y, List.mem_of_getElem? hy, by rw [ho]⟩
theorem ldA_mem {l : List AI} {k : Nat} {y : AI} {g : Option Nat} {a : Opd} (hy : l[k]? = some y) (ho : y.op = .load g a) : a ∈ ldA l :=
 List.mem_filterMap.2 ⟨y, List.mem_of_getElem? hy, by rw [ho]⟩
theorem sepL_st {g : Opd → AV} {ld : List AV} : ∀ {l : List AI} {j k : Nat} {x y : AI} {n n' : Nat} {a a' v v' : Opd}, j < k → l[j]? = some x → x.op = .store n a v → l[k]? = some y → y.op = .store n' a' v' → sepL ((stoA l).map g) ld = true → sepV (g a) (g a') = true
 | [], j, k, x, y, n, n', a, a', v, v', _, hx, _, _, _, _ => by simp at hx
 | z :: l, j, k, x, y, n, n', a, a', v, v', hjk, hx, hxo, hy, hyo, h => by
  cases k with
  | zero => omega
  | succ k =>
   have hy' : l[k]? = some y := by simpa using hy
   cases j with
   | zero =>
    have hz : z = x := by simpa using hx
    subst hz
    have e : stoA (z :: l) = a :: stoA l := by unfold stoA; rw [List.filterMap_cons, hxo]
    rw [e, List.map_cons] at h
    unfold sepL at h
    simp only [Bool.and_eq_true] at h
    exact List.all_eq_true.1 h.1.2 _ (List.mem_map_of_mem (zygu hy' hyo))
   | succ j =>
    have hx' : l[j]? = some x := by simpa using hx
    refine sepL_st (ld := ld) (j := j) (k := k) (by omega) hx' hxo hy' hyo ?_
    unfold stoA at h ⊢
    rw [List.filterMap_cons] at h
    split at h
    ·exact h
    ·rw [List.map_cons] at h; exact sepL_tail h
theorem zyfs {refm : Nat → Bool} {op : AOp} (h : op.sepOp refm = true) : (op.isPure = true ∧ op.heed refm = 0) ∨ (∃ g a, op = .load g a) ∨ ∃ n a v, op = .store n a v := by
 unfold AOp.sepOp at h
 split at h
 ·exact .inr (.inl ⟨_, _, rfl⟩)
 ·exact .inr (.inr ⟨_, _, _, rfl⟩)
 ·simp only [Bool.and_eq_true, decide_eq_true_eq] at h; exact .inl h

set_option maxHeartbeats 4000000 in
theorem sep_run {C : Oracle} (hC : Sound P C) (refm : Nat → Bool) {ops : Array Oper} {R : Type} {K : St → Option R} {r : R} {w0 : World} {μ0 : Mu} {A0 : Nat → Prop} {Q : Exit → Act → World → Prop} (hY : zy08 P w0 μ0 A0 C) (ρ : Option Nat)
  (hK : ∀ s a w μ A, K s = some r → Sim w0 μ0 A0 s a w μ A → Q .normal a w) {l : List AI} (hl : ops.toList.map (compI P ops) = l) (hab : zyfp refm ops l = true) (hnd : ∀ o ∈ ops.toList, (compI P ops o).op.isDfr = false) {s : St} (h : zy52 C refm l s (fun s1 => sepK ((stoA l).map s1.get) ((ldA l).map s1.get) (K s1)) = some r) {a : Act} {w : World} {μ : Mu} {A : Nat → Prop} (hs : Sim w0 μ0 A0 s a w μ A) :
  wpAnyIn (FW ρ) 0 P .any ops Q ops.size (Array.replicate ops.size false) a w := by
 obtain ⟨S, V, hS0, hKS, hSx⟩ := zy58 _ s h
 obtain ⟨hsep, hKS⟩ := zyfr hKS
 obtain ⟨c1, c2, c3, c4, c5⟩ := zyfq hab
 have hN : l.length = ops.size := by rw [← hl]; simp
 have hS : ∀ (i : Nat) (x : AI), l[i]? = some x → ∃ h, stepA C refm x (S i) = some (V i, h) ∧ S (i + 1) = ({ S i with h := h } : St).put x.dst (V i) := fun i x hx => by
  rcases hSx i x hx with ⟨_, h1⟩ | ⟨h1, _⟩
  ·exact h1
  ·rw [(c1 i x hx).1] at h1; cases h1
 have hlen : ∀ k, k ≤ l.length → (S k).t.length = (S 0).t.length := by
  intro k
  induction k with
  | zero => intro _; rfl
  | succ k ih =>
   intro hk
   obtain ⟨h', _, h2⟩ := hS k _ (List.getElem?_eq_getElem (by omega))
   rw [h2, zyee]; exact ih (by omega)
 have stepT : ∀ k y, l[k]? = some y → ∀ x, y.dst ≠ some x → (S (k + 1)).t.getD x .junk = (S k).t.getD x .junk := by
  intro k y hy x hd
  obtain ⟨h', _, h3⟩ := hS k y hy
  rw [h3]
  cases hyd : y.dst with
  | none => rfl
  | some d =>
   show ((S k).t.set d (V k)).getD x .junk = _
   rw [List.getD_eq_getElem?_getD, List.getElem?_set_ne (fun h => hd (by rw [hyd, h])), ← List.getD_eq_getElem?_getD]
 have fromT : ∀ x i k, i ≤ k → (∀ j y, i ≤ j → j < k → l[j]? = some y → y.dst ≠ some x) → k ≤ l.length → (S k).t.getD x .junk = (S i).t.getD x .junk := by
  intro x i k
  induction k with
  | zero =>
    intro h _ _; have : i = 0 := by omega
    subst this; rfl
  | succ k ih =>
   intro h0 h1 h2
   by_cases hk : i = k + 1
   ·subst hk; rfl
   ·rw [stepT k _ (List.getElem?_eq_getElem (by omega)) x (h1 k _ (by omega) (by omega) (List.getElem?_eq_getElem (by omega)))]
    exact ih (by omega) (fun j y hj hj2 hy => h1 j y hj (by omega) hy) (by omega)
 -- what an operation reads stays as it is
 have stay : ∀ i x, l[i]? = some x → ∀ n ∈ x.reads, ∀ k, i ≤ k → k ≤ l.length → (S k).t.getD n .junk = (S i).t.getD n .junk := fun i x hx n hn k hik hk =>
  fromT n i k hik (fun j y h1 h2 hy hd => c3 i j x y h1 hx hy n hd hn) hk
 have stayG : ∀ i x, l[i]? = some x → ∀ a ∈ x.op.opds, (S l.length).get a = (S i).get a := fun i x hx a ha => by
  have hil := (List.getElem?_eq_some_iff.1 hx).1
  refine (St.get_congr fun n hn => ?_)
  subst hn
  exact stay i x hx n (by unfold AI.reads; exact List.mem_append_left _ (List.mem_filterMap.2 ⟨.t n, ha, rfl⟩)) l.length (by omega) (Nat.le_refl _)
 have text : ∀ k, k ≤ l.length → ∀ x, x < (S 0).t.length → (S k).t.getD x .junk = valD l S V (fun _ => true) k x := by
  intro k
  induction k with
  | zero => intro _ _ _; rfl
  | succ k ih =>
   intro hk x hxl
   have hk' : l[k]? = some l[k] := List.getElem?_eq_getElem (by omega)
   obtain ⟨h', _, h2⟩ := hS k _ hk'
   rw [h2, zyed _ _ _ _ (by show x < (S k).t.length; rw [hlen k (by omega)]; exact hxl), zyhu, ← ih (by omega) x hxl, hk']
   simp
 -- what a store does
 have hst : ∀ k, k < l.length → (S (k + 1)).h = (match stOf l S k with | some p => (S k).h.set p.1 (some p.2) | none => (S k).h) ∧ ∀ p, stOf l S k = some p → ∃ d n a v g off, l[k]? = some ⟨d, .store n a v, g⟩ ∧ (S k).get a = .rp p.1 off := by
  intro k hk
  have hk' : l[k]? = some l[k] := List.getElem?_eq_getElem hk
  generalize l[k] = x at hk'
  obtain ⟨h', h1, h2⟩ := hS k x hk'
  obtain ⟨g0, hop⟩ := c1 k x hk'
  obtain ⟨d, op, g⟩ := x
  simp only at g0 hop
  subst g0
  rcases zyfs hop with ⟨hp, hh⟩ | ⟨ag, a, rfl⟩ | ⟨n, a, v, rfl⟩
  ·have e : stOf l S k = none := by
    unfold stOf
    rw [hk']
    cases op <;> first | rfl | cases hp
   rw [e]
   refine ⟨?_, fun p hp => by cases hp⟩
   rw [h2, put_h]
   exact ((zygm (s := S k) (s' := S k) (fun _ _ => rfl) (fun _ => rfl) h1).2 (by show op.heed refm < 2; omega)).1
  ·have e : stOf l S k = none := by unfold stOf; rw [hk']
   rw [e]
   refine ⟨?_, fun p hp => by cases hp⟩
   rw [h2, put_h]
   exact ((zygm (s := S k) (s' := S k) (fun _ _ => rfl) (fun _ => rfl) h1).2 (by show 1 < 2; omega)).1
  ·have h1 : (zydm (S k).h n ((S k).get a) ((S k).get v)).map (fun h => (AV.undef, h)) = some (V k, h') := h1
   simp only [Option.map_eq_some_iff, Prod.mk.injEq] at h1
   obtain ⟨h9, hs9, _, rfl⟩ := h1
   cases ha : (S k).get a with
   | rp id off =>
    rw [ha] at hs9
    simp only [zydm, Option.bind_eq_some_iff] at hs9
    obtain ⟨cs, hl1, hs9⟩ := hs9
    split at hs9
    ·cases hs9
     have e : stOf l S k = some (id, zygd cs off ((S k).get v).cells) := by
      unfold stOf
      rw [hk']
      simp only [ha, hl1, Option.map_some]
     rw [e]
     refine ⟨by rw [h2, put_h], fun p hp => ?_⟩
     cases hp
     exact ⟨d, n, a, v, [], off, hk', ha⟩
    ·cases hs9
   | _ => rw [ha] at hs9; simp [zydm] at hs9
 have textH : ∀ k, k ≤ l.length → (S k).h = hSt l S (fun _ => true) k := by
  intro k
  induction k with
  | zero => intro _; rfl
  | succ k ih =>
   intro hk
   rw [(hst k (by omega)).1, ih (by omega)]
   rfl
 -- stores are into blocks of their own
 have stNe : ∀ j k p q, j ≠ k → stOf l S j = some p → stOf l S k = some q → p.1 ≠ q.1 := by
  have key : ∀ j k p q, j < k → stOf l S j = some p → stOf l S k = some q → p.1 ≠ q.1 := fun j k p q hjk hp hq => by
   have lt : ∀ k q, stOf l S k = some q → k < l.length := fun k q hq => by
    rcases Nat.lt_or_ge k l.length with h | h
    ·exact h
    ·unfold stOf at hq; rw [List.getElem?_eq_none h] at hq; cases hq
   obtain ⟨d, n, a, v, g, off, h1, h2⟩ := (hst j (lt j p hp)).2 p hp
   obtain ⟨d', n', a', v', g', off', h1', h2'⟩ := (hst k (lt k q hq)).2 q hq
   have := sepL_st hjk h1 rfl h1' rfl hsep
   rw [stayG j _ h1 a (by simp [AOp.opds]), stayG k _ h1' a' (by simp [AOp.opds])] at this
   exact zyft h2 h2' this
  intro j k p q hjk hp hq
  rcases Nat.lt_or_ge j k with h | h
  ·exact key j k p q h hp hq
  ·exact fun e => key k j q p (by omega) hq hp e.symm
 have ldNe : ∀ i d ag a g, l[i]? = some ⟨d, .load ag a, g⟩ → ∀ id off, (S i).get a = .rp id off → ∀ j p, stOf l S j = some p → p.1 ≠ id := fun i d ag a g hi id off ha j p hp => by
  have hj : j < l.length := by
   rcases Nat.lt_or_ge j l.length with h | h
   ·exact h
   ·unfold stOf at hp; rw [List.getElem?_eq_none h] at hp; cases hp
  obtain ⟨d', n', a', v', g', off', h1', h2'⟩ := (hst j hj).2 p hp
  have := sepL_ld hsep (List.mem_map_of_mem (f := (S l.length).get) (zygu h1' rfl)) (List.mem_map_of_mem (f := (S l.length).get) (ldA_mem hi rfl))
  rw [stayG j _ h1' a' (by simp [AOp.opds]), stayG i _ hi a (by simp [AOp.opds])] at this
  exact zyft h2' ha this
 -- the state in which those in L have come
 let T : (Nat → Bool) → St := fun L => { t := (List.range (S 0).t.length).map (valD l S V L l.length), h := hSt l S L l.length }
 have Tget : ∀ L x, (T L).t.getD x .junk = if x < (S 0).t.length then valD l S V L l.length x else AV.junk := fun L x => by
  show ((List.range (S 0).t.length).map (valD l S V L l.length)).getD x AV.junk = _
  rw [List.getD_eq_getElem?_getD, List.getElem?_map]
  by_cases hx : x < (S 0).t.length
  ·rw [List.getElem?_range hx, if_pos hx]; rfl
  ·rw [List.getElem?_eq_none (by simp; omega), if_neg hx]; rfl
 have Tlen : ∀ L, (T L).t.length = (S 0).t.length := fun L => by simp [T]
 have allOf : ∀ (listed : Array Bool), listed.size = ops.size → Region.ready .any ops listed = [] → ∀ j, j < l.length → listed.getD j false = true := by
  intro listed hsz hr
  apply zy9q
  by_cases h0 : left_ (fun j => listed.getD j false) l.length = 0
  ·exact h0
  ·obtain ⟨m, hm, hm2, hm3⟩ := zy9s _ _ h0
   have hmem : m ∈ Region.ready .any ops listed := by
    unfold Region.ready
    have hml : m < ops.size := by omega
    refine List.mem_filter.2 ⟨List.mem_range.2 hml, ?_⟩
    have h1 : listed.getD m true = false := by
     have : m < listed.size := by omega
     simp only [Array.getD_eq_getD_getElem?, Array.getElem?_eq_getElem this, Option.getD_some] at hm2 ⊢
     exact hm2
    have ho : ops[m]? = some ops[m] := Array.getElem?_eq_getElem hml
    rw [h1, ho]
    simp only [Bool.not_false, Bool.true_and, Option.map_some, Option.getD_some]
    rw [Array.all_eq_true']
    intro e he
    cases hb : Region.binds .any e
    ·rfl
    ·have := hm3 e.on (c2 m hm _ ho e he hb)
     simp only [Bool.not_true, Bool.false_or]
     exact this
   rw [hr] at hmem
   cases hmem
 have fin : ∀ (listed : Array Bool) (a : Act) (w : World) (μ : Mu) (A : Nat → Prop), (∀ j, j < l.length → listed.getD j false = true) → Sim w0 μ0 A0 (T fun j => listed.getD j false) a w μ A → Q .normal a w := by
  intro listed a w μ A all hsim
  have hT : (T fun j => listed.getD j false) = S l.length := by
   refine St.ext' (by rw [Tlen, hlen _ (Nat.le_refl _)]) (fun x hx => ?_) ?_
   ·rw [Tlen] at hx
    rw [Tget, if_pos hx, text _ (Nat.le_refl _) x hx]
    exact zyhs _ _ _ _ _ _ _ (fun j hj _ => all j hj)
   ·rw [textH _ (Nat.le_refl _)]
    exact zy6q _ _ _ _ _ (fun j hj => all j hj)
  rw [hT] at hsim
  exact hK _ a w μ A hKS hsim
 have main : ∀ (fuel : Nat) (listed : Array Bool) (a : Act) (w : World) (μ : Mu) (A : Nat → Prop), listed.size = ops.size → zy01 ops (fun j => listed.getD j false) → left_ (fun j => listed.getD j false) l.length ≤ fuel → Sim w0 μ0 A0 (T fun j => listed.getD j false) a w μ A →
   wpAnyIn (FW ρ) 0 P .any ops Q fuel listed a w := by
  intro fuel
  induction fuel with
  | zero =>
   intro listed a w μ A hsz hcl hle hsim
   have all := zy9q _ _ (Nat.le_zero.1 hle)
   have hr : Region.ready .any ops listed = [] := by
    unfold Region.ready
    rw [List.filter_eq_nil_iff]
    intro j hj
    have hj' : j < ops.size := List.mem_range.1 hj
    have h1 : listed.getD j true = true := by
     have h2 := all j (by omega)
     have : j < listed.size := by omega
     simp only [Array.getD_eq_getD_getElem?, Array.getElem?_eq_getElem this, Option.getD_some] at h2 ⊢
     exact h2
    simp [h1]
   exact ⟨hr, fin listed a w μ A all hsim⟩
  | succ fuel ih =>
   intro listed a w μ A hsz hcl hle hsim
   refine ⟨fun hr => fin listed a w μ A (allOf listed hsz hr) hsim, fun i hi => ?_⟩
   unfold Region.ready at hi
   obtain ⟨hir, hi⟩ := List.mem_filter.1 hi
   have hil : i < ops.size := List.mem_range.1 hir
   have ho : ops[i]? = some ops[i] := Array.getElem?_eq_getElem hil
   have hmem : ops[i] ∈ ops.toList := Array.mem_toList_iff.2 (Array.getElem_mem hil)
   generalize ops[i] = o at ho hmem
   rw [ho] at hi
   simp only [Bool.and_eq_true, Bool.not_eq_true', Option.map_some, Option.getD_some, Array.all_eq_true'] at hi
   obtain ⟨hi0, hedge⟩ := hi
   have hLi : listed.getD i false = false := by
    have : i < listed.size := by omega
    simp only [Array.getD_eq_getD_getElem?, Array.getElem?_eq_getElem this, Option.getD_some] at hi0 ⊢
    exact hi0
   have hedge' : ∀ e ∈ o.after, Region.binds .any e = true → listed.getD e.on false = true := fun e he hb => by
    have := hedge e he
    rw [hb] at this
    simpa using this
   have hx : l[i]? = some (compI P ops o) := by rw [← hl]; simp [ho]
   generalize hxx : compI P ops o = x at hx
   have came : ∀ j, zy0v ops 12 i j = true → listed.getD j false = true := fun j hb =>
    zy0w (L := fun j => listed.getD j false) hcl 12 i j hb (fun o' ho' => by rw [ho] at ho'; cases ho'; exact hedge')
   have hL' : ∀ j, (listed.setIfInBounds i true).getD j false = if j = i then true else listed.getD j false := by
    intro j
    have : i < listed.size := by omega
    simp only [Array.getD_eq_getD_getElem?, Array.getElem?_setIfInBounds]
    by_cases hji : j = i
    ·subst hji; simp [this]
    ·rw [if_neg (fun e => hji e.symm), if_neg hji]
   have hcl' : zy01 ops fun j => (listed.setIfInBounds i true).getD j false := by
    intro j o' ho' hj e he hb
    simp only [hL'] at hj ⊢
    by_cases hji : j = i
    ·subst hji
     rw [ho] at ho'
     cases ho'
     rw [hedge' e he hb]; simp
    ·rw [if_neg hji] at hj
     have := hcl j o' ho' hj e he hb
     simp only at this
     rw [this]; simp
   have hle' : left_ (fun j => (listed.setIfInBounds i true).getD j false) l.length ≤ fuel := by
    have := zy9r (fun j => listed.getD j false) (fun j => (listed.setIfInBounds i true).getD j false) i hLi (by simp only [hL']; simp) (fun j hj => by simp only [hL']; rw [if_neg hj]) l.length (by omega)
    omega
   have hsz' : (listed.setIfInBounds i true).size = ops.size := by simpa using hsz
   have hil' : i < l.length := by omega
   -- the same operands
   have hA : ∀ n ∈ x.reads, (S i).t.getD n .junk = (T fun j => listed.getD j false).t.getD n .junk := by
    intro n hn
    rw [Tget]
    by_cases hnl : n < (S 0).t.length
    ·rw [if_pos hnl, text i (by omega) n hnl, zyht l S V _ n i l.length (by omega)]
     ·refine zyhs _ _ _ _ _ _ _ fun j hj hd => ?_
      cases hy : l[j]? with
      | none => rw [hy] at hd; cases hd
      | some y =>
       rw [hy] at hd
       exact (came j (c5 j i y x hj hy hx n hd hn)).symm
     ·intro j hij hjl hL hd
      cases hy : l[j]? with
      | none => rw [hy] at hd; cases hd
      | some y =>
       rw [hy] at hd
       exact c3 i j x y hij hx hy n hd hn
    ·rw [if_neg hnl, List.getD_eq_getElem?_getD, List.getElem?_eq_none (by rw [hlen i (by omega)]; omega)]
     rfl
   obtain ⟨h', h1, h2⟩ := hS i x hx
   -- the same step
   have step : ∃ h'', stepA C refm x (T fun j => listed.getD j false) = some (V i, h'') ∧ h'' = hSt l S (fun j => (listed.setIfInBounds i true).getD j false) l.length := by
    have hnew := hSt_new l S (fun j => listed.getD j false) (fun j => (listed.setIfInBounds i true).getD j false) i hLi (by simp only [hL']; simp) (fun j hj => by simp only [hL']; rw [if_neg hj]) (fun j p q hj hp hq => stNe j i p q hj hp hq) l.length
    rw [if_pos hil'] at hnew
    have hG : ∀ a ∈ x.op.opds, (S i).get a = (T fun j => listed.getD j false).get a := zyes hA
    obtain ⟨g0, hop⟩ := c1 i x hx
    obtain ⟨d, op, g⟩ := x
    simp only at g0 hop
    subst g0
    rcases zyfs hop with ⟨hp, hh⟩ | ⟨ag, a, rfl⟩ | ⟨n, a, v, rfl⟩
    ·have e : stOf l S i = none := by
      unfold stOf
      rw [hx]
      cases op <;> first | rfl | cases hp
     rw [e] at hnew
     rw [hnew]
     refine ⟨(T fun j => listed.getD j false).h, ?_, rfl⟩
     have h1' : stepA C refm ⟨d, op, []⟩ (S i) = (zye9 (S i) op).map fun v => (v, (S i).h) := zygq hp
     have h2' : stepA C refm ⟨d, op, []⟩ (T fun j => listed.getD j false) = (zye9 (T fun j => listed.getD j false) op).map fun v => (v, (T fun j => listed.getD j false).h) := zygq hp
     rw [h1'] at h1
     rw [h2', ← zyea hG (fun hr => by
      have := (zy6y (refm := refm) hp).2 hr
      omega)]
     simp only [Option.map_eq_some_iff, Prod.mk.injEq] at h1 ⊢
     obtain ⟨u, hu, rfl, _⟩ := h1
     exact ⟨V i, hu, rfl, trivial⟩
    ·have e : stOf l S i = none := by unfold stOf; rw [hx]
     rw [e] at hnew
     rw [hnew]
     refine ⟨(T fun j => listed.getD j false).h, ?_, rfl⟩
     have h1 : (zyd4 (S i).h ag ((S i).get a)).map (fun v => (v, (S i).h)) = some (V i, h') := h1
     show (zyd4 (T fun j => listed.getD j false).h ag ((T fun j => listed.getD j false).get a)).map (fun v => (v, (T fun j => listed.getD j false).h)) = _
     rw [← hG a (by simp [AOp.opds])]
     simp only [Option.map_eq_some_iff, Prod.mk.injEq] at h1 ⊢
     obtain ⟨u, hu, rfl, _⟩ := h1
     refine ⟨V i, ?_, rfl, trivial⟩
     cases hav : (S i).get a with
     | rp id off =>
      rw [hav] at hu
      have g1 := zy6r l S (fun j => listed.getD j false) id l.length (fun j _ _ p hp => ldNe i d ag a [] hx id off hav j p hp)
      have g2 := zy6r l S (fun _ => true) id i (fun j _ _ p hp => ldNe i d ag a [] hx id off hav j p hp)
      rw [← textH i (by omega)] at g2
      simp only [zyd4] at hu ⊢
      show (live (hSt l S (fun j => listed.getD j false) l.length) id).bind _ = _
      rw [g1, ← g2]
      exact hu
     | ip cs => rw [hav] at hu; exact hu
     | _ => rw [hav] at hu; cases hu
    ·have h1 : (zydm (S i).h n ((S i).get a) ((S i).get v)).map (fun h => (AV.undef, h)) = some (V i, h') := h1
     simp only [Option.map_eq_some_iff, Prod.mk.injEq] at h1
     obtain ⟨h9, hs9, hV, rfl⟩ := h1
     cases hav : (S i).get a with
     | rp id off =>
      rw [hav] at hs9
      simp only [zydm, Option.bind_eq_some_iff] at hs9
      obtain ⟨cs, hl1, hs9⟩ := hs9
      have e : stOf l S i = some (id, zygd cs off ((S i).get v).cells) := by
       unfold stOf
       rw [hx]
       simp only [hav, hl1, Option.map_some]
      rw [e] at hnew
      have g1 := zy6r l S (fun j => listed.getD j false) id l.length (fun j _ hj p hp => stNe j i p _ (fun hji => by subst hji; rw [hLi] at hj; cases hj) hp e)
      have g2 := zy6r l S (fun _ => true) id i (fun j hj _ p hp => stNe j i p _ (by omega) hp e)
      rw [← textH i (by omega)] at g2
      split at hs9
      ·rename_i hcnd
       cases hs9
       refine ⟨_, ?_, hnew.symm⟩
       show (zydm (T fun j => listed.getD j false).h n ((T fun j => listed.getD j false).get a) ((T fun j => listed.getD j false).get v)).map (fun h => (AV.undef, h)) = _
       rw [← hG a (by simp [AOp.opds]), ← hG v (by simp [AOp.opds]), hav, ← hV]
       simp only [zydm]
       have g3 : live (T fun j => listed.getD j false).h id = some cs := by
        show live (hSt l S (fun j => listed.getD j false) l.length) id = _
        rw [g1, ← g2, hl1]
       rw [g3, Option.bind_some, if_pos hcnd]
       rfl
      ·cases hs9
     | _ => rw [hav] at hs9; simp [zydm] at hs9
   obtain ⟨h'', hstep, hh''⟩ := step
   have hTn : (T fun j => (listed.setIfInBounds i true).getD j false) = ({ (T fun j => listed.getD j false) with h := h'' } : St).put x.dst (V i) := by
    refine St.ext' (by rw [zyee, Tlen, Tlen]) (fun n hn => ?_) ?_
    ·rw [Tlen] at hn
     rw [zyed _ _ _ _ (by show n < (T fun j => listed.getD j false).t.length; rw [Tlen]; exact hn), Tget, if_pos hn, Tget, if_pos hn]
     by_cases hd : x.dst = some n
     ·rw [if_pos hd]
      rw [zyht l S V _ n (i + 1) l.length (by omega)]
      ·rw [zyhu, if_pos ⟨by simp only [hL']; simp, by rw [hx]; exact hd⟩]
      ·intro j hij hjl hL hdj
       cases hy : l[j]? with
       | none => rw [hy] at hdj; cases hdj
       | some y =>
        rw [hy] at hdj
        exact c4 i j x y (by omega) hx hy n hdj hd
     ·rw [if_neg hd]
      refine zyhs _ _ _ _ _ _ _ fun j hj hdj => ?_
      simp only [hL']
      rw [if_neg]
      intro hji
      subst hji
      rw [hx] at hdj
      exact hd hdj
    ·rw [put_h]; exact hh''.symm
   unfold wpOpIn
   simp only [ho]
   obtain ⟨g, hg, hwg⟩ := zy37 (C := C) (refm := refm) (s := T fun j => listed.getD j false) (o := o) (ops := ops) (P := P) (b := true) (by rw [hxx, (c1 i x hx).1]; rfl) (fun _ => ⟨_, by rw [hxx]; exact hstep⟩)
   rw [zyid hsim.t hg hwg, if_pos rfl]
   have hd : (compI P ops o).dst = o.dst := by unfold compI; rw [hg]
   refine (zygt hC hY ρ refm (hnd o hmem) (by rw [hxx]; exact hstep) hsim.h hsim.t hsim.m fun v w' μ' A' h1 h2 h3 => ?_)
   have hs' := hsim.put h1 h2 h3 o.dst
   refine ih _ _ w' μ' A' hsz' hcl' hle' ?_
   rw [hTn, ← hxx, hd]
   exact hs'
 have hf : ∀ j, (Array.replicate ops.size false).getD j false = false := fun j => by
  simp only [Array.getD_eq_getD_getElem?, Array.getElem?_replicate]
  split <;> rfl
 have hinit : (T fun j => (Array.replicate ops.size false).getD j false) = s := by
  rw [← hS0]
  refine St.ext' (Tlen _) (fun x hx => ?_) ?_
  ·rw [Tlen] at hx
   rw [Tget, if_pos hx, zyht l S V _ x 0 l.length (by omega)]
   ·rfl
   ·intro j _ _ hL
    rw [hf] at hL; cases hL
  ·show hSt l S _ l.length = _
   have e : ∀ k, hSt l S (fun j => (Array.replicate ops.size false).getD j false) k = (S 0).h := by
    intro k
    induction k with
    | zero => rfl
    | succ k ih => rw [zy6s, hf]; exact ih
   exact e _
 refine main ops.size _ a w μ A (by simp) ?_ ?_ (by rw [hinit]; exact hs)
 ·intro j o ho hL
  simp only [hf] at hL
  cases hL
 ·rw [← hN]
  exact zy9p _ _


def exOf : Ex → Exit
 | .normal => .normal
 | .exit id => .exit id
 | .ret => .ret

theorem zy9e (l : List Nat) : ∀ (i : Nat) (t : List AV), (keep l i t).length = t.length
 | _, [] => rfl
 | i, x :: t => by unfold keep; simp [zy9e l (i + 1) t]

theorem zy9d (l : List Nat) : ∀ (i : Nat) (t : List AV) (j : Nat) (c : AV), (keep l i t)[j]? = some c → c = .junk ∨ t[j]? = some c
 | _, [], j, c, h => by unfold keep at h; simp at h
 | i, x :: t, j, c, h => by
  unfold keep at h
  cases j with
  | zero =>
   simp only [List.getElem?_cons_zero, Option.some.injEq] at h
   cases hc : l.contains i
   ·rw [hc] at h; exact .inl h.symm
   ·rw [hc] at h; exact .inr (by simpa using h)
  | succ j => exact zy9d l (i + 1) t j c (by simpa using h)

theorem Sim.kill {w0 : World} {μ0 : Mu} {A0 : Nat → Prop} {s : St} {a : Act} {w : World} {μ : Mu} {A : Nat → Prop} (hs : Sim w0 μ0 A0 s a w μ A) (l : List Nat) : Sim w0 μ0 A0 (kill l s) a w μ A where
 h := hs.h
 t := by
  refine ⟨by show _ = (keep l 0 s.t).length; rw [zy9e]; exact hs.t.1, fun j c x hj hx => ?_⟩
  rcases zy9d l 0 s.t j c hj with rfl | h
  ·exact .junk _
  ·exact hs.t.2 j c x h hx
 m := hs.m
 d := hs.d

theorem least {p : Nat → Prop} (h : ∃ k, p k) : ∃ k, p k ∧ ∀ j, p j → k ≤ j := by
 obtain ⟨k, hk⟩ := h
 induction k using Nat.strongRecOn with
 | _ k ih =>
  by_cases hj : ∃ j, j < k ∧ p j
  ·obtain ⟨j, h1, h2⟩ := hj
   exact ih j h1 h2
  ·exact ⟨k, hk, fun j hp => by
    rcases Nat.lt_or_ge j k with h | h
    ·exact absurd ⟨j, h, hp⟩ hj
    ·exact h⟩

theorem zyeu (ops : Array Oper) (listed : Array Bool) : Region.ready .any ops listed = zyet ops listed.toList := by
 unfold Region.ready zyet
 have e1 : ∀ (i : Nat) (b : Bool), listed.getD i b = listed.toList.getD i b := fun i b => by
  rw [Array.getD_eq_getD_getElem?, List.getD_eq_getElem?_getD, Array.getElem?_toList]
 refine List.filter_congr fun i _ => ?_
 rw [e1]
 congr 2
 cases ops[i]? with
 | none => rfl
 | some o =>
  simp only [Option.map_some, Option.some.injEq]
  rw [← Array.all_toList]
  simp only [e1]
theorem zy5a (ops : Array Oper) : ∀ (f : Nat) (listed : List Bool), exts ops f listed ≠ []
 | 0, listed => by unfold exts; split <;> simp
 | f + 1, listed => by
  unfold exts
  split
  ·simp
  ·rename_i i r _
   intro h
   have h1 := zy5a ops f (listed.set i true)
   cases he : exts ops f (listed.set i true) with
   | nil => exact h1 he
   | cons o os => rw [List.flatMap_cons, he] at h; cases h
theorem zyc8 : Sound P noC := fun _ _ _ _ _ h => by cases h
theorem zyc9 {w0 : World} {μ0 : Mu} {A0 : Nat → Prop} : zy08 P w0 μ0 A0 noC := fun _ _ _ _ _ h => by cases h
theorem any_run (refm : Nat → Bool) {ops : Array Oper} {l : List AI} (ρ : Option Nat) (hl : l = ops.toList.map (compI P ops)) (hnd : ∀ o ∈ ops.toList, (compI P ops o).op.isDfr = false) {s1 : St} {w0 : World} {μ0 : Mu} {A0 : Nat → Prop} {Q : Exit → Act → World → Prop}
  (hQ : ∀ a w μ A, Sim w0 μ0 A0 s1 a w μ A → Q .normal a w) : ∀ (f : Nat) (listed : Array Bool) (s : St) (a : Act) (w : World) (μ : Mu) (A : Nat → Prop), listed.size = ops.size →
   (∀ o ∈ exts ops f listed.toList, zy52 noC refm (o.map fun i => (l[i]?).getD badI) s some = some s1) → Sim w0 μ0 A0 s a w μ A → wpAnyIn (FW ρ) 0 P .any ops Q f listed a w := by
 intro f
 induction f with
 | zero =>
  intro listed s a w μ A hsz h hs
  unfold exts at h
  unfold wpAnyIn
  rw [zyeu]
  split at h
  ·rename_i hr
   have := h [] (by simp)
   simp only [List.map_nil, zy52, Option.some.injEq] at this
   subst this
   exact ⟨hr, hQ a w μ A hs⟩
  ·have h1 := h [ops.size] (by simp)
   have e : l[ops.size]? = none := List.getElem?_eq_none (by rw [hl]; simp)
   simp only [List.map_cons, List.map_nil, e, Option.getD_none] at h1
   rw [zy55] at h1
   have e2 : s.wanted badI.guard = some true := rfl
   rw [e2] at h1
   have e3 : stepA noC refm badI s = none := rfl
   simp only [e3] at h1
   cases h1
 | succ f ih =>
  intro listed s a w μ A hsz h hs
  unfold exts at h
  unfold wpAnyIn
  rw [zyeu]
  cases hr : zyet ops listed.toList with
  | nil =>
   rw [hr] at h
   refine ⟨fun _ => ?_, fun i hi => by cases hi⟩
   have := h [] (by simp)
   simp only [List.map_nil, zy52, Option.some.injEq] at this
   subst this
   exact hQ a w μ A hs
  | cons i0 r =>
   rw [hr] at h
   refine ⟨fun h0 => by (rw [← hr] at h0; rw [hr] at h0; cases h0), fun i hi => ?_⟩
   have hil : i < ops.size := by
    have : i ∈ zyet ops listed.toList := by rw [hr]; exact hi
    unfold zyet at this
    exact List.mem_range.1 (List.mem_filter.1 this).1
   have ho : ops[i]? = some ops[i] := Array.getElem?_eq_getElem hil
   have hmem : ops[i] ∈ ops.toList := Array.mem_toList_iff.2 (Array.getElem_mem hil)
   have hli : (l[i]?).getD badI = compI P ops ops[i] := by
    rw [hl, List.getElem?_map, Array.getElem?_toList, ho]; rfl
   have hall : ∀ o ∈ exts ops f (listed.setIfInBounds i true).toList, zy52 noC refm (compI P ops ops[i] :: o.map fun i => (l[i]?).getD badI) s some = some s1 := fun o ho' => by
    have := h (i :: o) (List.mem_flatMap.2 ⟨i, hi, List.mem_map.2 ⟨o, by simpa using ho', rfl⟩⟩)
    rw [List.map_cons, hli] at this
    exact this
   obtain ⟨o0, ho0⟩ := List.exists_mem_of_ne_nil _ (zy5a ops f (listed.setIfInBounds i true).toList)
   have h0 := hall o0 ho0
   unfold wpOpIn
   simp only [ho]
   generalize ops[i] = o at *
   rw [zy55] at h0
   have hsz' : (listed.setIfInBounds i true).size = ops.size := by simpa using hsz
   split at h0
   ·rename_i hw
    cases hst : stepA noC refm (compI P ops o) s with
    | none => rw [hst] at h0; cases h0
    | some q =>
     obtain ⟨g, hg, hwg⟩ := zy37 hw (fun _ => ⟨q, hst⟩)
     rw [zyid hs.t hg hwg, if_pos rfl]
     have hd : (compI P ops o).dst = o.dst := by unfold compI; rw [hg]
     refine (zygt zyc8 zyc9 ρ refm (hnd o hmem) hst hs.h hs.t hs.m fun v w' μ' A' h1 h2 h3 => ?_)
     have hs' := hs.put h1 h2 h3 o.dst
     refine ih _ _ _ _ _ _ hsz' (fun o' ho' => ?_) hs'
     have := hall o' ho'
     rw [zy55, hw] at this
     simp only [hst, Option.bind_some, hd] at this
     exact this
   ·rename_i hw
    obtain ⟨g, hg, hwg⟩ := zy37 (C := noC) (refm := refm) hw (fun e => by cases e)
    rw [zyid hs.t hg hwg]
    simp only [Bool.false_eq_true, if_false]
    have hd : (compI P ops o).dst = o.dst := by unfold compI; rw [hg]
    have hs' := hs.put (h' := s.h) hs.h .undef (Move.refl _ _ _) o.dst
    refine ⟨fun _ _ => trivial, ih _ _ _ _ _ _ hsz' (fun o' ho' => ?_) hs'⟩
    have := hall o' ho'
    rw [zy55, hw] at this
    simp only [hd] at this
    exact this
   ·cases h0

theorem zyev (hm : P.follows .mixedOrders = true) {C : Oracle} (hC : Sound P C) (refm : Nat → Bool) {id : Nat} {ops : Array Oper} {draw : Bool} {It : Iter} {R : Type} {K : Ex → St → Option R} {r : R} {w0 : World} {μ0 : Mu} {A0 : Nat → Prop} {Q : Exit → Act → World → Prop} (hY : zy08 P w0 μ0 A0 C) (ρ : Option Nat) (hρ : ρ = none ∨ (compR P refm ops draw).calm = true)
  (hK : ∀ e s a w μ A, K e s = some r → Sim w0 μ0 A0 s a w μ A → Q (exOf e) a w) {s : St} (h : evalC C refm It (compR P refm ops draw) s K = some r) {a : Act} {w : World} {μ : Mu} {A : Nat → Prop} (hs : Sim w0 μ0 A0 s a w μ A) :
  (Code.region id ops draw).wpIn (FW ρ) 0 P Q a w := by
 unfold compR at h hρ
 cases draw
 ·simp only [cond_false] at h
  unfold evalC at h
  refine wpIn_region ?_
  rw [List.range_eq_range']
  have hρ' : ρ = none ∨ ∀ o ∈ ops.toList, (compI P ops o).op.isDfr = false := hρ.imp (fun h => h) fun h o ho => by
   simp only [cond_false, AC.calm] at h
   have := List.all_eq_true.1 h _ (List.mem_map_of_mem ho)
   simpa using this
  have := zydv (P := P) hC refm (ops := ops) (Q := Q) (K := K .normal) hY ρ (fun s a w μ A => hK .normal s a w μ A) ops.toList hρ' 0 s a w μ A (fun j => by simp) hs h
  simpa using this
 ·simp only [cond_true] at h
  cases hd : (zy4b refm ops (ops.toList.map (compI P ops)) && (ops.toList.map (compI P ops)).all fun x => !x.op.isDfr)
  ·rw [hd] at h; simp only [cond_false] at h; unfold evalC at h; cases h
  ·rw [hd] at h
   simp only [cond_true] at h
   unfold evalC at h
   simp only [Bool.and_eq_true] at hd
   refine wpIn_region_any hm ?_
   obtain ⟨mv, hh⟩ := zy4d hs.h (w.drawn + 1)
   exact draw_run hC refm (K := K .normal) hY ρ (fun s a w μ A => hK .normal s a w μ A) hd.1 (fun o ho => by
    have := List.all_eq_true.1 hd.2 _ (List.mem_map_of_mem ho)
    simpa using this) h (w0 := w0) (μ0 := μ0) (A0 := A0) (μ := μ) (A := A)
    ⟨hh, RepL.step hs.t hs.h mv, hs.m.trans mv, hs.d.step mv⟩

section
variable {c : Code} {F : Fence} {n : Nat} {Q : Exit → Act → World → Prop} {a : Act} {b : Frame} {k : List Item} {cs : List Frame}
theorem zygs : step P (lone (b.atR a (.code (.scope c) :: k)) cs w) = .next (lone (b.atR a (.code c :: .inScope c :: k)) cs w) :=
 step_lone_go (by simp [stepG, stepG.exec, Frame.atR])
theorem zygr : step P (lone (b.atR a (.inScope c :: k)) cs w) = .next (lone (b.atR a k) cs w) :=
 step_lone_go (by simp [stepG, stepG.exec, Frame.atR])
theorem zyih (h : c.wpIn F n P (Exit.noGoto Q) a w) : (Code.scope c).wpIn F n P Q a w := by
 intro b k cs hro hb hr
 have h0 : (lone (b.atR a (.code (.scope c) :: k)) cs w).fenced P F := fenced_calm hb hr rfl
 obtain ⟨e, a₁, w₁, hq, harr⟩ := h b (.inScope c :: k) cs hro hb hr
 cases e with
 | normal => exact ⟨.normal, a₁, w₁, hq, .head h0 zygs (StepsIn.trans harr (.one (fenced_calm hb hr rfl) zygr))⟩
 | exit id => exact ⟨.exit id, a₁, w₁, hq, fun k' hk => .head h0 zygs (harr.1 k' (by simp [exitTo, hk])), fun hr' hk => let ⟨k₁, h1, h2⟩ := harr.2 hr' (by simp [exitTo, hk]); ⟨k₁, h1, .head h0 zygs h2⟩⟩
 | goto l => exact hq.elim
 | ret => exact ⟨_, a₁, w₁, hq, .of_steps (.one h0 zygs) harr⟩
 | panic ch => exact ⟨_, a₁, w₁, hq, .of_steps (.one h0 zygs) harr⟩
 | outgrown => exact ⟨_, a₁, w₁, hq, .of_steps (.one h0 zygs) harr⟩
end
def CSound (P : Program) (refm : Nat → Bool) (n : Nat) (C : Oracle) (c : Code) (x : AC) : Prop := ∀ (ρ : Option Nat) (w0 : World) (μ0 : Mu) (A0 : Nat → Prop), (ρ = none ∨ x.calm = true) → zy08 P w0 μ0 A0 C → ∀ {R : Type} (s : St) (K : Ex → St → Option R) (r : R) (Q : Exit → Act → World → Prop),
  (∀ e s a w μ A, K e s = some r → Sim w0 μ0 A0 s a w μ A → Q (exOf e) a w) → evalC C refm (iter n) x s K = some r → ∀ (a : Act) (w : World) (μ : Mu) (A : Nat → Prop), Sim w0 μ0 A0 s a w μ A → c.wpIn (FW ρ) 0 P Q a w
def RfunOk (P : Program) (refm : Nat → Bool) (n : Nat) (C : Oracle) (it : Nat → Option (Nat × AC)) : Prop := ∀ (fo : Operand) (ps : Array Tmp) (ac bc : Code) (f : Opd) (g : Nat) (q : Nat × AC) (x y : AC), opd fo = some f → it g = some q → x.calm = true → y.calm = true → CSound P refm n C ac x → CSound P refm n C bc y →
 CSound P refm n C (.rangeFunc fo ps ac bc) (.rfun f g q.1 q.2 ps.toList x y)
theorem zy35 (hm : P.follows .mixedOrders = true) {C : Oracle} (hC : Sound P C) (refm : Nat → Bool) (n : Nat) (it : Nat → Option (Nat × AC)) (HR : RfunOk P refm n C it) : ∀ (c : Code) (d : List (List Nat)), CSound P refm n C c (compC P refm it c d).1 := by
 intro c
 induction c with
 | skip => intro d ρ w0 μ0 A0 hρ hY R s K r Q hK h a w μ A hs; exact wpIn_skip (hK .normal s a w μ A h hs)
 | region id ops draw =>
  intro d ρ w0 μ0 A0 hρ hY R s K r Q hK h a w μ A hs
  unfold compC compRD at h
  dsimp only at h
  cases hd : (draw && !zy4b refm ops (ops.toList.map (compI P ops)) && zy0i (ops.toList.map (compI P ops)))
  ·rw [hd] at h
   simp only [cond_false] at h
   cases hq : (draw && !zy4b refm ops (ops.toList.map (compI P ops)) && zyfp refm ops (ops.toList.map (compI P ops)))
   ·rw [hq] at h
    exact zyev hm hC refm hY ρ (hρ.imp (fun h => h) fun h => by unfold compC compRD at h; dsimp only at h; rw [hd, hq] at h; exact h) hK h hs
   ·rw [hq] at h
    simp only [cond_true] at h
    simp only [Bool.and_eq_true] at hq
    obtain ⟨⟨hdr, _⟩, hab⟩ := hq
    subst hdr
    unfold evalC at h
    refine wpIn_region_any hm ?_
    obtain ⟨mv, hh⟩ := zy4d hs.h (w.drawn + 1)
    exact sep_run zyc8 refm (K := K .normal) zyc9 ρ (fun s a w μ A => hK .normal s a w μ A) rfl hab (fun o ho => by
     have := (zyfq hab).1
     obtain ⟨i, hi, rfl⟩ := List.getElem_of_mem ho
     obtain ⟨_, h2⟩ := this i (compI P ops ops.toList[i]) (by rw [List.getElem?_map, List.getElem?_eq_getElem hi]; rfl)
     cases hop : (compI P ops ops.toList[i]).op <;> rw [hop] at h2 <;> first | rfl | cases h2) h (w0 := w0) (μ0 := μ0) (A0 := A0) (μ := μ) (A := A)
     ⟨hh, RepL.step hs.t hs.h mv, hs.m.trans mv, hs.d.step mv⟩
  ·rw [hd] at h
   simp only [cond_true] at h
   simp only [Bool.and_eq_true] at hd
   obtain ⟨⟨hdr, _⟩, hab⟩ := hd
   subst hdr
   unfold evalC at h
   obtain ⟨⟨s1, hsame⟩, h⟩ := zy71 h
   have hne : zydy ops (ops.toList.map (compI P ops)) ≠ [] := fun h0 => zy5a ops _ _ (List.map_eq_nil_iff.1 h0)
   have hall : ∀ o ∈ zydy ops (ops.toList.map (compI P ops)), zy52 noC refm o (kill (d.headD []) s) some = some s1 := fun o ho => hsame _ (List.mem_map_of_mem ho)
   have hhead : (zydy ops (ops.toList.map (compI P ops))).headD [] ∈ zydy ops (ops.toList.map (compI P ops)) := by
    cases he : zydy ops (ops.toList.map (compI P ops)) with
    | nil => exact absurd he hne
    | cons o os => simp
   have e := (zy54 noC refm (K .normal) ((zydy ops (ops.toList.map (compI P ops))).headD []) (kill (d.headD []) s) some).symm
   rw [show (fun s => (some s).bind (K .normal)) = K .normal from rfl, h, hall _ hhead] at e
   have hK1 : K .normal s1 = some r := e.symm
   refine wpIn_region_any hm ?_
   have hsk := hs.kill (d.headD [])
   obtain ⟨mv, hh⟩ := zy4d hsk.h (w.drawn + 1)
   unfold zy0i at hab
   simp only [Bool.and_eq_true] at hab
   exact any_run refm ρ rfl (fun o ho => by
    have := List.all_eq_true.1 hab.2 _ (List.mem_map_of_mem ho)
    simp only [Bool.and_eq_true, Bool.or_eq_true] at this
    cases hop : (compI P ops o).op <;> rw [hop] at this <;> first | rfl | simp [AOp.isPure, AOp.isStore] at this) (fun a w μ A h => hK .normal s1 a w μ A hK1 h) ops.size (Array.replicate ops.size false) (kill (d.headD []) s) a _ μ A (by simp) (fun o ho => by
    have := hall (o.map fun i => (((ops.toList.map (compI P ops))[i]?).getD badI)) (List.mem_map_of_mem (by simpa using ho))
    exact this) ⟨hh, RepL.step hsk.t hsk.h mv, hsk.m.trans mv, hsk.d.step mv⟩
 | seq x y ihx ihy =>
  intro d ρ w0 μ0 A0 hρ hY R s K r Q hK h a w μ A hs
  have hcx : ρ = none ∨ (compC P refm it x d).1.calm = true := hρ.imp (fun h => h) fun h => by
   unfold compC at h; simp only [AC.calm, Bool.and_eq_true] at h; exact h.1
  have hcy : ρ = none ∨ (compC P refm it y (compC P refm it x d).2).1.calm = true := hρ.imp (fun h => h) fun h => by
   unfold compC at h; simp only [AC.calm, Bool.and_eq_true] at h; exact h.2
  refine wpIn_seq (ihx d ρ w0 μ0 A0 hcx hY s _ r _ (fun e s a w μ A h hs => ?_) h a w μ A hs)
  cases e
  ·exact ihy _ ρ w0 μ0 A0 hcy hY s K r Q hK h a w μ A hs
  ·exact hK (.exit _) s a w μ A h hs
  ·exact hK .ret s a w μ A h hs
 | cond c x y ihx ihy =>
  intro d ρ w0 μ0 A0 hρ hY R s K r Q hK h a w μ A hs
  unfold compC at h
  cases hc : opd c with
  | none => simp only [hc] at h; unfold evalC at h; cases h
  | some c' =>
   simp only [hc] at h
   unfold evalC condK at h
   split at h
   ·rename_i t ht
    have hr := zydt hs.h hs.t hc
    rw [ht] at hr
    refine wpIn_cond hr.bool_inv ?_
    cases t
    ·exact ihy _ ρ w0 μ0 A0 (hρ.imp (fun h => h) fun h => by unfold compC at h; simp only [hc, AC.calm, Bool.and_eq_true] at h; exact h.2) hY s K r Q hK h a w μ A hs
    ·exact ihx _ ρ w0 μ0 A0 (hρ.imp (fun h => h) fun h => by unfold compC at h; simp only [hc, AC.calm, Bool.and_eq_true] at h; exact h.1) hY s K r Q hK h a w μ A hs
   ·cases h
 | block id x ihx =>
  intro d ρ w0 μ0 A0 hρ hY R s K r Q hK h a w μ A hs
  refine wpIn_block (ihx d ρ w0 μ0 A0 (hρ.imp (fun h => h) fun h => by unfold compC at h; exact h) hY s _ r _ (fun e s a w μ A h hs => ?_) h a w μ A hs)
  cases e with
  | normal => exact hK .normal s a w μ A h hs
  | ret => exact hK .ret s a w μ A h hs
  | exit id' =>
   simp only [zy1a] at h
   show (if id' = id then Q .normal a w else Q (.exit id') a w)
   by_cases he : id' = id
   ·subst he
    simp only [beq_self_eq_true, cond_true] at h
    rw [if_pos rfl]
    exact hK .normal s a w μ A h hs
   ·rw [if_neg he]
    have : (id' == id) = false := by simpa using he
    rw [this] at h
    exact hK (.exit id') s a w μ A h hs
 | loop x ihx =>
  intro d ρ w0 μ0 A0 hρ hY R s K r Q hK h a w μ A hs
  unfold compC at h
  simp only at h
  unfold evalC at h
  simp only [Option.bind_eq_some_iff] at h
  generalize hg : (fun s => evalC C refm (iter n) (compC P refm it x d.tail).1 s (zyf7 (d.headD []))) = g at h
  obtain ⟨⟨e1, s1⟩, hit, hKr⟩ := h
  let p : Act → World → Nat → Prop := fun a w k => ∃ s μ A, Sim w0 μ0 A0 s a w μ A ∧ iter k g s = some (e1, s1)
  have hex : ∃ m : Act → World → Nat, ∀ a w, (∃ k, p a w k) → p a w (m a w) ∧ ∀ j, p a w j → m a w ≤ j := by
   have : ∀ q : Act × World, ∃ k, (∃ k, p q.1 q.2 k) → p q.1 q.2 k ∧ ∀ j, p q.1 q.2 j → k ≤ j := fun q => by
    by_cases hq : ∃ k, p q.1 q.2 k
    ·obtain ⟨k, h1, h2⟩ := least hq
     exact ⟨k, fun _ => ⟨h1, h2⟩⟩
    ·exact ⟨0, fun h => absurd h hq⟩
   exact ⟨fun a w => Classical.choose (this (a, w)), fun a w => Classical.choose_spec (this (a, w))⟩
  obtain ⟨m, hmm⟩ := hex
  refine wpIn_loop (fun a w => ∃ k, p a w k) m ⟨n, kill (d.headD []) s, μ, A, hs.kill _, hit⟩ ?_
  intro a w hI
  obtain ⟨⟨s2, μ2, A2, hs2, hit2⟩, _⟩ := hmm a w hI
  generalize m a w = k at hit2
  cases k with
  | zero => cases hit2
  | succ k =>
   unfold iter at hit2
   cases hgs : g s2 with
   | none => rw [hgs] at hit2; cases hit2
   | some q =>
    obtain ⟨e', s'⟩ := q
    rw [hgs] at hit2
    rw [← hg] at hgs
    refine ihx d.tail ρ w0 μ0 A0 (hρ.imp (fun h => h) fun h => by unfold compC at h; exact h) hY s2 _ (e', s') _ (fun e s a w μ A h hs => ?_) hgs a w μ2 A2 hs2
    cases e with
    | normal =>
     cases h
     have hp : p a w k := ⟨_, μ, A, hs.kill _, hit2⟩
     exact ⟨⟨k, hp⟩, Nat.lt_succ_of_le ((hmm a w ⟨k, hp⟩).2 k hp)⟩
    | exit id =>
     cases h
     cases hit2
     exact hK (.exit id) _ _ _ _ _ hKr hs
    | ret =>
     cases h
     cases hit2
     exact hK .ret _ _ _ _ _ hKr hs
 | exit id => intro d ρ w0 μ0 A0 hρ hY R s K r Q hK h a w μ A hs; exact wpIn_exit (hK (.exit id) s a w μ A h hs)
 | ret => intro d ρ w0 μ0 A0 hρ hY R s K r Q hK h a w μ A hs; exact wpIn_ret (hK .ret s a w μ A h hs)
 | label l => intro d ρ w0 μ0 A0 hρ hY R s K r Q hK h a w μ A hs; exact wpIn_label (hK .normal s a w μ A h hs)
 | scope x ihx =>
  intro d ρ w0 μ0 A0 hρ hY R s K r Q hK h a w μ A hs
  refine zyih (ihx d ρ w0 μ0 A0 (hρ.imp (fun h => h) fun h => by unfold compC at h; exact h) hY s K r _ (fun e s a w μ A h hs => ?_) h a w μ A hs)
  have := hK e s a w μ A h hs
  cases e <;> exact this
 | rangeFunc fo ps ac bc iha ihb =>
  intro d ρ w0 μ0 A0 hρ hY R s K r Q hK h a w μ A hs
  unfold compC at h hρ
  dsimp only at h hρ
  cases hf : opd fo with
  | none => rw [hf] at h; unfold evalC at h; cases h
  | some f =>
   cases hq : it ((d.headD []).headD 0) with
   | none => rw [hf, hq] at h; unfold evalC at h; cases h
   | some q =>
    rw [hf, hq] at h hρ
    dsimp only at h hρ
    cases hc : ((compC P refm it ac d.tail).1.calm && (compC P refm it bc (compC P refm it ac d.tail).2).1.calm)
    ·rw [hc] at h; unfold evalC at h; cases h
    ·rw [hc] at h hρ
     simp only [Bool.and_eq_true] at hc
     exact HR fo ps ac bc f _ q _ _ hf hq hc.1 hc.2 (iha _) (ihb _) ρ w0 μ0 A0 hρ hY s K r Q hK h a w μ A hs
 | _ => intro d ρ w0 μ0 A0 hρ hY R s K r Q hK h a w μ A hs; exact nomatch h

end Go.Proofs.YtiblnpnfaadmcaaGreat.Am
