import Derived.Test.YtiblnpnfaadmcaaGreatAmSound
import Derived.RangeFuncLeaves
/- Functions, and ranges over functions: what the abstract machine tells of a call, the machine does. -/
set_option linter.unusedVariables false
set_option maxRecDepth 10000
set_option linter.unusedSectionVars false
set_option linter.unusedSimpArgs false
namespace Go.Proofs.YtiblnpnfaadmcaaGreat.Am
open Go

variable [Gl] {P : Program} {w : World} {μ : Mu} {A : Nat → Prop}


theorem zyd5 {t : TypeId} {g : Option Nat} (h : agT P t = some g) {hp : Heap} (hh : HRep w μ A hp) {c av : AV} {v : Value} (hr : Rep w μ A c v) (hv : zyd4 hp g c = some av) :
  ∃ a u, v = .pointer (some a) ∧ Rep w μ A av u ∧ (loadVar t a).run P w = .ok u w := by
 cases c <;> try (simp [zyd4] at hv; done)
 case ip cs =>
  cases hr with
  | ip _ a val h0 h1 h2 h3 =>
   obtain ⟨u, hu, hrun⟩ := zyal h h2 h3 hv
   exact ⟨a, u, rfl, hu, hrun⟩
 case rp id off =>
  simp only [zyd4, Option.bind_eq_some_iff] at hv
  obtain ⟨cs, hl, hv⟩ := hv
  cases hr with
  | rp _ _ x h0 h1 =>
   obtain ⟨b, r, hm, hval⟩ := zy19 hh hl
   obtain ⟨hs, hx⟩ := h1 b r hm
   obtain ⟨val, h2, h3⟩ := hval hs
   obtain ⟨d2, d3⟩ := zy4h (fun _ => hs) off h2 h3
   obtain ⟨u, hu, hrun⟩ := zyal h d2 d3 hv
   rw [hx]
   exact ⟨_, u, rfl, hu, hrun⟩

theorem zyey {s : St} {tmps : Array Value} {f : ResultVar → Sem Value} (hf1 : ∀ t, f (.tmp t) = pure (tmps.getD t undef)) (hf2 : ∀ a t, f (.cell a t) = asAddr (tmps.getD a undef) >>= loadVar t) (hh : HRep w μ A s.h) (ht : Tmps w μ A s.t tmps) : ∀ (l : List ResultVar) (rs : List ARes) (vs : List AV), l.mapM (zy39 P) = some rs → zyen s rs = some vs →
  ∃ us, RepL w μ A vs us ∧ (l.mapM f).run P w = .ok us w
 | [], rs, vs, h, hv => by
  simp at h
  subst h
  cases hv
  exact ⟨[], RepL.nil _ _ _, rfl⟩
 | x :: l, rs, vs, h, hv => by
  rw [List.mapM_cons] at h
  simp only [Option.bind_eq_bind, Option.bind_eq_some_iff] at h
  obtain ⟨r, hr, rs', hrs, he⟩ := h
  cases he
  simp only [zyen, Option.bind_eq_some_iff] at hv
  obtain ⟨v, hv1, vs', hv2, he⟩ := hv
  cases he
  obtain ⟨us, hus, hrun⟩ := zyey hf1 hf2 hh ht l rs' vs' hrs hv2
  have hx : ∃ u, Rep w μ A v u ∧ (f x).run P w = .ok u w := by
   cases x with
   | tmp t =>
    cases hr
    cases hv1
    exact ⟨_, Tmps.get (a := ⟨tmps, []⟩) ht t, by rw [hf1]; rfl⟩
   | cell a t =>
    simp only [zy39, Option.map_eq_some_iff] at hr
    obtain ⟨g, hg, rfl⟩ := hr
    obtain ⟨ad, u, he, hu, hl⟩ := zyd5 hg hh (Tmps.get (a := ⟨tmps, []⟩) ht a) hv1
    refine ⟨u, hu, ?_⟩
    rw [hf2]
    simp only [Sem.run_bind]
    simp only at he
    rw [he]
    simp only [asAddr, Sem.run_pure, Result.andThen_ok, hl]
  obtain ⟨u, hu, hur⟩ := hx
  refine ⟨u :: us, RepL.cons hu hus, ?_⟩
  rw [List.mapM_cons]
  simp only [Sem.run_bind, hur, Result.andThen_ok, hrun, Sem.run_pure]

theorem zyf1 {s : St} {tmps : Array Value} (hh : HRep w μ A s.h) (ht : Tmps w μ A s.t tmps) {fn : Func} {rs : List ARes} (hrs : fn.results.toList.mapM (zy39 P) = some rs) {v : AV} (hv : results s rs = some v) :
  ∃ u, (Go.results fn tmps).run P w = .ok u w ∧ Rep w μ A v u := by
 simp only [results, Option.map_eq_some_iff] at hv
 obtain ⟨vs, hvs, rfl⟩ := hv
 have h1 : ∃ us, RepL w μ A vs us ∧ (Go.results fn tmps).run P w = .ok (if h : us.toArray.size = 1 then us.toArray[0] else .tuple us.toArray) w := by
  unfold Go.results
  rw [Array.mapM_eq_mapM_toList]
  have key : ∀ f : ResultVar → Sem Value, (∀ t, f (.tmp t) = pure (tmps.getD t undef)) → (∀ a t, f (.cell a t) = asAddr (tmps.getD a undef) >>= loadVar t) →
    ∃ us, RepL w μ A vs us ∧ ((List.toArray <$> fn.results.toList.mapM f) >>= fun vs => (pure (if h : vs.size = 1 then vs[0] else .tuple vs) : Sem Value)).run P w = .ok (if h : us.toArray.size = 1 then us.toArray[0] else .tuple us.toArray) w := by
   intro f h1 h2
   obtain ⟨us, hus, hrun⟩ := zyey (P := P) h1 h2 hh ht _ rs vs hrs hvs
   refine ⟨us, hus, ?_⟩
   simp only [Sem.run_bind, Sem.run_map]
   rw [hrun]
   simp only [Result.andThen_ok, Sem.run_pure]
  exact key _ (by intros; rfl) (by intros; rfl)
 obtain ⟨us, hus, h1⟩ := h1
 refine ⟨_, h1, ?_⟩
 have hl := hus.1
 match vs, us, hus, hl with
 | [], [], hus, _ => exact .tup _ _ hus.1 hus.2
 | [v], [u], hus, _ => exact hus.head
 | v1 :: v2 :: vs, u1 :: u2 :: us, hus, _ =>
  rw [dif_neg (by simp)]
  exact .tup _ _ hus.1 hus.2

def zy03 (P : Program) (fn : Func) (tmps : Array Value) (R : Ending → World → Prop) : List Deferred → World → Prop
 | [], w => ∃ v, (Go.results fn tmps).run P w = .ok v w ∧ R (.returned v) w
 | d :: ds, w => (∃ r w', d.target = .collected r ∧ (Instr.takeDeferred r).run P w = .ok [] w' ∧ zy03 P fn tmps R ds w') ∨
   (∃ fv cap f args, d.target = .fn fv cap ∧ (invoke d.target d.args).run P w = .ok (.enter f args) w ∧ CallsD P f args .returning w fun e u' w' => (∃ v, e = .returned v) ∧ u' = .returning ∧ zy03 P fn tmps R ds w')
theorem zy9n {fn : Func} {tmps : Array Value} {R : Ending → World → Prop} : ∀ (ds : List Deferred) (w : World) (fr : Frame) (cs : List Frame), fr.mode = .returning → fr.defers = ds → fr.tmps = tmps → P.funcs[fr.fn]? = some fn → fr.kind = .normal → zy03 P fn tmps R ds w →
  ∃ e w' fr', R e w' ∧ Comes P (lone fr cs w) (lone fr' cs w') e ∧ fr'.fn = fr.fn ∧ fr'.leaving P w' e
 | [], w, fr, cs, hu, hd, ht, hf, hk, h => by
  obtain ⟨v, hr, hR⟩ := h
  exact ⟨.returned v, w, fr, hR, Steps.refl P _, rfl, hu, hd, hk, fn, hf, ht ▸ hr⟩
 | d :: ds, w, fr, cs, hu, hd, ht, hf, hk, h => by
  rcases h with ⟨r, w', htar, htake, hrest⟩ | ⟨fv, cap, f, args, htar, hinv, hcall⟩
  ·have h1 := step_collected (cs := cs) (by rw [hu]; simp) hd htar htake
   obtain ⟨e', w'', fr', hR', hs', hfn', hl'⟩ := zy9n ds w' { fr with defers := [] ++ ds } cs hu rfl ht hf hk hrest
   exact ⟨e', w'', fr', hR', Comes.of_steps (.one h1) hs', hfn', hl'⟩
  ·have h1 := step_defer (cs := cs) (by rw [hu]; simp) hd htar hinv
   obtain ⟨e, u', w', frX, ⟨⟨v, rfl⟩, rfl, hR⟩, hsteps, hkX, hgo⟩ := hcall { fr with defers := ds } cs hu
   have h2 := step_going_returned (c := { { fr with defers := ds } with mode := .returning }) (cs := cs) hkX hgo
   obtain ⟨e', w'', fr', hR', hs', hfn', hl'⟩ := zy9n ds w' { { { fr with defers := ds } with mode := .returning } with mode := settle .returning } cs rfl rfl ht hf hk hR
   exact ⟨e', w'', fr', hR', Comes.of_steps (.head h1 (Steps.trans hsteps (.one h2))) hs', hfn', hl'⟩
def postX (P : Program) (fn : Func) (R : Ending → World → Prop) : Exit → Act → World → Prop
 | .normal, a, w | .ret, a, w => zy03 P fn a.tmps R a.defers w
 | _, _, _ => False
theorem zy2u {f : FuncId} {fn : Func} {c : Code} {args : Array Value} {w : World} {R : Ending → World → Prop} (hf : P.funcs[f]? = some fn) (hb : fn.body = some c)
  (h : c.wp P (postX P fn R) { tmps := args ++ Array.replicate (fn.ntmps - args.size) Go.undef, defers := [] } w) : Calls P f args w R := by
 intro cs
 let b : Frame := { (default : Frame) with fn := f, kind := .normal }
 have henter : Frame.enter P f args .normal = b.at { tmps := args ++ Array.replicate (fn.ntmps - args.size) Go.undef, defers := [] } [.code c] := by
  simp [Frame.enter, Frame.at, hf, hb, b]
 obtain ⟨e, a', w', hq, harr⟩ := h b [] cs
 rw [← henter] at harr
 cases e with
 | normal =>
  obtain ⟨e', w'', fr', hR, hs, hfn, hl⟩ := zy9n a'.defers w' { b.at a' [] with mode := .returning } cs rfl rfl rfl hf rfl hq
  exact ⟨e', w'', fr', hR, Comes.of_steps (Steps.trans harr (.one step_end)) hs, hfn, hl⟩
 | ret =>
  obtain ⟨todo, hs₀⟩ := harr
  obtain ⟨e', w'', fr', hR, hs, hfn, hl⟩ := zy9n a'.defers w' { b.at a' todo with mode := .returning } cs rfl rfl rfl hf rfl hq
  exact ⟨e', w'', fr', hR, Comes.of_steps hs₀ hs, hfn, hl⟩
 | panic chain => exact hq.elim
 | exit id => exact hq.elim
 | goto l => exact hq.elim
 | outgrown => exact hq.elim

theorem zyex {b : Nat} {o : Obj} (hA : ¬ A b) {c : AV} {v : Value} (h : Rep w μ A c v) : Rep (w.putObj b o) μ A c v :=
 h.move (fun k hk => World.putObj_heap_other (fun e => hA (e ▸ hk))) (fun _ h => h) (Nat.le_refl _) (fun _ _ _ h => h)
theorem zyew {b : Nat} {o : Obj} (hA : ¬ A b) {cs : List AV} {vs : List Value} (h : RepL w μ A cs vs) : RepL (w.putObj b o) μ A cs vs := ⟨h.1, fun j c v h1 h2 => zyex hA (h.2 j c v h1 h2)⟩
theorem HRep.putObj {h : Heap} (hh : HRep w μ A h) {b : Nat} {o : Obj} (hA : ¬ A b) (hb : b < w.heap.size) (hL : ∀ (id : Nat) (a : Addr) (r : Nat), μ[id]? = some (some (a, r)) → a.block = b → a.spot = some 1 ∧ ∃ q, o = .loop q) : HRep (w.putObj b o) μ A h where
 len := hh.len
 liv := hh.liv
 blk := fun id cs a r hl hm hs => by
  have hne : a.block ≠ b := fun e => by rw [(hL id a r hm e).1] at hs; cases hs
  obtain ⟨g1, g2, arr, e, fr, g3, g4, g5, g6⟩ := hh.blk id cs a r hl hm hs
  exact ⟨g1, g2, arr, e, fr, by rw [World.putObj_heap_other hne]; exact g3, g4, g5, fun j c hj => let ⟨v, h1, h2⟩ := g6 j c hj; ⟨v, h1, zyex hA h2⟩⟩
 inj := hh.inj
 off := hh.off
 old := fun k hk => by rw [World.putObj_size]; exact hh.old k hk
 glb := hh.glb.move (fun k hk => World.putObj_heap_other (fun e => hA (e ▸ hk))) fun _ h => h
 mp := fun id cs a r hl hm hs => by
  have g := hh.mp id cs a r hl hm hs
  by_cases e : a.block = b
  ·obtain ⟨hs1, q, rfl⟩ := hL id a r hm e
   rcases g with ⟨g1, g2, _⟩ | ⟨es, ent, ck, _, g2, _⟩
   ·exact .inl ⟨g1, g2, q, by rw [e]; exact World.putObj_heap_same hb⟩
   ·rw [g2] at hs1; cases hs1
  ·exact g.to (World.putObj_heap_other e) fun c v hr => zyex hA hr
theorem Move.putObj {w0 : World} {μ0 : Mu} {A0 : Nat → Prop} (m : Move w0 μ0 A0 w μ A) {b : Nat} {o : Obj} (hb : w0.heap.size ≤ b) : Move w0 μ0 A0 (w.putObj b o) μ A where
 os := m.os
 tape := m.tape
 output := m.output
 size := by rw [World.putObj_size]; exact m.size
 keep := fun k hk hl => by rw [World.putObj_heap_other (by omega)]; exact m.keep k hk hl
 len := m.len
 mu := m.mu
 liv := m.liv
 a := m.a
 new := m.new
 lp := fun k r hk => by
  have := (Array.getElem?_eq_some_iff.1 hk).1
  rw [World.putObj_heap_other (by omega)]; exact m.lp k r hk
theorem zy3r {w0 : World} {D : Nat} {o : Obj} : ∀ {ds : List Deferred}, Dfs w0 w μ A ds → (∀ e ∈ ds, e.target ≠ .collected D) → Dfs w0 (w.putObj D o) μ A ds
 | [], _, _ => trivial
 | d :: ds, ⟨h, hs⟩, hn => ⟨h.imp (fun h => h) fun ⟨D', h1, ⟨g1, g2, g3, g4⟩, h3⟩ => ⟨D', h1, ⟨by rw [World.putObj_heap_other (fun e => hn d (List.mem_cons_self ..) (by rw [h1, e]))]; exact g1, g2, g3, g4⟩, h3⟩, zy3r hs fun e he => hn e (List.mem_cons_of_mem _ he)⟩
theorem zy9o (hD : zy02 P) {fn : Func} {tmps : Array Value} {R : Ending → World → Prop} {w0 : World} {μ0 : Mu} {A0 : Nat → Prop} {h : Heap} {t : List AV}
  (hfin : ∀ w, HRep w μ A h → RepL w μ A t tmps.toList → Move w0 μ0 A0 w μ A → ∃ v, (Go.results fn tmps).run P w = .ok v w ∧ R (.returned v) w) : ∀ (ds : List Deferred) (w : World), Dfs w0 w μ A ds → HRep w μ A h → RepL w μ A t tmps.toList → Move w0 μ0 A0 w μ A → zy03 P fn tmps R ds w
 | [], w, _, h1, h2, h3 => hfin w h1 h2 h3
 | d :: ds, w, ⟨hd, hds⟩, h1, h2, h3 => by
  rcases hd with ⟨f, g, caps, e1, e2, e3⟩ | ⟨D, e1, ⟨g1, g2, g3, g4⟩, e4⟩
  ·obtain ⟨⟨fn', c, q1, q2, q3⟩, hcall⟩ := hD f e1
   refine .inr ⟨.func f, #[], f, #[.func (.func g) #[] caps], e2, ?_, (hcall g caps w).mono ?_⟩
   ·rw [e2, e3]
    simp only [invoke, callFunc, Sem.run_bind, Sem.run_pure, Result.andThen_ok, run_program, q1, q3, q2, Bool.false_eq_true, if_false, Option.isNone_some]
    rfl
   ·rintro e u' w' ⟨⟨v, rfl⟩, rfl, n, rfl⟩
    obtain ⟨mv, hh⟩ := zy4d h1 n
    exact ⟨⟨v, rfl⟩, rfl, zy9o hD hfin ds _ (hds.step mv) hh (RepL.step h2 h1 mv) (h3.trans mv)⟩
  ·have hlt := (Array.getElem?_eq_some_iff.1 g1).1
   exact .inl ⟨D, w.putObj D (.deferred none), e1, run_takeDeferred g1, zy9o hD hfin ds _ (zy3r hds e4) (h1.putObj g3 hlt fun id a r hm e => absurd ⟨id, a, r, hm, e⟩ g4) (zyew g3 h2) (h3.putObj g2)⟩

theorem loop_step {h : Heap} (hh : HRep w μ A h) {w' : World} {l : Nat} {rc : Loop} (hos : w'.os = w.os) (htp : w'.tape = w.tape) (hout : w'.output = w.output) (hge : w.heap.size ≤ l) (hold : ∀ b, b < w.heap.size → w'.heap[b]? = w.heap[b]?)
  (hnew : w'.heap[l]? = some (.loop rc)) :
  Move w μ A w' (μ ++ [some (⟨l, 0, some 1⟩, 0)]) A ∧ HRep w' (μ ++ [some (⟨l, 0, some 1⟩, 0)]) A (h ++ [some []]) := by
 have hlt := (Array.getElem?_eq_some_iff.1 hnew).1
 have old : ∀ (id : Nat) (x : Addr × Nat), id < μ.length → (μ ++ [some (⟨l, 0, some 1⟩, 0)])[id]? = some (some x) → μ[id]? = some (some x) := fun id x hid hx => by
  rwa [List.getElem?_append_left hid] at hx
 have split : ∀ (id : Nat) (a : Addr) (r : Nat), (μ ++ [some (⟨l, 0, some 1⟩, 0)])[id]? = some (some (a, r)) → (id < μ.length ∧ μ[id]? = some (some (a, r))) ∨ (id = μ.length ∧ a = ⟨l, 0, some 1⟩ ∧ r = 0) := fun id a r hx => by
  rcases Nat.lt_or_ge id μ.length with h1 | h1
  ·exact .inl ⟨h1, old id _ h1 hx⟩
  ·rw [List.getElem?_append_right h1] at hx
   have : id = μ.length := by
    have := (List.getElem?_eq_some_iff.1 hx).1
    simp at this; omega
   subst this
   simp at hx
   exact .inr ⟨rfl, hx.1.symm, hx.2.symm⟩
 have mv : Move w μ A w' (μ ++ [some (⟨l, 0, some 1⟩, 0)]) A := {
  os := hos, tape := htp, output := hout, size := by omega
  keep := fun b hb _ => hold b hb
  len := by simp
  mu := old
  liv := fun b ⟨id, a, r, hm, hb⟩ => by
   rcases split id a r hm with ⟨_, h2⟩ | ⟨_, h2, _⟩
   ·exact .inl ⟨id, a, r, h2, hb⟩
   ·subst h2; subst hb; exact .inr hge
  a := fun b hb => hb
  new := fun b hb => .inl hb
  lp := fun b r hb => by rw [hold b (Array.getElem?_eq_some_iff.1 hb).1]; exact hb }
 refine ⟨mv, ?_⟩
 refine ⟨by simp [hh.len], fun id => ?_, fun id ds b r hlv hm hs => ?_, fun i j a b r s hi hj hab => ?_, fun b hb hl' => ?_, fun b hb => by have := hh.old b hb; omega, hh.glbStep mv, fun id ds b r hlv hm hs => ?_⟩
 ·rw [zyab]
  rcases Nat.lt_or_ge id μ.length with h1 | h1
  ·rw [List.getElem?_append_left h1, if_pos (by rw [← hh.len]; exact h1)]; exact hh.liv id
  ·rw [List.getElem?_append_right h1, if_neg (by rw [← hh.len]; omega)]
   by_cases h2 : id = μ.length
   ·subst h2; rw [if_pos hh.len]; simp
   ·rw [if_neg (by rw [← hh.len]; exact h2), List.getElem?_eq_none (by simp; omega)]; rfl
 ·rcases split id b r hm with ⟨h1, h2⟩ | ⟨h1, h2, h3⟩
  ·rw [zyab, if_pos (by rw [← hh.len]; exact h1)] at hlv
   obtain ⟨g1, g2, arr', e', fr', g3, g4, g5, g6⟩ := hh.blk id ds b r hlv h2 hs
   refine ⟨g1, g2, arr', e', fr', ?_, g4, g5, fun j c hj => ?_⟩
   ·rw [hold _ (Array.getElem?_eq_some_iff.1 g3).1]; exact g3
   ·obtain ⟨v, hv1, hv2⟩ := g6 j c hj
    exact ⟨v, hv1, hv2.step hh mv⟩
  ·subst h2; exact absurd hs (by simp)
 ·rcases split i a r hi with ⟨h1, h2⟩ | ⟨h1, h2, h3⟩ <;> rcases split j b s hj with ⟨k1, k2⟩ | ⟨k1, k2, k3⟩
  ·exact hh.inj i j a b r s h2 k2 hab
  ·subst k2
   have := zya5 hh ⟨i, a, r, h2, rfl⟩
   simp at hab; omega
  ·subst h2
   have := zya5 hh ⟨j, b, s, k2, rfl⟩
   simp at hab; omega
  ·omega
 ·obtain ⟨id, a, r, hm, rfl⟩ := hl'
  rcases split id a r hm with ⟨h1, h2⟩ | ⟨h1, h2, h3⟩
  ·exact hh.off _ hb ⟨id, a, r, h2, rfl⟩
  ·subst h2
   have := hh.old _ hb
   simp at this; omega
 ·rcases split id b r hm with ⟨h1, h2⟩ | ⟨h1, h2, h3⟩
  ·rw [zyab, if_pos (by rw [← hh.len]; exact h1)] at hlv
   have g := hh.mp id ds b r hlv h2 hs
   exact g.to (hold _ g.lt) fun c v hr => hr.step hh mv
  ·subst h1; subst h2
   rw [zyab, if_neg (by rw [← hh.len]; omega), if_pos hh.len] at hlv
   cases hlv
   exact .inl ⟨rfl, rfl, rc, hnew⟩
theorem rec_of {h : Heap} (hh : HRep w μ A h) {w1 : World} {μ1 : Mu} {A1 : Nat → Prop} (m : Move w1 μ1 A1 w μ A) {id l r : Nat} (hid : μ1[id]? = some (some (⟨l, 0, some 1⟩, r))) (hl : hasY id h = true) : μ[id]? = some (some (⟨l, 0, some 1⟩, r)) := by
 have hlv : (live h id).isSome = true := by
  unfold hasY at hl
  cases hx : live h id with
  | none => rw [hx] at hl; cases hl
  | some c => rfl
 have h1 := hh.liv id
 rw [hlv] at h1
 have hlt := (List.getElem?_eq_some_iff.1 hid).1
 cases h2 : μ[id]? with
 | none => rw [h2] at h1; cases h1
 | some q =>
  cases q with
  | none => rw [h2] at h1; cases h1
  | some q =>
   have := m.mu id q hlt h2
   rw [hid] at this
   cases this
   rfl
theorem zyfu : ∀ {ps : List Tmp} {t : List AV} {tm : Array Value} {as : List AV} {vs : List Value}, RepL w μ A t tm.toList → RepL w μ A as vs → RepL w μ A (setPs t ps as) ((ps.zip vs).foldl (fun t (p : Tmp × Value) => t.setIfInBounds p.1 p.2) tm).toList
 | [], t, tm, as, vs, h, _ => by unfold setPs; exact h
 | p :: ps, t, tm, [], vs, h, ha => by
  have : vs = [] := List.length_eq_zero_iff.1 ha.1
  subst this
  unfold setPs; exact h
 | p :: ps, t, tm, a :: as, [], h, ha => by have := ha.1; simp at this
 | p :: ps, t, tm, a :: as, v :: vs, h, ha => by
  unfold setPs
  rw [List.zip_cons_cons, List.foldl_cons]
  exact zyfu (zyhc (a := { tmps := tm, defers := [] }) h ha.head (some p) ⟨t, []⟩ rfl) ha.tail

theorem zy0g (w : World) (o : Obj) {b : Nat} (hb : b < w.heap.size) : (w.alloc o).heap[b]? = w.heap[b]? := by
 show (w.heap.push o)[b]? = _
 rw [Array.getElem?_push, if_neg (by omega)]
theorem zy3p {w0 w0' : World} (hb : w0'.heap.size = w0.heap.size) : ∀ {ds : List Deferred}, Dfs w0 w μ A ds → Dfs w0' w μ A ds
 | [], _ => trivial
 | d :: ds, ⟨h, hs⟩ => ⟨h.imp (fun h => h) fun ⟨D, h1, ⟨g1, g2, g3, g4⟩, h3⟩ => ⟨D, h1, ⟨g1, by rw [hb]; exact g2, g3, g4⟩, h3⟩, zy3p hb hs⟩
theorem zy3q {w0 : World} : ∀ {ds : List Deferred}, Dfs w0 w μ A ds → ∀ e ∈ ds, ∀ D, e.target = .collected D → w.heap[D]? = some (.deferred (some []))
 | [], _, e, he, _, _ => by cases he
 | d :: ds, ⟨h, hs⟩, e, he, D, hD => by
  rcases List.mem_cons.1 he with rfl | he
  ·rcases h with ⟨f, g, caps, _, h2, _⟩ | ⟨D', h1, ⟨g1, _⟩, _⟩
   ·rw [h2] at hD; cases hD
   ·rw [h1] at hD; cases hD; exact g1
  ·exact zy3q hs e he D hD
theorem Move.put2 {w1 : World} {μ1 : Mu} {A1 : Nat → Prop} (m : Move w μ A w1 μ1 A1) {l : Nat} (hl : Liv μ l) (hlt : l < w.heap.size) {o : Obj} : Move (w.putObj l o) μ A (w1.putObj l o) μ1 A1 where
 os := m.os
 tape := m.tape
 output := m.output
 size := by rw [World.putObj_size, World.putObj_size]; exact m.size
 keep := fun b hb hn => by
  rw [World.putObj_size] at hb
  have hne : b ≠ l := fun e => hn (e ▸ hl)
  rw [World.putObj_heap_other hne, World.putObj_heap_other hne]; exact m.keep b hb hn
 len := m.len
 mu := m.mu
 liv := fun b hb => by rw [World.putObj_size]; exact m.liv b hb
 a := m.a
 new := fun b hb => by rw [World.putObj_size]; exact m.new b hb
 lp := fun b r hb => by
  by_cases e : b = l
  ·subst e
   rw [World.putObj_heap_same hlt] at hb
   rw [World.putObj_heap_same (Nat.lt_of_lt_of_le hlt m.size)]; exact hb
  ·rw [World.putObj_heap_other e] at hb ⊢; exact m.lp b r hb
theorem put_back {l : Nat} {o o' : Obj} (h : w.heap[l]? = some o) : (w.putObj l o').putObj l o = w := by
 obtain ⟨hl, h⟩ := Array.getElem?_eq_some_iff.1 h
 unfold World.putObj
 have : (w.heap.setIfInBounds l o').setIfInBounds l o = w.heap := by
  apply Array.ext_getElem?
  intro i
  by_cases e : l = i
  ·subst e; simp [hl, h]
  ·simp [Array.getElem?_setIfInBounds_ne e]
 simp only [this]
theorem fold_zip {ps : Array Tmp} {vs : List Value} {t : Array Value} : (ps.zip vs.toArray).foldl (fun tmps (x : Tmp × Value) => tmps.setIfInBounds x.1 x.2) t = (ps.toList.zip vs).foldl (fun t (p : Tmp × Value) => t.setIfInBounds p.1 p.2) t := by
 rw [← Array.foldl_toList, Array.toList_zip]
set_option maxHeartbeats 1000000 in
theorem rfun_ok (hm : P.follows .mixedOrders = true) (hD : zy02 P) {C : Oracle} (hC : Sound P C) (hYC : ∀ w0 μ0 A0, zy08 P w0 μ0 A0 C) (refm : Nat → Bool) (n : Nat) (lv : Nat → List (List Nat)) : RfunOk P refm n C (itOf P refm lv) := by
 intro fo ps ac bc f g q x y hfo hq hx hyc hA hB ρ w0 μ0 A0 hρ hY R s K r Q hK h a w μ A hs
 obtain rfl : ρ = none := by
  rcases hρ with h | h
  ·exact h
  ·cases h
 unfold itOf at hq
 cases hgb : Nat.blt g yb
 ·rw [hgb] at hq; cases hq
 rw [hgb] at hq
 simp only [cond_true, Option.bind_eq_some_iff] at hq
 obtain ⟨fn, hfn, cg, hbody, hq⟩ := hq
 split at hq
 ·cases hq
 rename_i hnm
 cases hq
 have hname : (fn.name == "runtime.NumGoroutine") = false := by
  cases hh : (fn.name == "runtime.NumGoroutine")
  ·rfl
  ·exact absurd (.inl hh) hnm
 have hres : fn.results = #[] := by
  by_cases hh : fn.results.size = 0
  ·exact Array.size_eq_zero_iff.1 hh
  ·exact absurd (.inr hh) hnm
 unfold evalC at h
 obtain ⟨caps, h1, e0, e1, e2⟩ := zyf6 h
 have hrf := zydt hs.h hs.t hfo
 rw [e0] at hrf
 obtain ⟨capv, ecap, hcap⟩ := hrf.fn_inv
 refine wpIn_rangeFunc ?_
 intro fnid _
 obtain ⟨rc, hrc⟩ : ∃ rc : LoopState → Option Code → Loop, rc = fun st pe => { state := st, pending := pe, fn := fnid, tmps := a.tmps, params := ps, assign := ac, body := bc, defers := w.heap.size } := ⟨_, rfl⟩
 obtain ⟨W1, hW1⟩ : ∃ W1, (w.alloc (.deferred (some []))).alloc (.loop (rc .ready none)) = W1 := ⟨_, rfl⟩
 have hL1 : W1.heap[w.heap.size + 1]? = some (.loop (rc .ready none)) := by
  rw [← hW1]; have := World.alloc_heap_new (w.alloc (.deferred (some []))) (.loop (rc .ready none)); rwa [World.size_alloc] at this
 have hK1 : W1.heap[w.heap.size]? = some (.deferred (some [])) := by
  rw [← hW1]; exact (zy0g _ _ (by simp)).trans (World.alloc_heap_new w _)
 have hold : ∀ b, b < w.heap.size → W1.heap[b]? = w.heap[b]? := fun b hb => by
  rw [← hW1]; exact (zy0g _ _ (by simp; omega)).trans (zy0g w _ hb)
 have hsz1 : W1.heap.size = w.heap.size + 2 := by rw [← hW1]; simp
 obtain ⟨mv1, hh1⟩ := loop_step hs.h (w' := W1) (l := w.heap.size + 1) (by rw [← hW1]; rfl) (by rw [← hW1]; rfl) (by rw [← hW1]; rfl) (by omega) hold hL1
 have hlen : s.h.length = μ.length := hs.h.len.symm
 have hidμ : (μ ++ [some ((⟨w.heap.size + 1, 0, some 1⟩ : Addr), 0)])[s.h.length]? = some (some (⟨w.heap.size + 1, 0, some 1⟩, 0)) := by rw [hlen]; simp
 generalize hl0 : w.heap.size + 1 = l at *
 generalize hμ1 : μ ++ [some ((⟨l, 0, some 1⟩ : Addr), 0)] = μ1 at *
 generalize hid0 : s.h.length = id at *
 have hLl : ∀ {W : World} {μW : Mu} {AW : Nat → Prop} {h : Heap}, HRep W μW AW h → μW[id]? = some (some (⟨l, 0, some 1⟩, 0)) → ¬ AW l ∧ Liv μW l ∧ ∀ (o : Obj) (j : Nat) (b : Addr) (r : Nat), μW[j]? = some (some (b, r)) → b.block = l → b = ⟨l, 0, some 1⟩ := fun {W μW AW h} hh hμ =>
  have hlv : Liv μW l := ⟨id, _, _, hμ, rfl⟩
  ⟨fun ha => hh.off l ha hlv, hlv, fun o j b r hj hb => by
   have := hh.inj j id b ⟨l, 0, some 1⟩ r 0 hj hμ hb
   subst this
   rw [hμ] at hj
   cases hj; rfl⟩
 refine ⟨l, [{ target := .collected w.heap.size, args := #[] }], W1, { target := .fn (.func g) capv.toArray, args := #[.func (.yield l) #[] #[]] }, W1, g, #[.func (.yield l) #[] #[]] ++ capv.toArray, W1, ?_, ?_, fun _ _ => trivial, ?_, fun h => (by cases h), ?_⟩
 ·rw [← hW1, hrc, ← hl0]; exact run_enterLoop_outer _ _ _ _ _
 ·simp only [resolve, ecap]
  simp [go_sem]
 ·have hname' : ¬ fn.name = "runtime.NumGoroutine" := by simpa using hname
  simp [invoke, callFunc, Sem.run_bind, run_program, hfn, hname', hbody, go_sem]
 refine zy2t ?_
 have eargs : #[Value.func (.yield l) #[] #[]] ++ capv.toArray = (Value.func (.yield l) #[] #[] :: capv).toArray := by simp
 rw [eargs]
 refine zy2u hfn hbody ((wpIn_wide (n := 0)).1 ?_)
 have hcap1 : RepL W1 μ1 A caps capv := RepL.step hcap hs.h mv1
 have hyl : Rep W1 μ1 A (.yld id) (.func (.yield l) #[] #[]) := .yld id l (by have := (List.getElem?_eq_some_iff.1 hidμ).1; exact this) fun b r hb => by rw [hidμ] at hb; cases hb; rfl
 have hargs : RepL W1 μ1 A (.yld id :: caps) (Value.func (.yield l) #[] #[] :: capv) := .cons hyl hcap1
 have hsim0 : Sim W1 μ1 A ⟨(.yld id :: caps) ++ List.replicate (fn.ntmps - (AV.yld id :: caps).length) .undef, s.h ++ [some []]⟩ { tmps := (Value.func (.yield l) #[] #[] :: capv).toArray ++ Array.replicate (fn.ntmps - (Value.func (.yield l) #[] #[] :: capv).toArray.size) Go.undef, defers := [] } W1 μ1 A := by
  refine ⟨hh1, ?_, Move.refl _ _ _, trivial⟩
  have e : ((Value.func (.yield l) #[] #[] :: capv).toArray ++ Array.replicate (fn.ntmps - (Value.func (.yield l) #[] #[] :: capv).toArray.size) Go.undef).toList = (Value.func (.yield l) #[] #[] :: capv) ++ List.replicate (fn.ntmps - (AV.yld id :: caps).length) Go.undef := by
   have := hargs.1
   simp only [List.length_cons] at this
   simp [this]
  show RepL W1 μ1 A _ (Array.toList _)
  rw [e]
  refine hargs.append ⟨by simp, fun j c v hj hv => ?_⟩
  rw [List.getElem?_replicate] at hj hv
  split at hj
  ·rename_i hlt
   rw [if_pos hlt] at hv
   cases hj; cases hv
   exact .undef
  ·cases hj
 generalize hrd : (fun (as : List AV) (h : Heap) => bif as.length == ps.toList.length then evalC C refm (iter n) x ⟨setPs s.t ps.toList as, h⟩ (midY id fun s' => evalC C refm (iter n) y s' (endH id)) else none) = rd at e1
 have hCs : Sound P (withY C id rd) := fun f args h v h' hc hf => by
  unfold withY at hc
  have : Nat.blt f yb = true := by rw [Nat.blt_eq]; exact hf
  rw [this] at hc
  exact hC _ _ _ _ _ hc hf
 have hYs : zy08 P W1 μ1 A (withY C id rd) := by
  intro id' args hp v h' hc
  unfold withY at hc
  have hnb : Nat.blt (yb + id') yb = false := by
   cases hb : Nat.blt (yb + id') yb
   ·rfl
   ·rw [Nat.blt_eq] at hb; omega
  rw [hnb] at hc
  simp only [cond_false] at hc
  cases hcc : yb + id' == yb + id && hasY id hp
  ·rw [hcc] at hc; cases hc
  rw [hcc] at hc
  simp only [Bool.and_eq_true, beq_iff_eq] at hcc
  obtain ⟨hie, hhy⟩ := hcc
  obtain rfl : id' = id := by omega
  simp only [cond_true, Option.map_eq_some_iff, Prod.mk.injEq] at hc
  obtain ⟨h2, hrdv, rfl, rfl⟩ := hc
  rw [← hrd] at hrdv
  dsimp only at hrdv
  cases hln : args.length == ps.toList.length
  ·rw [hln] at hrdv; cases hrdv
  rw [hln] at hrdv
  simp only [cond_true, beq_iff_eq] at hrdv hln
  refine ⟨?_, fun W μW AW vals b r0 m hh hr hμ => ?_⟩
  ·unfold hasY at hhy
   cases hx : live hp id' with
   | none => rw [hx] at hhy; cases hhy
   | some c => rfl
  have hb := m.mu id' _ (List.getElem?_eq_some_iff.1 hidμ).1 hμ
  rw [hidμ] at hb
  cases hb
  have hl : W.heap[l]? = some (.loop (rc .ready none)) := m.lp _ _ hL1
  have hlt : l < W.heap.size := (Array.getElem?_eq_some_iff.1 hl).1
  have hy := run_yield (P := P) (args := vals.toArray) hl (by rw [hrc]; simp only [List.size_toArray]; rw [hr.1, hln]; simp)
  rw [hrc] at hy
  dsimp only at hy
  refine ⟨fnid, _, ac, bc, hy, roundIn_of_wpIn trivial ?_⟩
  have ht : RepL W μW AW s.t a.tmps.toList := RepL.step (RepL.step hs.t hs.h mv1) hh1 m
  have hsimA : Sim W μW AW ⟨setPs s.t ps.toList args, hp⟩ { tmps := (ps.zip vals.toArray).foldl (fun tmps (x : Tmp × Value) => tmps.setIfInBounds x.1 x.2) a.tmps, defers := [] } W μW AW := ⟨hh, by
   show RepL _ _ _ _ (Array.toList _)
   rw [fold_zip]; exact zyfu ht hr, Move.refl _ _ _, trivial⟩
  refine hA (some l) W μW AW (.inr hx) (hYC _ _ _) _ _ _ _ (fun e s1 a1 w1 μ' A' hk hs1 => ?_) hrdv _ W μW AW hsimA
  cases e with
  | exit _ => cases hk
  | ret => cases hk
  | normal =>
   rw [zybi] at hk
   cases hhy1 : hasY id' s1.h
   ·rw [hhy1] at hk; cases hk
   rw [hhy1] at hk
   simp only [cond_true] at hk
   have hr1 := rec_of hs1.h (m.trans hs1.m) hidμ hhy1
   obtain ⟨q1, q2, q3⟩ := hLl hs1.h hr1
   have hl1 : w1.heap[l]? = some (.loop (rc .ready none)) := hs1.m.lp _ _ hl
   have hlt1 : l < w1.heap.size := (Array.getElem?_eq_some_iff.1 hl1).1
   have hlivW : Liv μW l := ⟨id', _, _, hμ, rfl⟩
   refine ⟨_, run_beginRound hl1 (by rw [hrc]), ?_⟩
   have hsimB : Sim (W.putObj l (.loop { rc .ready none with state := .busy })) μW AW s1 a1 (w1.putObj l (.loop { rc .ready none with state := .busy })) μ' A' := ⟨hs1.h.putObj q1 hlt1 fun j b r hj hb => by rw [q3 (.loop { rc .ready none with state := .busy }) j b r hj hb]; exact ⟨rfl, _, rfl⟩,
    zyew q1 hs1.t, hs1.m.put2 hlivW hlt, zy3p (by rw [World.putObj_size]) (zy3r hs1.d fun e he hte => by have := zy3q hs1.d e he l hte; rw [hl1] at this; cases this)⟩
   refine hB (some l) _ μW AW (.inr hyc) (hYC _ _ _) _ _ _ _ (fun e s3 a3 w3 μ3 A3 hk3 hs3 => ?_) hk _ _ μ' A' hsimB
   cases e with
   | exit _ => cases hk3
   | ret => cases hk3
   | normal =>
    have hk3 : (bif hasY id' s3.h then some s3.h else none) = some h2 := hk3
    cases hhy3 : hasY id' s3.h
    ·rw [hhy3] at hk3; cases hk3
    rw [hhy3] at hk3
    cases hk3
    have hl3 : w3.heap[l]? = some (.loop { rc .ready none with state := .busy }) := hs3.m.lp _ _ (World.putObj_heap_same hlt)
    have hlt3 : l < w3.heap.size := (Array.getElem?_eq_some_iff.1 hl3).1
    have hr3 := rec_of hs3.h hs3.m hμ hhy3
    obtain ⟨p1, p2, p3⟩ := hLl hs3.h hr3
    have hend := run_endRound (P := P) none hl3
    have erc : ({ ({ rc .ready none with state := .busy } : Loop) with state := if (none : Option Code).isNone then .ready else .done, pending := none } : Loop) = rc .ready none := by rw [hrc]; rfl
    rw [erc] at hend
    refine ⟨_, _, hend, .bool true, μ3, A3, rfl, hs3.h.putObj p1 hlt3 fun j b r hj hb => by rw [p3 (.loop (rc .ready none)) j b r hj hb]; exact ⟨rfl, _, rfl⟩, .bool true, ?_⟩
    have := hs3.m.put2 (o := .loop (rc .ready none)) hlivW (by rw [World.putObj_size]; exact hlt)
    rw [put_back hl] at this
    exact this
 refine zy35 hm hCs refm n (fun _ => none) (fun _ _ _ _ _ _ _ _ _ _ hq => by cases hq) cg (lv g) none W1 μ1 A (.inl rfl) hYs _ _ h1 _ (fun e s2 a2 W2 μ2 A2 hK2 hs2 => ?_) e1 _ W1 μ1 A hsim0
 have hfact : hasY id s2.h = true ∧ s2.h = h1 := by
  cases e with
  | exit _ => cases hK2
  | normal =>
   have hK2 : (bif hasY id s2.h then some s2.h else none) = some h1 := hK2
   cases hh : hasY id s2.h
   ·rw [hh] at hK2; cases hK2
   ·rw [hh] at hK2; cases hK2; exact ⟨rfl, rfl⟩
  | ret =>
   have hK2 : (bif hasY id s2.h then some s2.h else none) = some h1 := hK2
   cases hh : hasY id s2.h
   ·rw [hh] at hK2; cases hK2
   ·rw [hh] at hK2; cases hK2; exact ⟨rfl, rfl⟩
 obtain ⟨hhy, hh1e⟩ := hfact
 have fin : zy03 P fn a2.tmps (rangePost (FW none) 0 P l Q { a with defers := [{ target := .collected w.heap.size, args := #[] }] ++ a.defers }) a2.defers W2 := by
  refine zy9o hD (fun w' hh ht m => ?_) a2.defers W2 hs2.d hs2.h hs2.t hs2.m
  refine ⟨.tuple #[], by unfold Go.results; rw [hres]; simp [Sem.run_pure], ?_⟩
  have hl : w'.heap[l]? = some (.loop (rc .ready none)) := m.lp _ _ hL1
  have hlt : l < w'.heap.size := (Array.getElem?_eq_some_iff.1 hl).1
  have hrun := run_endLoop (P := P) hl (by rw [hrc]; simp)
  have hp : (rc .ready none).pending = none := by rw [hrc]
  rw [hp] at hrun
  refine ⟨none, _, hrun, ?_⟩
  have hr := rec_of hh m hidμ hhy
  obtain ⟨q1, q2, q3⟩ := hLl hh hr
  obtain ⟨mvd, hhd⟩ := zy4g hh id
  have mall : Move w μ A w' (μ2.set id none) A2 := mv1.trans (m.trans mvd)
  have hmk : MarkOk w0 W1 μ1 A w.heap.size := ⟨hK1, hs.m.size, fun ha => by have := hs.h.old _ ha; omega, fun ⟨j, b, r, hj, hb⟩ => by
   rw [← hμ1] at hj
   rcases Nat.lt_or_ge j μ.length with hjl | hjl
   ·rw [List.getElem?_append_left hjl] at hj
    have := zya5 hs.h ⟨j, b, r, hj, rfl⟩
    omega
   ·rw [List.getElem?_append_right hjl] at hj
    cases hz : j - μ.length with
    | succ k => rw [hz] at hj; simp at hj
    | zero =>
     rw [hz] at hj
     simp at hj
     obtain ⟨rfl, rfl⟩ := hj
     simp at hb; omega⟩
  have hmk2 := (hmk.step m).step mvd
  have hds : Dfs w0 w' (μ2.set id none) A2 a.defers := ((hs.d.step mv1).step m).step mvd
  refine hK .normal _ _ _ (μ2.set id none) A2 e2 ⟨?_, ?_, ?_, ?_⟩
  ·show HRep _ _ _ (h1.set id none)
   rw [← hh1e]
   exact hhd.putObj q1 hlt fun j b r hj hb => by
    rw [List.getElem?_set] at hj
    split at hj
    ·split at hj <;> cases hj
    ·rename_i hne
     have := hh.inj j id b ⟨l, 0, some 1⟩ r 0 hj hr hb
     exact absurd this.symm hne
  ·exact zyew q1 (RepL.step hs.t hs.h mall)
  ·exact (hs.m.trans mall).putObj (by have := hs.m.size; omega)
  ·refine ⟨.inr ⟨w.heap.size, rfl, ?_, fun e he hte => ?_⟩, zy3r hds fun e he hte => ?_⟩
   ·obtain ⟨g1, g2, g3, g4⟩ := hmk2
    exact ⟨by rw [World.putObj_heap_other (by omega)]; exact g1, g2, g3, g4⟩
   ·have := zy3q hs.d e he _ hte
    have := (Array.getElem?_eq_some_iff.1 this).1
    omega
   ·have := zy3q hds e he _ hte
    rw [hl] at this; cases this
 cases e with
 | exit _ => cases hK2
 | normal => exact fin
 | ret => exact fin

theorem zy2m (lv : Nat → List (List Nat)) (refm : Nat → Bool) (k : Nat) {w0 : World} {μ0 : Mu} {A0 : Nat → Prop} : zy08 P w0 μ0 A0 (callK (prog P lv refm) k) := by
 intro id args h v h' hc
 cases k with
 | zero => cases hc
 | succ k =>
  unfold callK at hc
  have : (prog P lv refm).fn (yb + id) = none := by
   show (bif Nat.blt (yb + id) yb then _ else none) = none
   cases hb : Nat.blt (yb + id) yb
   ·rfl
   ·rw [Nat.blt_eq] at hb; omega
  rw [this] at hc
  cases hc
theorem zy2l (hm : P.follows .mixedOrders = true) (hD : zy02 P) (live : Nat → List (List Nat)) (refm : Nat → Bool) : ∀ k, Sound P (callK (prog P live refm) k)
 | 0 => fun f args h v h' hc => by cases hc
 | k + 1 => fun f args h v h' hc hfb => by
  have ih := zy2l hm hD live refm k
  unfold callK at hc
  simp only [Option.bind_eq_some_iff] at hc
  obtain ⟨F, hF, hev⟩ := hc
  have hblt : Nat.blt f yb = true := by rw [Nat.blt_eq]; exact hfb
  simp only [prog, hblt, cond_true, Option.bind_eq_some_iff] at hF
  obtain ⟨fn, hfn, hF⟩ := hF
  unfold compF at hF
  split at hF
  ·cases hF
  rename_i hname
  simp only [Option.bind_eq_some_iff, Option.map_eq_some_iff] at hF
  obtain ⟨c, hbody, rs, hrs, rfl⟩ := hF
  refine ⟨⟨fn, c, hfn, hbody, by simpa using hname⟩, fun w μ A vals hh hr => ?_⟩
  refine zy2u hfn hbody ((wpIn_wide (n := 0)).1 ?_)
  unfold evalF at hev
  have hsim : Sim w μ A ⟨entry { nt := fn.ntmps, np := fn.params.size, res := rs, code := (compC P refm (itOf P refm live) c (live f)).1 } args, h⟩ { tmps := vals.toArray ++ Array.replicate (fn.ntmps - vals.toArray.size) undef, defers := [] } w μ A := by
   refine ⟨hh, ?_, Move.refl _ _ _, trivial⟩
   show RepL w μ A (args ++ List.replicate (fn.ntmps - args.length) .undef) (vals.toArray ++ Array.replicate (fn.ntmps - vals.toArray.size) undef).toList
   have : (vals.toArray ++ Array.replicate (fn.ntmps - vals.toArray.size) undef).toList = vals ++ List.replicate (fn.ntmps - args.length) undef := by
    simp [hr.1]
   rw [this]
   refine hr.append ⟨by simp, fun j c v hj hv => ?_⟩
   rw [List.getElem?_replicate] at hj hv
   split at hj
   ·rename_i hlt
    rw [if_pos hlt] at hv
    cases hj; cases hv
    exact .undef
   ·cases hj
  refine zy35 hm ih refm k _ (rfun_ok hm hD ih (fun _ _ _ => zy2m live refm k) refm k live) c (live f) none w μ A (.inl rfl) (zy2m live refm k) _ _ (v, h') _ (fun e s a w' μ' A' hK hs => ?_) hev _ _ _ _ hsim
  have fin : (results s rs).bind (fun v => some (v, s.h)) = some (v, h') → zy03 P fn a.tmps (fun e w' => ∃ u μ'' A'', e = .returned u ∧ HRep w' μ'' A'' h' ∧ Rep w' μ'' A'' v u ∧ Move w μ A w' μ'' A'') a.defers w' := by
   intro hf
   simp only [Option.bind_eq_some_iff, Option.some.injEq, Prod.mk.injEq] at hf
   obtain ⟨v', hv', rfl, rfl⟩ := hf
   refine zy9o hD (fun w2 hh2 ht2 m2 => ?_) _ _ hs.d hs.h hs.t hs.m
   obtain ⟨u, hu, hru⟩ := zyf1 hh2 ht2 hrs hv'
   exact ⟨u, hu, u, μ', A', rfl, hh2, hru, m2⟩
  cases e with
  | normal => simp only [finK, zyf0] at hK; exact fin hK
  | exit id => cases hK
  | ret => simp only [finK, zyf0] at hK; exact fin hK

theorem callK_lt {lv : Nat → List (List Nat)} {refm : Nat → Bool} {k f : Nat} {args : List AV} {h : Heap} {r : AV × Heap} (hc : callK (prog P lv refm) k f args h = some r) : f < yb := by
 cases k with
 | zero => cases hc
 | succ k =>
  unfold callK at hc
  cases hb : Nat.blt f yb
  ·have : (prog P lv refm).fn f = none := by
    show (bif Nat.blt f yb then _ else none) = none
    rw [hb]; rfl
   rw [this] at hc
   cases hc
  ·rwa [Nat.blt_eq] at hb
theorem cv_calls (hm : P.follows .mixedOrders = true) (hD : zy02 P) {live : Nat → List (List Nat)} {refm : Nat → Bool} {f : Nat} {args : List AV} {vals : List Value} {A : Nat → Prop} {v : AV} (hv : cv (prog P live refm) f args = some v) (hA : ∀ b, A b → b < w.heap.size) (hG : GRep w A) (hr : RepL w [] A args vals) :
  Calls P f vals.toArray w fun e w' => ∃ u A', e = .returned u ∧ Rep w' [] A' v u ∧ w'.os = w.os ∧ w'.tape = w.tape ∧ w'.output = w.output ∧ w.heap.size ≤ w'.heap.size ∧ (∀ b, b < w.heap.size → w'.heap[b]? = w.heap[b]?) ∧ (∀ b, A' b → b < w'.heap.size) := by
 unfold cv at hv
 simp only [Option.bind_eq_some_iff] at hv
 obtain ⟨⟨v0, h0⟩, hc, hf⟩ := hv
 obtain ⟨n, hn⟩ := callW_iff.1 hc
 obtain ⟨_, hcall⟩ := zy2l hm hD live refm n f args [] v0 h0 hn (callK_lt hn)
 refine (hcall w [] A vals (HRep.empty w hA hG) hr).mono ?_
 rintro e w' ⟨u, μ', A', rfl, hh', hru, mv⟩
 have hfz := zy61 hh' (fun b => A' b ∨ Liv μ' b) (fun b h => .inl h) (fun b h => .inr h) 12 v0 v u hf hru
 refine ⟨u, _, rfl, hfz.move (fun b _ => rfl) (fun b h => h) (by simp) (fun id x hid => by simp at hid), mv.os, mv.tape, mv.output, mv.size, fun b hb => mv.keep b hb fun ⟨id, a, r, hm, _⟩ => by simp at hm, fun b hb => hb.elim (hh'.old b) (zya5 hh')⟩

end Go.Proofs.YtiblnpnfaadmcaaGreat.Am
