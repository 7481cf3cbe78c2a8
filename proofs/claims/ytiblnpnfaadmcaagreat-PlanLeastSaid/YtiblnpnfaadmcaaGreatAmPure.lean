import Derived.Test.YtiblnpnfaadmcaaGreatAmRep
import Derived.Test.YtiblnpnfaadmcaaGreatAmComp
import Derived.Laws.Sem
import Derived.KernelRfl
import Derived.Laws.StructEq
import Derived.ChangeKeysEq
import Derived.Laws.BytesArg
import Derived.Lib.ConvBytes
/- The operations that only read do what the abstract machine says. -/
set_option linter.unusedVariables false
set_option maxRecDepth 10000
set_option linter.unusedSectionVars false
set_option linter.unusedSimpArgs false
namespace Go.Proofs.YtiblnpnfaadmcaaGreat.Am
open Go

variable [Gl] {P : Program} {w : World} {μ : Mu} {A : Nat → Prop}

theorem zyij {x : Int} (h1 : -9223372036854775808 ≤ x) (h2 : x ≤ 9223372036854775807) : IntKind.i64.wrap x = x := by
 have e : IntKind.i64.wrap x = (if (true && decide (x % 18446744073709551616 ≥ 9223372036854775808)) = true then x % 18446744073709551616 - 18446744073709551616 else x % 18446744073709551616) := rfl
 rw [e]
 simp only [Bool.true_and, decide_eq_true_eq]
 split <;> omega

theorem ofS_rep {v : Value} {c : AV} (h : ofS v = some c) : Rep w μ A c v := by
 unfold ofS at h
 split at h <;> cases h
 ·exact .bool _
 ·exact .int _ _
 ·exact .str _
 ·exact .nilp
 ·exact .nils _
 ·exact .nilm
 ·exact .nilf
 ·exact .nili

theorem zyci {vs : List Value} {cs : List AV} (h : vs.mapM ofS = some cs) : RepL w μ A cs vs := by
 obtain ⟨h1, h2⟩ := zyb6 h
 exact ⟨h1.symm, fun j c v hc hv => ofS_rep (h2 j v c hv hc)⟩

theorem ofV_rep {v : Value} {c : AV} (h : ofV v = some c) : Rep w μ A c v := by
 unfold ofV at h
 split at h
 ·rename_i cs
  simp only [Option.map_eq_some_iff] at h
  obtain ⟨ds, hd, rfl⟩ := h
  have := zyci (w := w) (μ := μ) (A := A) hd
  have h2 : Rep w μ A (.agg ds) (.agg cs.toList.toArray) := .agg ds cs.toList this.1 this.2
  simpa using h2
 ·exact ofS_rep h

def Tmps (w : World) (μ : Mu) (A : Nat → Prop) (t : List AV) (a : Array Value) : Prop := RepL w μ A t a.toList

theorem Tmps.get {t : List AV} {a : Act} (h : Tmps w μ A t a.tmps) (n : Nat) : Rep w μ A (t.getD n .junk) (a.tmps.getD n Go.undef) := by
 rcases Nat.lt_or_ge n t.length with hn | hn
 ·obtain ⟨v, hv, hr⟩ := RepL.get h (List.getElem?_eq_getElem hn)
  rw [List.getD_eq_getElem?_getD, List.getElem?_eq_getElem hn, Option.getD_some]
  have : a.tmps.getD n Go.undef = v := by
   rw [Array.getD_eq_getD_getElem?]
   have : a.tmps[n]? = some v := by simpa using hv
   rw [this]; rfl
  rw [this]; exact hr
 ·rw [List.getD_eq_getElem?_getD, List.getElem?_eq_none hn]
  exact .junk _

theorem zydt {hp : Heap} (hh : HRep w μ A hp) {s : St} {a : Act} (h : Tmps w μ A s.t a.tmps) {x : Operand} {y : Opd} (hx : opd x = some y) : Rep w μ A (s.get y) (a.eval x) := by
 cases x with
 | tmp t => cases hx; exact h.get t
 | const v =>
  simp only [opd, Option.map_eq_some_iff] at hx
  obtain ⟨c, hc, rfl⟩ := hx
  exact ofV_rep hc
 | global g =>
  simp only [opd] at hx
  split at hx
  ·cases hx
  cases hx
  have key : ∀ (j : Nat) (c : AV), (Gl.cells g)[j]? = some c → ∃ v, w.cell? ((⟨g, 0, none⟩ : Addr).add j) = some v ∧ Rep w μ A c v := fun j c hj => by
   obtain ⟨_, v, h2, h3⟩ := hh.glb g j c hj
   refine ⟨v, ?_, ?_⟩
   ·have : (⟨g, 0, none⟩ : Addr).add j = ⟨g, j, none⟩ := zy0c (by simp) (by simp) (zy0b rfl j)
    rw [this]; exact h2
   ·cases c <;> first | (cases h3; constructor; done) | exact h3.elim
  refine .ip _ ⟨g, 0, none⟩ (fun j => (w.cell? ((⟨g, 0, none⟩ : Addr).add j)).getD Go.undef) (fun _ => rfl) (fun hne => ?_) (fun j c hj => ?_) (fun j c hj => ?_)
  ·cases hc : Gl.cells g with
   | nil => exact absurd hc hne
   | cons c l => exact (hh.glb g 0 c (by rw [hc]; rfl)).1
  ·obtain ⟨v, h2, _⟩ := key j c hj
   rw [h2]; rfl
  ·obtain ⟨v, h2, h3⟩ := key j c hj
   rw [h2]; exact h3
 | func f =>
  change (bif Nat.blt f yb then some (Opd.c (AV.fn f [])) else none) = some y at hx
  cases hb : Nat.blt f yb
  ·rw [hb] at hx; cases hx
  ·rw [hb] at hx; cases hx; exact .fn f [] [] (by rwa [Nat.blt_eq] at hb) rfl fun j c v h => by simp at h

theorem zydu {hp : Heap} (hh : HRep w μ A hp) {s : St} {a : Act} (h : Tmps w μ A s.t a.tmps) {xs : List Operand} {ys : List Opd} (hx : xs.mapM opd = some ys) : RepL w μ A (ys.map s.get) (xs.map a.eval) := by
 obtain ⟨h1, h2⟩ := zyb6 hx
 refine ⟨by simp [h1], fun j c v hc hv => ?_⟩
 simp only [List.getElem?_map, Option.map_eq_some_iff] at hc hv
 obtain ⟨y, hy, rfl⟩ := hc
 obtain ⟨x, hx', rfl⟩ := hv
 exact zydt hh h (h2 j x y hx' hy)

theorem zy4t (op : BinOp) (t : TypeId) (x y : Operand) (a b : Option Addr) (m n p q : Nat) : (eqGuard op t x y (.slice a m n) (.slice b p q)).run P w = .ok () w := by unfold eqGuard; cases op <;> rfl
theorem zyfd (d : Nat) {t e : TypeId} (hu : P.underlying t = some (.slice e)) (ad : Addr) (n c : Nat) : (Op.equalIn (d + 1) t (.slice (some ad) n c) (.slice none 0 0)).run P w = .ok false w := by
 unfold Op.equalIn
 have h : (underlying t).run P w = .ok (.slice e) w := by simp [underlying, hu]
 rw [Sem.run_bind, h]
 rfl
theorem zyfc {t e : TypeId} (hu : P.underlying t = some (.slice e)) (ad : Addr) (n c : Nat) : (binOp .eql t (.slice (some ad) n c) (.slice none 0 0)).run P w = .ok (.bool false) w := by
 simp only [binOp, Op.equal, Op.maxDepth, Sem.run_bind]
 rw [zyfd 9999 hu]; rfl
theorem zyfg {t e : TypeId} (hu : P.underlying t = some (.slice e)) (ad : Addr) (n c : Nat) : (binOp .neq t (.slice (some ad) n c) (.slice none 0 0)).run P w = .ok (.bool true) w := by
 simp only [binOp, Op.equal, Op.maxDepth, Sem.run_bind]
 rw [zyfd 9999 hu]; rfl
theorem nil_const {y : Operand} (h : opd y = some (.c (.is 0 true []))) {a : Act} : a.eval y = .slice none 0 0 := by
 cases y with
 | tmp t => cases h
 | global g => simp only [opd] at h; split at h <;> cases h
 | func f =>
  change (bif Nat.blt f yb then some (Opd.c (AV.fn f [])) else none) = _ at h
  cases hb : Nat.blt f yb
  ·rw [hb] at h; cases h
  ·rw [hb] at h; cases h
 | const v =>
  simp only [opd, Option.map_eq_some_iff] at h
  obtain ⟨c, hc, he⟩ := h
  cases he
  show v = _
  unfold ofV at hc
  split at hc
  ·simp only [Option.map_eq_some_iff] at hc; obtain ⟨_, _, he⟩ := hc; cases he
  ·unfold ofS at hc
   split at hc <;> first | rfl | (cases hc; done)


theorem Rep.int_inv {k : IntKind} {n : Int} {v : Value} (h : Rep w μ A (.int k n) v) : v = .int k n := by cases h; rfl
theorem Rep.bool_inv {b : Bool} {v : Value} (h : Rep w μ A (.bool b) v) : v = .bool b := by cases h; rfl
theorem Rep.str_inv {s : ByteArray} {v : Value} (h : Rep w μ A (.str s) v) : v = .string s := by cases h; rfl

theorem zy0d {t : TypeId} {g : Option Nat} (h : agT P t = some g) : (∃ d, P.underlying t = some d) ∧ ∃ i, P.info? t = some i ∧ g = bif zy82 P t then some i.size else none := by
 unfold agT at h
 split at h
 ·rename_i d i hd hi
  exact ⟨⟨d, hd⟩, i, hi, by cases h; rfl⟩
 ·cases h

theorem zyfk (t : TypeId) {d : TypeDesc} (h : P.underlying t = some d) (w : World) : (underlying t).run P w = .ok d w := by
 simp [underlying, h]

theorem zyfj (t : TypeId) {i : TypeInfo} (h : P.info? t = some i) (w : World) : (typeInfo t).run P w = .ok i w := by
 simp [typeInfo, h]

theorem zyfi (t : TypeId) {n : Nat} (h : sizeT P t = some n) (w : World) : (sizeOf t).run P w = .ok n w := by
 simp only [sizeT, Option.map_eq_some_iff] at h
 obtain ⟨i, hi, rfl⟩ := h
 simp [sizeOf, zyfj t hi]

theorem zyff (t : TypeId) {d : TypeDesc} (h : P.underlying t = some d) (w : World) : (isAgg t).run P w = .ok (zy82 P t) w := by
 unfold isAgg zy82
 rw [h]
 simp only [Sem.run_bind, zyfk t h, Result.andThen_ok]
 cases d <;> rfl

theorem zye1 {t : TypeId} {g : Option Nat} (h : agT P t = some g) {cs : List AV} {vs : List Value} (hr : RepL w μ A cs vs) (off : Nat) {av : AV} (hv : zyem (cs.drop off) g = some av) (w₂ : World) :
  ∃ v, Rep w μ A av v ∧ (part t vs.toArray off).run P w₂ = .ok v w₂ := by
 obtain ⟨⟨d, hd⟩, i, hi, hg⟩ := zy0d h
 unfold part
 simp only [Sem.run_bind, zyff t hd, Result.andThen_ok]
 have hs : sizeT P t = some i.size := by simp [sizeT, hi]
 cases ha : zy82 P t
 ·rw [ha] at hg
  simp only [cond_false] at hg
  subst hg
  simp only [zyem, List.head?_drop] at hv
  obtain ⟨v, h1, h2⟩ := hr.get hv
  refine ⟨v, h2, ?_⟩
  simp [h1]
 ·rw [ha] at hg
  simp only [cond_true] at hg
  subst hg
  simp only [zyem] at hv
  split at hv
  ·rename_i hl
   cases hv
   refine ⟨.agg ((vs.drop off).take i.size).toArray, .agg _ _ ((hr.drop off).take _).1 ((hr.drop off).take _).2, ?_⟩
   simp only [if_true, Sem.run_bind, zyfi t hs, Result.andThen_ok, Sem.run_pure]
   congr 2
   apply Array.ext'
   simp [List.extract_eq_take_drop]
  ·cases hv

theorem zyaj {a : Addr} : ∀ (n i : Nat) (acc : Array Value) (vs : List Value) (w₂ : World), vs.length = n → (∀ (j : Nat) (v : Value), vs[j]? = some v → w₂.cell? (a.add (i + j)) = some v) →
  (loadCellsFrom a i n acc).run P w₂ = .ok (acc ++ vs.toArray) w₂
 | 0, i, acc, vs, w₂, hl, hc => by
  have : vs = [] := List.length_eq_zero_iff.1 hl
  subst this
  simp [loadCellsFrom]
 | n + 1, i, acc, v :: vs, w₂, hl, hc => by
  unfold loadCellsFrom
  have h0 := hc 0 v rfl
  simp only [Nat.add_zero] at h0
  simp only [Sem.run_bind, run_load, h0, Result.andThen_ok]
  rw [zyaj n (i + 1) _ vs w₂ (by simpa using hl) fun j u hj => by have := hc (j + 1) u (by simpa using hj); rwa [show i + 1 + j = i + (j + 1) by omega]]
  congr 1
  apply Array.ext'
  simp

theorem zyal {t : TypeId} {g : Option Nat} (h : agT P t = some g) {cs : List AV} {a : Addr} {val : Nat → Value} (h2 : ∀ (j : Nat) (c : AV), cs[j]? = some c → w.cell? (a.add j) = some (val j))
  (h3 : ∀ (j : Nat) (c : AV), cs[j]? = some c → Rep w μ A c (val j)) {av : AV} (hv : zyem cs g = some av) :
  ∃ v, Rep w μ A av v ∧ (loadVar t a).run P w = .ok v w := by
 obtain ⟨⟨d, hd⟩, i, hi, hg⟩ := zy0d h
 unfold loadVar
 simp only [Sem.run_bind, zyff t hd, Result.andThen_ok]
 have hs : sizeT P t = some i.size := by simp [sizeT, hi]
 cases ha : zy82 P t
 ·rw [ha] at hg
  simp only [cond_false] at hg
  subst hg
  simp only [zyem, List.head?_eq_getElem?] at hv
  refine ⟨val 0, h3 0 av hv, ?_⟩
  have := h2 0 av hv
  rw [add_zero] at this
  simp [run_load, this]
 ·rw [ha] at hg
  simp only [cond_true] at hg
  subst hg
  simp only [zyem] at hv
  split at hv
  ·rename_i hl
   cases hv
   refine ⟨.agg ((List.range i.size).map val).toArray, .agg _ _ (by simp; omega) fun j c v hj hv => ?_, ?_⟩
   ·rw [List.getElem?_take] at hj
    split at hj
    ·rename_i hji
     simp [hji] at hv
     subst hv
     exact h3 j c hj
    ·cases hj
   ·simp only [if_true, Sem.run_bind, zyfi t hs, Result.andThen_ok, Sem.run_pure, loadCells]
    rw [zyaj i.size 0 #[] ((List.range i.size).map val) w (by simp) fun j v hj => ?_]
    ·simp
    ·simp only [Nat.zero_add]
     simp only [List.getElem?_map, Option.map_eq_some_iff] at hj
     obtain ⟨q, hq, rfl⟩ := hj
     have hjl : j < i.size := by
      have := (List.getElem?_eq_some_iff.1 hq).1
      simpa using this
     have : q = j := by rw [List.getElem?_range hjl] at hq; simpa using hq.symm
     subst this
     exact h2 q _ (List.getElem?_eq_getElem (by omega))
  ·cases hv

theorem zy19 {h : Heap} (hh : HRep w μ A h) {id : Nat} {cs : List AV} (hl : live h id = some cs) : ∃ b r, μ[id]? = some (some (b, r)) ∧ (b.spot = none → ∃ val : Nat → Value, (∀ (j : Nat) (c : AV), cs[j]? = some c → w.cell? (b.add j) = some (val j)) ∧ ∀ (j : Nat) (c : AV), cs[j]? = some c → Rep w μ A c (val j)) := by
 have hlv := hh.liv id
 rw [hl] at hlv
 cases hm : μ[id]? with
 | none => rw [hm] at hlv; simp at hlv
 | some q =>
  cases q with
  | none => rw [hm] at hlv; simp at hlv
  | some br =>
   obtain ⟨b, r⟩ := br
   refine ⟨b, r, rfl, fun hs => ?_⟩
   obtain ⟨_, _, arr, e, fr, hb, _, _, hc⟩ := hh.blk id cs b r hl hm hs
   refine ⟨fun j => (arr[b.off + j]?).getD default, fun j c hj => ?_, fun j c hj => ?_⟩
   ·obtain ⟨v, hv, _⟩ := hc j c hj
    unfold World.cell?
    rw [add_block, hb]
    simp only [zy0b hs, Option.isSome_none, Bool.false_eq_true, if_false, add_off, hv, Option.getD_some]
   ·obtain ⟨v, hv, hvr⟩ := hc j c hj
    simp only [hv, Option.getD_some]
    exact hvr

theorem zy4h {cs : List AV} {a : Addr} {val : Nat → Value} (hs : cs ≠ [] → a.spot = none) (n : Nat) (h2 : ∀ (j : Nat) (c : AV), cs[j]? = some c → w.cell? (a.add j) = some (val j))
  (h3 : ∀ (j : Nat) (c : AV), cs[j]? = some c → Rep w μ A c (val j)) : (∀ (j : Nat) (c : AV), (cs.drop n)[j]? = some c → w.cell? ((a.add n).add j) = some (val (n + j))) ∧ ∀ (j : Nat) (c : AV), (cs.drop n)[j]? = some c → Rep w μ A c (val (n + j)) := by
 refine ⟨fun j c hj => ?_, fun j c hj => ?_⟩
 ·rw [List.getElem?_drop] at hj; rw [zy0a (hs (fun e => by rw [e] at hj; simp at hj))]; exact h2 _ c hj
 ·rw [List.getElem?_drop] at hj; exact h3 _ c hj

theorem zyd7 {t : TypeId} {g : Option Nat} (h : agT P t = some g) {hp : Heap} (hh : HRep w μ A hp) {c av : AV} {v : Value} (hr : Rep w μ A c v) (hv : zyd4 hp g c = some av) :
  ∃ u, Rep w μ A av u ∧ (Instr.loadAt t v).run P w = .ok u w := by
 cases c <;> try (simp [zyd4] at hv; done)
 case ip cs =>
  cases hr with
  | ip _ a val h0 h1 h2 h3 =>
   obtain ⟨u, hu, hrun⟩ := zyal h h2 h3 hv
   exact ⟨u, hu, by simp [Instr.loadAt, Instr.sureAddr, hrun]⟩
 case rp id off =>
  simp only [zyd4, Option.bind_eq_some_iff] at hv
  obtain ⟨cs, hl, hv⟩ := hv
  cases hr with
  | rp _ _ x h0 h1 =>
   obtain ⟨b, r, hm, hval⟩ := zy19 hh hl
   obtain ⟨hs, hx⟩ := h1 b r hm
   obtain ⟨val, h2, h3⟩ := hval hs
   obtain ⟨d2, d3⟩ := zy4h (fun _ => hs) off h2 h3
   obtain ⟨u, hu, hrun⟩ := zyal h d2 d3 hv
   rw [hx]
   exact ⟨u, hu, by simp [Instr.loadAt, Instr.sureAddr, hrun]⟩


theorem zy59 {s : Sem Value} {v : Value} (h : s.run P w = .ok v w) : (do pure (Next.value (← s)) : Sem Next).run P w = .ok (.value v) w := by
 simp [h]

theorem zyde {c x y r : AV} {vc vx vy : Value} (hc : Rep w μ A c vc) (hx : Rep w μ A x vx) (hy : Rep w μ A y vy) (h : opPick c x y = some r) :
  ∃ v, Rep w μ A r v ∧ (do pure (if ← asBool vc then vx else vy) : Sem Value).run P w = .ok v w := by
 cases c <;> try (simp [opPick] at h; done)
 case bool b =>
  have := hc.bool_inv
  subst this
  simp only [opPick, Option.some.injEq] at h
  cases b
  ·subst h; exact ⟨vy, hy, by simp [asBool]⟩
  ·subst h; exact ⟨vx, hx, by simp [asBool]⟩

theorem zy7v {op : BinOp} {k : IntKind} {x y : Int} {r : AV} (h : zy7u op k x y = some r) :
  ∃ v, Rep w μ A r v ∧ ∀ (t : TypeId), (binOp op t (.int k x) (.int k y)).run P w = .ok v w := by
 cases op <;> simp only [zy7u] at h
 case quo => split at h <;> cases h; rename_i hy; exact ⟨_, .int _ _, fun t => by simp [binOp, Op.intDiv, hy]⟩
 case rem => split at h <;> cases h; rename_i hy; exact ⟨_, .int _ _, fun t => by simp [binOp, Op.intDiv, hy]⟩
 all_goals cases h
 case add => exact ⟨_, .int _ _, fun t => by simp [binOp, Op.intArith]⟩
 case sub => exact ⟨_, .int _ _, fun t => by simp [binOp, Op.intArith]⟩
 case mul => exact ⟨_, .int _ _, fun t => by simp [binOp, Op.intArith]⟩
 case and => exact ⟨_, .int _ _, fun t => by simp [binOp, Op.intBits, zy14]⟩
 case or => exact ⟨_, .int _ _, fun t => by simp [binOp, Op.intBits, zy14]⟩
 case xor => exact ⟨_, .int _ _, fun t => by simp [binOp, Op.intBits, zy14]⟩
 case andNot => exact ⟨_, .int _ _, fun t => by simp [binOp, Op.intBits, zy14]⟩
 case eql => exact ⟨_, .bool _, fun t => by simp [binOp, Op.intCmp]⟩
 case neq => exact ⟨_, .bool _, fun t => by simp [binOp, Op.intCmp]⟩
 case lss => exact ⟨_, .bool _, fun t => by simp [binOp, Op.intCmp]⟩
 case leq => exact ⟨_, .bool _, fun t => by simp [binOp, Op.intCmp]⟩
 case gtr => exact ⟨_, .bool _, fun t => by simp [binOp, Op.intCmp]⟩
 case geq => exact ⟨_, .bool _, fun t => by simp [binOp, Op.intCmp]⟩

theorem zygy {op : BinOp} {x y : ByteArray} {r : AV} (h : zygx op x y = some r) :
  ∃ v, Rep w μ A r v ∧ ∀ (t : TypeId), (binOp op t (.string x) (.string y)).run P w = .ok v w := by
 cases op <;> simp only [zygx] at h
 case add =>
  split at h <;> cases h
  rename_i hs
  refine ⟨_, .str _, fun t => ?_⟩
  have hs' : ¬ (((x.size + y.size : Nat) : Int) > IntKind.i64.max) := by
   have : IntKind.i64.max = 9223372036854775807 := by decide
   rw [this]; omega
  simp only [binOp, Op.stringOp, if_neg hs', Sem.run_pure]
 all_goals cases h
 all_goals exact ⟨_, .bool _, fun t => rfl⟩

theorem zydg {l : Bool} {k k' : IntKind} {x y : Int} {r : AV} (h : zydf l k x y = some r) :
  ∃ v, Rep w μ A r v ∧ ∀ (t : TypeId), (binOp (bif l then .shl else .shr) t (.int k x) (.int k' y)).run P w = .ok v w := by
 unfold zydf at h
 split at h <;> cases h
 rename_i hy
 refine ⟨_, .int _ _, fun t => ?_⟩
 cases l <;> simp [binOp, Op.shift, hy]

theorem zy4s (op : BinOp) (t : TypeId) (x y : Operand) (k k' : IntKind) (m n : Int) : (eqGuard op t x y (.int k m) (.int k' n)).run P w = .ok () w := by unfold eqGuard; cases op <;> rfl
theorem zy4u (op : BinOp) (t : TypeId) (x y : Operand) (m n : ByteArray) : (eqGuard op t x y (.string m) (.string n)).run P w = .ok () w := by unfold eqGuard; cases op <;> rfl
theorem zy4r (op : BinOp) (t : TypeId) (x y : Operand) (m n : Bool) : (eqGuard op t x y (.bool m) (.bool n)).run P w = .ok () w := by unfold eqGuard; cases op <;> rfl

theorem opBin_run {op : BinOp} {c d r : AV} {vc vd : Value} (hc : Rep w μ A c vc) (hd : Rep w μ A d vd) (h : opBin op c d = some r) (t : TypeId) (x y : Operand) :
  ∃ v, Rep w μ A r v ∧ (do eqGuard op t x y vc vd; binOp op t vc vd : Sem Value).run P w = .ok v w := by
 cases c <;> try (simp [opBin] at h; done)
 case int k m =>
  cases d <;> try (simp [opBin] at h; done)
  case int k' n =>
   have h1 := hc.int_inv
   have h2 := hd.int_inv
   subst h1; subst h2
   simp only [Sem.run_bind, zy4s, Result.andThen_ok]
   by_cases hs : op = .shl ∨ op = .shr
   ·rcases hs with rfl | rfl
    ·obtain ⟨v, hv, hr⟩ := zydg (P := P) (k' := k') (l := true) h; exact ⟨v, hv, hr t⟩
    ·obtain ⟨v, hv, hr⟩ := zydg (P := P) (k' := k') (l := false) h; exact ⟨v, hv, hr t⟩
   ·have h' : (if k = k' then zy7u op k m n else none) = some r := by
     cases op <;> first | exact h | exact absurd (Or.inl rfl) hs | exact absurd (Or.inr rfl) hs
    split at h'
    ·rename_i hk; subst hk; obtain ⟨v, hv, hr⟩ := zy7v (P := P) h'; exact ⟨v, hv, hr t⟩
    ·cases h'
 case str s =>
  cases d <;> try (simp [opBin] at h; done)
  case str u =>
   have h1 := hc.str_inv
   have h2 := hd.str_inv
   subst h1; subst h2
   simp only [Sem.run_bind, zy4u, Result.andThen_ok]
   obtain ⟨v, hv, hr⟩ := zygy (P := P) h
   exact ⟨v, hv, hr t⟩

theorem opBeq_run {neq : Bool} {c d r : AV} {vc vd : Value} (hc : Rep w μ A c vc) (hd : Rep w μ A d vd) (h : opBeq neq c d = some r) (t : TypeId) (ht : P.underlying t = some .bool) (x y : Operand) :
  ∃ v, Rep w μ A r v ∧ (do eqGuard (bif neq then .neq else .eql) t x y vc vd; binOp (bif neq then .neq else .eql) t vc vd : Sem Value).run P w = .ok v w := by
 cases c <;> try (simp [opBeq] at h; done)
 case bool b =>
  cases d <;> try (simp [opBeq] at h; done)
  case bool e =>
   have h1 := hc.bool_inv
   have h2 := hd.bool_inv
   subst h1; subst h2
   simp only [opBeq, Option.some.injEq] at h
   subst h
   simp only [Sem.run_bind, zy4r, Result.andThen_ok]
   have he : (Op.equal t (.bool b) (.bool e)).run P w = .ok (b == e) w := by
    show (Op.equalIn (9999 + 1) t (.bool b) (.bool e)).run P w = _
    unfold Op.equalIn
    simp only [Sem.run_bind, zyfk t ht, Result.andThen_ok, Sem.run_pure]
   cases neq
   ·exact ⟨_, .bool _, by simp [binOp, he]⟩
   ·exact ⟨_, .bool _, by simp [binOp, he]⟩

theorem opUn_run {op : UnOp} {c r : AV} {v : Value} (hc : Rep w μ A c v) (h : opUn op c = some r) : ∃ u, Rep w μ A r u ∧ (Op.unary op v).run P w = .ok u w := by
 cases c <;> try (simp [opUn] at h; done)
 case int k n =>
  have h1 := hc.int_inv
  subst h1
  cases op <;> simp [opUn] at h
  ·subst h; exact ⟨_, .int _ _, by simp [Op.unary, Op.intArith]⟩
  ·subst h; exact ⟨_, .int _ _, by simp [Op.unary, Op.intBits, zy14]⟩
 case bool b =>
  have h1 := hc.bool_inv
  subst h1
  cases op <;> simp [opUn] at h
  subst h; exact ⟨_, .bool _, by simp [Op.unary]⟩

theorem opIdx_run {t e : TypeId} {sz len : Nat} {g : Option Nat} (ht : P.underlying t = some (.array len e)) (hs : sizeT P e = some sz) (hg : agT P e = some g) {c d r : AV} {vc vd : Value} (hc : Rep w μ A c vc) (hd : Rep w μ A d vd)
  (h : opIdx sz len g c d = some r) : ∃ u, Rep w μ A r u ∧ (Instr.index t vc vd).run P w = .ok u w := by
 cases c <;> try (simp [opIdx] at h; done)
 case agg cs =>
  cases d <;> try (simp [opIdx] at h; done)
  case int k i =>
   have h1 := hd.int_inv
   subst h1
   obtain ⟨vs, rfl, hv⟩ := hc.agg_inv
   simp only [opIdx] at h
   split at h
   ·rename_i hi
    obtain ⟨u, hu, hr⟩ := zye1 hg hv (i.toNat * sz) h w
    exact ⟨u, hu, by simp [Instr.index, asIntOf, zyfk t ht, hi, zyfi e hs, hr]⟩
   ·cases h

theorem zydp {t : TypeId} (ht : P.underlying t = some .string) {c d r : AV} {vc vd : Value} (hc : Rep w μ A c vc) (hd : Rep w μ A d vd) (h : zydo c d = some r) : ∃ u, Rep w μ A r u ∧ (Instr.index t vc vd).run P w = .ok u w := by
 cases c <;> try (simp [zydo] at h; done)
 case str s =>
  cases d <;> try (simp [zydo] at h; done)
  case int k i =>
   have h1 := hd.int_inv
   have h2 := hc.str_inv
   subst h1; subst h2
   simp only [zydo] at h
   split at h
   ·rename_i hi
    simp only [Option.map_eq_some_iff] at h
    obtain ⟨b, hb, rfl⟩ := h
    refine ⟨_, .int _ _, ?_⟩
    have hb' : s[i.toNat]? = some b := by
     have hl : i.toNat < s.data.size := by
      rcases Nat.lt_or_ge i.toNat s.data.size with h | h
      ·exact h
      ·rw [Array.getElem?_eq_none h] at hb; cases hb
     have : s[i.toNat]? = some s[i.toNat] := getElem?_pos s i.toNat hl
     rw [this]
     rw [Array.getElem?_eq_getElem hl] at hb
     exact hb
    simp [Instr.index, asIntOf, zyfk t ht, hi, hb']
   ·cases h

theorem zyd2 {s : TypeId} {f : Nat} {d : Field} {n : Nat} (hf : zy5d P s f = some d) (hn : sizeT P d.type = some n) (h0 : n ≠ 0) {hp : Heap} (hh : HRep w μ A hp) {c r : AV} {v : Value} (hc : Rep w μ A c v) (h : zyd1 d.offset c = some r) :
  ∃ u, Rep w μ A r u ∧ (Instr.fieldAt s v f).run P w = .ok u w := by
 obtain ⟨fs, hu, hfs⟩ : ∃ fs, P.underlying s = some (.struct fs) ∧ fs[f]? = some d := by
  unfold zy5d at hf
  split at hf
  ·rename_i fs hu; exact ⟨fs, hu, hf⟩
  ·cases hf
 have run : ∀ a : Addr, (Instr.fieldAt s (.pointer (some a)) f).run P w = .ok (.pointer (some (a.add d.offset))) w := fun a => by
  simp [Instr.fieldAt, zyfk s hu, hfs, Instr.sureAddr, fieldPlace, zyfi d.type hn, h0]
 cases c <;> try (simp [zyd1] at h; done)
 case ip cs =>
  cases h
  cases hc with
  | ip _ a val h0 h1 h2 h3 =>
   obtain ⟨d2, d3⟩ := zy4h h0 d.offset h2 h3
   exact ⟨_, .ip _ (a.add d.offset) (fun j => val (d.offset + j)) (fun hn => zy0b (h0 (fun e => hn (by rw [e]; simp))) _) (fun hn => by rw [add_block]; exact h1 (fun e => hn (by rw [e]; simp))) d2 d3, run a⟩
 case rp id off =>
  cases h
  cases hc with
  | rp _ _ x h0 h1 =>
   refine ⟨.pointer (some (x.add d.offset)), .rp _ _ _ h0 fun b r hb => ?_, run x⟩
   obtain ⟨hs, this⟩ := h1 b r hb
   subst this
   exact ⟨hs, zy0a hs _ _⟩

theorem live_of {h : Heap} (hh : HRep w μ A h) {id : Nat} {b : Addr} {r : Nat} (hb : μ[id]? = some (some (b, r))) : ∃ cs, live h id = some cs := by
 have := hh.liv id
 rw [hb] at this
 simp at this
 obtain ⟨cs, hl⟩ := Option.isSome_iff_exists.1 this
 exact ⟨cs, hl⟩

theorem zydi {t e : TypeId} {sz : Nat} (ht : P.underlying t = some (.slice e)) (hs : sizeT P e = some sz) {hp : Heap} (hh : HRep w μ A hp) {c d r : AV} {vc vd : Value} (hc : Rep w μ A c vc) (hd : Rep w μ A d vd)
  (h : zydh sz c d = some r) : ∃ u, Rep w μ A r u ∧ (Instr.indexAt t vc vd).run P w = .ok u w := by
 have run : ∀ (a : Addr) (k : IntKind) (i : Int) (n cap : Nat), 0 ≤ i ∧ i < (n : Int) → (Instr.indexAt t (.slice (some a) n cap) (.int k i)).run P w = .ok (.pointer (some (a.add (i.toNat * sz)))) w := fun a k i n cap hi => by
  simp [Instr.indexAt, asIntOf, zyfk t ht, hi, zyfi e hs]
 cases c <;> try (simp [zydh] at h; done)
 case is n full cs =>
  cases d <;> try (simp [zydh] at h; done)
  case int k i =>
   have h1 := hd.int_inv
   subst h1
   simp only [zydh] at h
   split at h
   ·rename_i hi
    cases h
    cases hc with
    | nils f => omega
    | is _ _ _ a cap val h0 h1 h2 h3 h4 h5 =>
     obtain ⟨d2, d3⟩ := zy4h h0 (i.toNat * sz) h2 h3
     exact ⟨_, .ip _ (a.add (i.toNat * sz)) (fun j => val (i.toNat * sz + j)) (fun hn => zy0b (h0 (fun e => hn (by rw [e]; simp))) _) (fun hn => by rw [add_block]; exact h1 (fun e => hn (by rw [e]; simp))) d2 d3, run a k i n cap hi⟩
   ·cases h
 case rs sz' id off n =>
  cases d <;> try (simp [zydh] at h; done)
  case int k i =>
   have h1 := hd.int_inv
   subst h1
   simp only [zydh] at h
   split at h
   ·rename_i hi
    obtain ⟨rfl, hi⟩ := hi
    cases h
    cases hc with
    | rs _ _ _ _ x cap h0 h1 h2 h3 =>
     refine ⟨_, .rp _ _ (x.add (i.toNat * sz)) h0 fun b r hb => ?_, run x k i n cap hi⟩
     obtain ⟨hsp, hx, _⟩ := h2 b r hb
     exact ⟨hsp, by rw [hx (by omega), zy0a hsp]⟩
   ·cases h

theorem zycq {t e : TypeId} {sz len : Nat} (ht : P.underlying t = some (.array len e)) (hs : sizeT P e = some sz) {hp : Heap} (hh : HRep w μ A hp) {c d r : AV} {vc vd : Value} (hc : Rep w μ A c vc) (hd : Rep w μ A d vd)
  (h : zycp sz len c d = some r) : ∃ u, Rep w μ A r u ∧ (Instr.indexAt t vc vd).run P w = .ok u w := by
 have run : ∀ (a : Addr) (k : IntKind) (i : Int), 0 ≤ i ∧ i < (len : Int) → (Instr.indexAt t (.pointer (some a)) (.int k i)).run P w = .ok (.pointer (some (a.add (i.toNat * sz)))) w := fun a k i hi => by
  simp [Instr.indexAt, asIntOf, zyfk t ht, hi, zyfi e hs, Instr.sureAddr]
 cases c <;> try (simp [zycp] at h; done)
 case ip cs =>
  cases d <;> try (simp [zycp] at h; done)
  case int k i =>
   have h1 := hd.int_inv
   subst h1
   simp only [zycp] at h
   split at h
   ·rename_i hi
    cases h
    cases hc with
    | ip _ a val h0 h1 h2 h3 =>
     obtain ⟨d2, d3⟩ := zy4h h0 (i.toNat * sz) h2 h3
     exact ⟨_, .ip _ (a.add (i.toNat * sz)) (fun j => val (i.toNat * sz + j)) (fun hn => zy0b (h0 (fun e => hn (by rw [e]; simp))) _) (fun hn => by rw [add_block]; exact h1 (fun e => hn (by rw [e]; simp))) d2 d3, run a k i hi⟩
   ·cases h
 case rp id off =>
  cases d <;> try (simp [zycp] at h; done)
  case int k i =>
   have h1 := hd.int_inv
   subst h1
   simp only [zycp] at h
   split at h
   ·rename_i hi
    cases h
    cases hc with
    | rp _ _ x h0 h1 =>
     refine ⟨_, .rp _ _ (x.add (i.toNat * sz)) h0 fun b r hb => ?_, run x k i hi⟩
     obtain ⟨hsp, hx⟩ := h1 b r hb
     exact ⟨hsp, by rw [hx, zy0a hsp]⟩
   ·cases h

def zy00 (w : World) (μ : Mu) (A : Nat → Prop) : Option AV → Option Value → Prop
 | none, none => True
 | some c, some v => Rep w μ A c v
 | _, _ => False

theorem zy1c {o : Option AV} {v : Option Value} {d m y : Nat} (hr : zy00 w μ A o v) (hb : bnd d o = some m) (code : BoundsCode) (hy : m ≤ y) : (v = none ∧ m = d) ∨ ∃ u, v = some u ∧ (Instr.sliceBound u y code).run P w = .ok m w := by
 cases o with
 | none =>
  cases v with
  | none => left; simp [bnd] at hb; exact ⟨rfl, hb.symm⟩
  | some u => exact hr.elim
 | some c =>
  cases v with
  | none => exact hr.elim
  | some u =>
   right
   cases c <;> try (simp [bnd] at hb; done)
   case int k i =>
    have h1 := Rep.int_inv hr
    subst h1
    simp only [bnd] at hb
    split at hb
    ·rename_i hi
     cases hb
     exact ⟨_, rfl, by simp [Instr.sliceBound, asIntOf]; omega⟩
    ·cases hb

theorem zygc {lo hi mx : Option AV} {vl vh vm : Option Value} (hl : zy00 w μ A lo vl) (hh : zy00 w μ A hi vh) (hm : zy00 w μ A mx vm) {n cap l hh' m : Nat} (bs : Bool) (hcap : n ≤ cap) (hmx : mx.isSome = true → hi.isSome = true)
  (eh : bnd n hi = some hh') (em : bnd n mx = some m) (el : bnd 0 lo = some l) (h1 : l ≤ hh') (h2 : hh' ≤ m) (h3 : m ≤ n) :
  (Instr.sliceBounds bs n cap vl vh vm).run P w = .ok (l, hh', if vm.isSome then m else cap) w := by
 unfold Instr.sliceBounds
 rcases zy1c (P := P) hm em (if bs then .slice3Acap else .slice3Alen) (y := cap) (by omega) with ⟨rfl, rfl⟩ | ⟨um, rfl, rm⟩
 ·rcases zy1c (P := P) hh eh (if bs then .sliceAcap else .sliceAlen) (y := cap) (by omega) with ⟨rfl, rfl⟩ | ⟨uh, rfl, rh⟩
  ·rcases zy1c (P := P) hl el .sliceB (y := hh') h1 with ⟨rfl, rfl⟩ | ⟨ul, rfl, rl⟩
   ·simp
   ·simp [rl]
  ·rcases zy1c (P := P) hl el .sliceB (y := hh') h1 with ⟨rfl, rfl⟩ | ⟨ul, rfl, rl⟩
   ·simp [rh]
   ·simp [rh, rl]
 ·have hs : hi.isSome = true := hmx (by cases mx with | none => exact hm.elim | some c => rfl)
  rcases zy1c (P := P) hh eh .slice3B (y := m) h2 with ⟨rfl, rfl⟩ | ⟨uh, rfl, rh⟩
  ·cases hi with
   | none => cases hs
   | some c => exact hh.elim
  ·rcases zy1c (P := P) hl el .slice3C (y := hh') h1 with ⟨rfl, rfl⟩ | ⟨ul, rfl, rl⟩
   ·simp [rm, rh]
   ·simp [rm, rh, rl]

theorem zydj {t e : TypeId} {sz : Nat} (ht : P.underlying t = some (.slice e)) (hs : sizeT P e = some sz) {hp : Heap} (hh : HRep w μ A hp) {c r : AV} {v : Value} {lo hi mx : Option AV} {vl vh vm : Option Value}
  (hc : Rep w μ A c v) (hl : zy00 w μ A lo vl) (hhi : zy00 w μ A hi vh) (hm : zy00 w μ A mx vm) (hmx : mx.isSome = true → hi.isSome = true) (h : opSlc sz c lo hi mx = some r) :
  ∃ u, Rep w μ A r u ∧ (Instr.sliceAt t v vl vh vm).run P w = .ok u w := by
 have hsm : vm.isSome = mx.isSome := by cases mx <;> cases vm <;> first | rfl | exact hm.elim
 have run : ∀ (a : Option Addr) (n cap l hh' m : Nat), (Instr.sliceBounds true n cap vl vh vm).run P w = .ok (l, hh', m) w →
   (Instr.sliceAt t (.slice a n cap) vl vh vm).run P w = .ok (.slice (if m = l then a else a.map (·.add (l * sz))) (hh' - l) (m - l)) w := fun a n cap l hh' m hb => by
  simp [Instr.sliceAt, Instr.slice, zyfk t ht, hb, zyfi e hs]
 cases c <;> try (simp [opSlc] at h; done)
 case is n full cs =>
  simp only [opSlc, Option.bind_eq_some_iff] at h
  obtain ⟨hh', eh, m, em, l, el, h⟩ := h
  split at h
  case isFalse => cases h
  rename_i hb
  obtain ⟨b1, b2, b3⟩ := hb
  cases h
  cases hc with
  | nils f =>
   have hb := zygc (P := P) hl hhi hm true (cap := 0) (Nat.le_refl 0) hmx eh em el b1 b2 b3
   refine ⟨_, ?_, run none 0 0 l hh' _ hb⟩
   have : hh' = 0 := by omega
   subst this
   have : l = 0 := by omega
   subst this
   have : m = 0 := by omega
   subst this
   simp only [Nat.sub_self, List.take_nil, List.drop_nil]
   have : (if (if vm.isSome = true then 0 else 0) = 0 then (none : Option Addr) else (none : Option Addr).map (·.add (0 * sz))) = none := by split <;> rfl
   simp only [this]
   have : ((if vm.isSome = true then 0 else 0) : Nat) - 0 = 0 := by split <;> rfl
   simp only [this]
   exact .nils _
  | is _ _ _ a cap val h0 h1 h2 h3 h4 h5 =>
   have hb := zygc (P := P) hl hhi hm true h4 hmx eh em el b1 b2 b3
   refine ⟨_, ?_, run (some a) n cap l hh' _ hb⟩
   rw [hsm]
   have hmm : m ≤ (if mx.isSome = true then m else cap) := by split <;> omega
   generalize hM : (if mx.isSome = true then m else cap) = M at hmm
   have hfull : zy6b mx full hh' m n = true → M - l = hh' - l := by
    intro hf
    cases mx with
    | some _ => simp [zy6b] at hM hf; omega
    | none => simp [zy6b] at hM hf; have := h5 hf.1; omega
   have h0' : cs.take (hh' * sz) ≠ [] → a.spot = none := fun hn => h0 (fun e => hn (by rw [e]; simp))
   have d := zy4h (cs := cs.take (hh' * sz)) h0' (l * sz) (fun j c hj => by
    rw [List.getElem?_take] at hj
    split at hj
    ·exact h2 j c hj
    ·cases hj) (fun j c hj => by
    rw [List.getElem?_take] at hj
    split at hj
    ·exact h3 j c hj
    ·cases hj)
   by_cases hMl : M = l
   ·rw [if_pos hMl]
    have : hh' = l := by omega
    subst this
    have hnil : (cs.take (hh' * sz)).drop (hh' * sz) = [] := List.drop_eq_nil_of_le (by simp; omega)
    rw [hnil]
    exact .is _ _ [] a _ val (fun h => absurd rfl h) (fun h => absurd rfl h) (fun j c h => by simp at h) (fun j c h => by simp at h) (by omega) hfull
   ·rw [if_neg hMl]
    exact .is _ _ _ (a.add (l * sz)) _ (fun j => val (l * sz + j)) (fun hn => zy0b (h0' (fun e => hn (by rw [e]; simp))) _) (fun hn => by rw [add_block]; exact h1 (fun e => hn (by rw [e]; simp))) d.1 d.2 (by omega) hfull
 case rs sz' id off n =>
  simp only [opSlc, Option.bind_eq_some_iff] at h
  obtain ⟨hh', eh, m, em, l, el, h⟩ := h
  split at h
  case isFalse => cases h
  rename_i hb
  obtain ⟨rfl, b1, b2, b3⟩ := hb
  cases h
  cases hc with
  | rs _ _ _ _ x cap h0 h1 h2 h3 =>
   have hb := zygc (P := P) hl hhi hm true h1 hmx eh em el b1 b2 b3
   refine ⟨_, ?_, run (some x) n cap l hh' _ hb⟩
   have hmm : m ≤ (if vm.isSome = true then m else cap) := by split <;> omega
   have hmc : (if vm.isSome = true then m else cap) ≤ cap := by split <;> omega
   generalize hM : (if vm.isSome = true then m else cap) = M at hmm hmc
   have key : ∀ (b : Addr) (r : Nat), μ[id]? = some (some (b, r)) → off + l * sz + (M - l) * sz ≤ r := fun b r hb' => by
    have := (h2 b r hb').2.2
    have h7 : (l + (M - l)) * sz ≤ cap * sz := Nat.mul_le_mul_right _ (by omega)
    rw [Nat.add_mul] at h7
    omega
   by_cases hMl : M = l
   ·rw [if_pos hMl]
    exact .rs _ _ _ _ x _ h0 (by omega) (fun b r hb' => ⟨(h2 b r hb').1, fun hne => absurd (by omega) hne, key b r hb'⟩) h3
   ·rw [if_neg hMl]
    refine .rs _ _ _ _ (x.add (l * sz)) _ h0 (by omega) (fun b r hb' => ⟨(h2 b r hb').1, fun _ => ?_, key b r hb'⟩) (zy0b h3 _)
    obtain ⟨hsp, hx, _⟩ := h2 b r hb'
    rw [hx (by omega), zy0a hsp]

theorem zygb {lo hi : Option AV} {vl vh : Option Value} (hl : zy00 w μ A lo vl) (hh : zy00 w μ A hi vh) {n cap l hh' : Nat} (bs : Bool)
  (eh : bnd n hi = some hh') (el : bnd 0 lo = some l) (h1 : l ≤ hh') (h2 : hh' ≤ cap) : (Instr.sliceBounds bs n cap vl vh none).run P w = .ok (l, hh', cap) w := by
 unfold Instr.sliceBounds
 rcases zy1c (P := P) hh eh (if bs then .sliceAcap else .sliceAlen) (y := cap) (by omega) with ⟨rfl, rfl⟩ | ⟨uh, rfl, rh⟩
 ·rcases zy1c (P := P) hl el .sliceB (y := hh') h1 with ⟨rfl, rfl⟩ | ⟨ul, rfl, rl⟩
  ·simp
  ·simp [rl]
 ·rcases zy1c (P := P) hl el .sliceB (y := hh') h1 with ⟨rfl, rfl⟩ | ⟨ul, rfl, rl⟩
  ·simp [rh]
  ·simp [rh, rl]

theorem zydk {t e : TypeId} {sz : Nat} (ht : P.underlying t = some (.slice e)) (hs : sizeT P e = some sz) {hp : Heap} (hh : HRep w μ A hp) {c r : AV} {v : Value} {lo hi : Option AV} {vl vh : Option Value}
  (hc : Rep w μ A c v) (hl : zy00 w μ A lo vl) (hhi : zy00 w μ A hi vh) (h : opSlcc sz c lo hi = some r) :
  ∃ u, Rep w μ A r u ∧ (Instr.sliceAt t v vl vh none).run P w = .ok u w := by
 have run : ∀ (a : Option Addr) (n cap l hh' m : Nat), (Instr.sliceBounds true n cap vl vh none).run P w = .ok (l, hh', m) w →
   (Instr.sliceAt t (.slice a n cap) vl vh none).run P w = .ok (.slice (if m = l then a else a.map (·.add (l * sz))) (hh' - l) (m - l)) w := fun a n cap l hh' m hb => by
  simp [Instr.sliceAt, Instr.slice, zyfk t ht, hb, zyfi e hs]
 have main : ∀ (id off n k l hh' : Nat) (x : Addr) (cap : Nat), id < μ.length → n ≤ cap → (∀ (b : Addr) (r : Nat), μ[id]? = some (some (b, r)) → b.spot = none ∧ (cap ≠ 0 → x = b.add off) ∧ off + cap * sz ≤ r) → x.spot = none → k ≤ cap →
   bnd n hi = some hh' → bnd 0 lo = some l → l ≤ hh' → hh' ≤ k → ∃ u, Rep w μ A (.rc sz id (off + l * sz) (hh' - l) (k - l)) u ∧ (Instr.sliceAt t (.slice (some x) n cap) vl vh none).run P w = .ok u w := by
  intro id off n k l hh' x cap h0 h1 h2 h3 h4 eh el b1 b2
  have hb := zygb (P := P) hl hhi true (cap := cap) eh el b1 (by omega)
  refine ⟨_, ?_, run (some x) n cap l hh' _ hb⟩
  have key : ∀ (b : Addr) (r : Nat), μ[id]? = some (some (b, r)) → off + l * sz + (cap - l) * sz ≤ r := fun b r hb' => by
   have := (h2 b r hb').2.2
   have h7 : (l + (cap - l)) * sz ≤ cap * sz := Nat.mul_le_mul_right _ (by omega)
   rw [Nat.add_mul] at h7
   omega
  by_cases hMl : cap = l
  ·rw [if_pos hMl]
   exact .rc _ _ _ _ _ x _ h0 (by omega) (fun b r hb' => ⟨(h2 b r hb').1, fun hne => absurd (by omega) hne, key b r hb'⟩) h3 (by omega)
  ·rw [if_neg hMl]
   refine .rc _ _ _ _ _ (x.add (l * sz)) _ h0 (by omega) (fun b r hb' => ⟨(h2 b r hb').1, fun _ => ?_, key b r hb'⟩) (zy0b h3 _) (by omega)
   obtain ⟨hsp, hx, _⟩ := h2 b r hb'
   rw [hx (by omega), zy0a hsp]
 have other : opSlc sz c lo hi none = some r → ∃ u, Rep w μ A r u ∧ (Instr.sliceAt t v vl vh none).run P w = .ok u w := fun h => zydj (P := P) ht hs hh hc hl hhi (mx := none) (vm := none) trivial (by simp) h
 cases c <;> try exact other h
 case rs sz' id off n =>
  simp only [opSlcc, Option.bind_eq_some_iff] at h
  obtain ⟨hh', eh, l, el, h⟩ := h
  split at h
  case isFalse => cases h
  rename_i hb
  obtain ⟨rfl, b1, b2⟩ := hb
  cases h
  cases hc with
  | rs _ _ _ _ x cap h0 h1 h2 h3 => exact main id off n n l hh' x cap h0 h1 h2 h3 h1 eh el b1 b2
 case rc sz' id off n k =>
  simp only [opSlcc, Option.bind_eq_some_iff] at h
  obtain ⟨hh', eh, l, el, h⟩ := h
  split at h
  case isFalse => cases h
  rename_i hb
  obtain ⟨rfl, b1, b2⟩ := hb
  cases h
  cases hc with
  | rc _ _ _ _ _ x cap h0 h1 h2 h3 h4 => exact main id off n k l hh' x cap h0 h1 h2 h3 h4 eh el b1 b2

theorem zycu {t e : TypeId} {sz len : Nat} (ht : P.underlying t = some (.array len e)) (hs : sizeT P e = some sz) {hp : Heap} (hh : HRep w μ A hp) {c r : AV} {v : Value} (hc : Rep w μ A c v) (h : zycs hp sz len c = some r) :
  ∃ u, Rep w μ A r u ∧ (Instr.sliceAt t v none none none).run P w = .ok u w := by
 have run : ∀ (a : Addr), (Instr.sliceAt t (.pointer (some a)) none none none).run P w = .ok (.slice (some a) len len) w := fun a => by
  simp [Instr.sliceAt, Instr.sliceBounds, zyfk t ht, zyfi e hs, Instr.sureAddr, add_zero]
 cases c <;> try (simp [zycs] at h; done)
 case ip cs =>
  simp only [zycs] at h
  split at h
  ·rename_i hl
   cases h
   cases hc with
   | ip _ a val h0 h1 h2 h3 =>
    have hne : cs.take (len * sz) ≠ [] → cs ≠ [] := fun h e => h (by rw [e]; simp)
    have hg : ∀ (j : Nat) (c : AV), (cs.take (len * sz))[j]? = some c → cs[j]? = some c := fun j c hj => by
     rw [List.getElem?_take] at hj
     split at hj
     ·exact hj
     ·cases hj
    exact ⟨_, .is _ _ _ a len val (fun h => h0 (hne h)) (fun h => h1 (hne h)) (fun j c hj => h2 j c (hg j c hj)) (fun j c hj => h3 j c (hg j c hj)) (Nat.le_refl _) (fun _ => rfl), run a⟩
  ·cases h
 case rp id off =>
  simp only [zycs, Option.bind_eq_some_iff] at h
  obtain ⟨cs, hcs, h⟩ := h
  split at h
  ·rename_i hl
   cases h
   cases hc with
   | rp _ _ x h0 h1 =>
    have hlv := hh.liv id
    rw [hcs] at hlv
    obtain ⟨⟨b, r⟩, hb⟩ : ∃ y, μ[id]? = some (some y) := by
     cases hm : μ[id]? with
     | none => rw [hm] at hlv; cases hlv
     | some y => cases y with
      | none => rw [hm] at hlv; cases hlv
      | some y => exact ⟨y, rfl⟩
    obtain ⟨hsp, hx⟩ := h1 b r hb
    obtain ⟨_, hle, _⟩ := hh.blk id cs b r hcs hb hsp
    refine ⟨_, .rs sz id off len x len h0 (Nat.le_refl _) (fun b' r' hb' => ?_) (by rw [hx]; exact zy0b hsp _), run x⟩
    rw [hb] at hb'
    cases hb'
    exact ⟨hsp, fun _ => hx, by omega⟩
  ·cases h

theorem zydl {t : TypeId} (ht : P.underlying t = some .string) {c r : AV} {v : Value} {lo hi : Option AV} {vl vh : Option Value} (hc : Rep w μ A c v) (hl : zy00 w μ A lo vl) (hhi : zy00 w μ A hi vh) (h : opSlcs c lo hi = some r) :
  ∃ u, Rep w μ A r u ∧ (Instr.sliceAt t v vl vh none).run P w = .ok u w := by
 cases c <;> try (simp [opSlcs] at h; done)
 case str s =>
  have h1 := hc.str_inv
  subst h1
  simp only [opSlcs, Option.bind_eq_some_iff] at h
  obtain ⟨hh', eh, l, el, h⟩ := h
  split at h
  case isFalse => cases h
  rename_i hb
  cases h
  have hb := zygc (P := P) (mx := none) (vm := none) hl hhi trivial false (Nat.le_refl s.size) (fun h => by cases h) eh rfl el hb.1 hb.2 (Nat.le_refl _)
  exact ⟨_, .str _, by simp [Instr.sliceAt, Instr.slice, zyfk t ht, hb]⟩

theorem zyd3 {t : TypeId} {b : Bool} (ht : bif b then P.underlying t = some .string else ∃ e, P.underlying t = some (.slice e)) {c r : AV} {v : Value} (hc : Rep w μ A c v) (h : opLen b c = some r) (ts : Array TypeId) (ty : TypeId) (h0 : ts[0]? = some t) :
  ∃ u, Rep w μ A r u ∧ (Builtin.len_ ts ty #[v]).run P w = .ok u w := by
 cases b
 ·obtain ⟨e, ht⟩ := ht
  cases c <;> try (simp [opLen] at h; done)
  case is n full cs =>
   cases h
   cases hc with
   | nils f => exact ⟨_, .int _ _, by simp [Builtin.len_, h0, zyfk t ht, goInt]⟩
   | is => exact ⟨_, .int _ _, by simp [Builtin.len_, h0, zyfk t ht, goInt]⟩
  case rs sz id off n =>
   cases h
   cases hc with
   | rs => exact ⟨_, .int _ _, by simp [Builtin.len_, h0, zyfk t ht, goInt]⟩
  case rc sz id off n k =>
   cases h
   cases hc with
   | rc => exact ⟨_, .int _ _, by simp [Builtin.len_, h0, zyfk t ht, goInt]⟩
 ·simp only [cond_true] at ht
  cases c <;> try (simp [opLen] at h; done)
  case str s =>
   cases h
   have h1 := hc.str_inv
   subst h1
   exact ⟨_, .int _ _, by simp [Builtin.len_, h0, zyfk t ht, goInt]⟩

theorem mm2_run {mx : Bool} {c d r : AV} {vc vd : Value} (hc : Rep w μ A c vc) (hd : Rep w μ A d vd) (h : mm2 mx c d = some r) :
  ∃ u, Rep w μ A r u ∧ ((if mx = true then Builtin.max2 vc vd else Builtin.min2 vc vd)).run P w = .ok u w := by
 cases c <;> try (simp [mm2] at h; done)
 case int k x =>
  cases d <;> try (simp [mm2] at h; done)
  case int k' y =>
   have h1 := hc.int_inv
   have h2 := hd.int_inv
   subst h1; subst h2
   simp only [mm2, Option.some.injEq] at h
   subst h
   cases mx
   ·exact ⟨_, .int _ _, by simp [Builtin.min2]⟩
   ·exact ⟨_, .int _ _, by simp [Builtin.max2]⟩

theorem mmL_run (mx : Bool) : ∀ (l : List AV) (vs : List Value) (c r : AV) (v : Value), Rep w μ A c v → RepL w μ A l vs → mmL mx c l = some r →
  ∃ u, Rep w μ A r u ∧ (vs.foldlM (if mx = true then Builtin.max2 else Builtin.min2) v).run P w = .ok u w
 | [], vs, c, r, v, hc, hl, h => by
  have : vs = [] := List.length_eq_zero_iff.1 hl.1
  subst this
  cases h
  exact ⟨v, hc, rfl⟩
 | y :: l, [], c, r, v, hc, hl, h => by have := hl.1; simp at this
 | y :: l, vy :: vs, c, r, v, hc, hl, h => by
  simp only [mmL, Option.bind_eq_some_iff] at h
  obtain ⟨z, hz, h⟩ := h
  obtain ⟨u, hu, hr⟩ := mm2_run (P := P) hc hl.head hz
  obtain ⟨u', hu', hr'⟩ := mmL_run mx l vs z r u hu hl.tail h
  refine ⟨u', hu', ?_⟩
  rw [List.foldlM_cons]
  have : ((if mx = true then Builtin.max2 else Builtin.min2) v vy).run P w = .ok u w := by
   rw [← hr]; cases mx <;> rfl
  simp only [Sem.run_bind, this, Result.andThen_ok]
  exact hr'

theorem zyda {mx : Bool} {l : List AV} {vs : List Value} {r : AV} (hl : RepL w μ A l vs) (h : opMm mx l = some r) (ts : Array TypeId) (ty : TypeId) :
  ∃ u, Rep w μ A r u ∧ (if mx = true then Builtin.max_ ts ty vs.toArray else Builtin.min_ ts ty vs.toArray).run P w = .ok u w := by
 cases l with
 | nil => cases h
 | cons x l =>
  cases vs with
  | nil => have := hl.1; simp at this
  | cons v vs =>
   obtain ⟨u, hu, hr⟩ := mmL_run (P := P) mx l vs x r v hl.head hl.tail h
   refine ⟨u, hu, ?_⟩
   rw [← hr]
   cases mx
   ·simp [Builtin.min_]
   ·simp [Builtin.max_]

theorem opExt_run {i : Nat} {c r : AV} {v : Value} (hc : Rep w μ A c v) (h : opExt i c = some r) : ∃ u, Rep w μ A r u ∧ (Instr.extract v i).run P w = .ok u w := by
 cases c <;> try (simp [opExt] at h; done)
 case tup cs =>
  obtain ⟨vs, rfl, hv⟩ := hc.tup_inv
  obtain ⟨u, hu, hr⟩ := hv.get h
  exact ⟨u, hr, by simp [Instr.extract, hu]⟩

def nchkSem (v : Value) : Sem Next :=
 match v with
 | .pointer none | .nilIface | .nilFunc => runtimePanic .nilDeref
 | .func (.method name) first captured =>
  match (first[0]? : Option Value) with
  | some .nilIface => runtimePanic .nilDeref
  | some (.iface t w) => do
   if (← nilAhead ((← program).types.size + Made.depth) t w name) != some false then
    unsupported (.noEntry "op/nilCheck.the method's receiver behind this interface value is a nil pointer, or cannot be seen to be none, and the arguments act or may panic (ledger 612)")
   pure (.value (.func (.method name) first captured))
  | _ => pure (.value (.func (.method name) first captured))
 | x => pure (.value x)

theorem zydc {c r : AV} {v : Value} (hc : Rep w μ A c v) (h : zydb c = some r) : r = c ∧ (nchkSem v).run P w = .ok (.value v) w := by
 cases hc <;> simp [zydb] at h <;> (refine ⟨h.symm, ?_⟩; rfl)

theorem zy2h {g : Nat} {fn : Func} {nm : String} {f : Array Value → Sem Value} (hg : P.funcs[g]? = some fn) (hb : fn.body = none) (hn : fn.name = nm) (ho : fn.origin = "") (h1 : (nm == "runtime.NumGoroutine") = false)
  (hN : Extern.allNextRows.lookup nm = none) (hN' : Extern.allNextRows.lookup "" = none) (hG : Extern.allGenericRows.lookup nm = none) (hT : Extern.allTypedRows.lookup nm = none) (hA : Extern.allRows.lookup nm = some f)
  {args : Array Value} {v : Value} (hr : (f args).run P w = .ok v w) : (callFunc g args).run P w = .ok (.value v) w := by
 have e1 : Extern.findNext fn = none := by unfold Extern.findNext; simp only [hn, ho, hN, hN']; rfl
 have e2 : Extern.find fn = some f := by unfold Extern.find; simp only [hn, hG, hT, hA]; rfl
 unfold callFunc
 have h1' : ¬ nm = "runtime.NumGoroutine" := by simpa using h1
 simp [hg, hb, hn, e1, e2, hr, h1']

theorem noNext : Extern.allNextRows.lookup "" = none := by kernel_rfl

theorem zyha (nm : String) (k k' k'' : IntKind) (x y c : Int) (h : ¬ (c.toNat > 1)) : (Extern.MathBitsCarry.three nm #[.int k x, .int k' y, .int k'' c]).run P w = .ok (x.toNat, y.toNat, c.toNat) w := by
 have e : Extern.MathBitsCarry.three nm #[.int k x, .int k' y, .int k'' c] = (do
   let c := (← asInt (.int k'' c)).toNat
   if c > 1 then unsupported (.noEntry ("extern/math/bits." ++ nm ++ ": a carry that is neither 0 nor 1"))
   pure ((← asInt (.int k x)).toNat, (← asInt (.int k' y)).toNat, c)) := rfl
 rw [e]
 simp [asInt, asIntOf, h]
 omega

theorem add64_run {x y c r : AV} {vx vy vc : Value} (hx : Rep w μ A x vx) (hy : Rep w μ A y vy) (hc : Rep w μ A c vc) (h : zyco x y c = some r) {g : Nat} {fn : Func} (hg : P.funcs[g]? = some fn) (hb : fn.body = none) (hn : fn.name = "math/bits.Add64") (ho : fn.origin = "") :
  ∃ u, Rep w μ A r u ∧ (callFunc g #[vx, vy, vc]).run P w = .ok (.value u) w := by
 cases x <;> try (simp [zyco] at h; done)
 case int k x =>
  cases y <;> try (simp [zyco] at h; done)
  case int k' y =>
   cases c <;> try (simp [zyco] at h; done)
   case int k'' c =>
    have h1 := hx.int_inv
    have h2 := hy.int_inv
    have h3 := hc.int_inv
    subst h1; subst h2; subst h3
    simp only [zyco] at h
    split at h
    case isFalse => cases h
    rename_i hc1
    cases h
    have hc2 : ¬ (c.toNat > 1) := by omega
    refine ⟨.tuple [.int .u64 (((x.toNat + y.toNat + c.toNat) % 2 ^ 64 : Nat) : Int), .int .u64 (((x.toNat + y.toNat + c.toNat) / 2 ^ 64 : Nat) : Int)].toArray, .tup _ _ rfl fun j c v hj hv => ?_, ?_⟩
    ·match j with
     | 0 => simp at hj hv; subst hj; subst hv; exact .int _ _
     | 1 => simp at hj hv; subst hj; subst hv; exact .int _ _
     | j + 2 => simp at hj
    ·refine zy2h hg hb hn ho (by decide) (by kernel_rfl) noNext (by kernel_rfl) (by kernel_rfl) (f := fun args => do
      let (x, y, c) ← Extern.MathBitsCarry.three "Add64" args
      pure (Extern.MathBitsCarry.pair ((x + y + c) % Extern.MathBitsCarry.m64) ((x + y + c) / Extern.MathBitsCarry.m64))) (by kernel_rfl) ?_
     simp only [Sem.run_bind, zyha _ _ _ _ _ _ _ hc2, Result.andThen_ok, Sem.run_pure]
     rfl

theorem sub64_run {x y c r : AV} {vx vy vc : Value} (hx : Rep w μ A x vx) (hy : Rep w μ A y vy) (hc : Rep w μ A c vc) (h : zydq x y c = some r) {g : Nat} {fn : Func} (hg : P.funcs[g]? = some fn) (hb : fn.body = none) (hn : fn.name = "math/bits.Sub64") (ho : fn.origin = "") :
  ∃ u, Rep w μ A r u ∧ (callFunc g #[vx, vy, vc]).run P w = .ok (.value u) w := by
 cases x <;> try (simp [zydq] at h; done)
 case int k x =>
  cases y <;> try (simp [zydq] at h; done)
  case int k' y =>
   cases c <;> try (simp [zydq] at h; done)
   case int k'' c =>
    have h1 := hx.int_inv
    have h2 := hy.int_inv
    have h3 := hc.int_inv
    subst h1; subst h2; subst h3
    simp only [zydq] at h
    split at h
    case isFalse => cases h
    rename_i hc1
    cases h
    have hc2 : ¬ (c.toNat > 1) := by omega
    refine ⟨.tuple [.int .u64 (((x.toNat + 2 ^ 64 - y.toNat - c.toNat) % 2 ^ 64 : Nat) : Int), .int .u64 (((if x.toNat < y.toNat + c.toNat then 1 else 0) : Nat) : Int)].toArray, .tup _ _ rfl fun j c v hj hv => ?_, ?_⟩
    ·match j with
     | 0 => simp at hj hv; subst hj; subst hv; exact .int _ _
     | 1 => simp at hj hv; subst hj; subst hv; exact .int _ _
     | j + 2 => simp at hj
    ·refine zy2h hg hb hn ho (by decide) (by kernel_rfl) noNext (by kernel_rfl) (by kernel_rfl) (f := fun args => do
      let (x, y, b) ← Extern.MathBitsCarry.three "Sub64" args
      pure (Extern.MathBitsCarry.pair ((x + Extern.MathBitsCarry.m64 - y - b) % Extern.MathBitsCarry.m64) (if x < y + b then 1 else 0))) (by kernel_rfl) ?_
     simp only [Sem.run_bind, zyha _ _ _ _ _ _ _ hc2, Result.andThen_ok, Sem.run_pure]
     rfl

theorem zy5u (off : Nat) : ∀ (l : List Value) (k : Nat) (cs : Array Value), off + k + l.length ≤ cs.size →
  ((l.zipIdx k).foldl (fun cs (c : Value × Nat) => cs.setIfInBounds (off + c.2) c.1) cs).toList = cs.toList.take (off + k) ++ l ++ cs.toList.drop (off + k + l.length)
 | [], k, cs, h => by simp
 | x :: l, k, cs, h => by
  simp only [List.zipIdx_cons, List.foldl_cons]
  rw [zy5u off l (k + 1) _ (by simp at h ⊢; omega)]
  simp only [List.length_cons] at h
  simp only [Array.toList_setIfInBounds, List.length_cons]
  have hn : off + k < cs.toList.length := by simp; omega
  have ht : (cs.toList.take (off + k)).length = off + k := by simp; omega
  have h1 : (cs.toList.set (off + k) x).take (off + (k + 1)) = cs.toList.take (off + k) ++ [x] := by
   rw [List.set_eq_take_append_cons_drop, if_pos hn, show off + (k + 1) = (cs.toList.take (off + k)).length + 1 by rw [ht]; omega, List.take_length_add_append]
   simp
  have h2 : (cs.toList.set (off + k) x).drop (off + (k + 1) + l.length) = cs.toList.drop (off + k + (l.length + 1)) := by
   rw [List.drop_set_of_lt (by omega)]
   congr 1; omega
  rw [h1, h2]
  simp

theorem zy5h (place : Nat → Option (Nat × Nat)) : ∀ (parts : List (Nat × Value)) (pa : List (Nat × Nat × AV)) (cs : List AV) (vs : Array Value) (r : List AV),
  RepL w μ A cs vs.toList → parts.length = pa.length → (∀ (j : Nat) (p : Nat × Value) (q : Nat × Nat × AV), parts[j]? = some p → pa[j]? = some q → place p.1 = some (q.1, q.2.1) ∧ Rep w μ A q.2.2 p.2) → fillA cs pa = some r →
  ∃ us, Instr.fill place vs parts = some us ∧ RepL w μ A r us.toList
 | [], pa, cs, vs, r, hr, hl, hp, h => by
  have : pa = [] := List.length_eq_zero_iff.1 hl.symm
  subst this
  cases h
  exact ⟨vs, rfl, hr⟩
 | (i, v) :: parts, [], cs, vs, r, hr, hl, hp, h => by simp at hl
 | (i, v) :: parts, (off, sz, c) :: pa, cs, vs, r, hr, hl, hp, h => by
  obtain ⟨h1, h2⟩ := hp 0 _ _ rfl rfl
  unfold fillA at h
  split at h
  case isFalse => cases h
  rename_i hc
  obtain ⟨hok, hsz, hoff⟩ := hc
  have hcells := h2.cells (fun e => by have e' : c = .junk := e; rw [e'] at hok; cases hok)
  have hlen : v.cells.size = sz := by have := hcells.1; simp at this; omega
  have hvs : vs.size = cs.length := by have := hr.1; simpa using this
  unfold Instr.fill
  simp only [h1]
  rw [if_neg (by simp; omega)]
  refine zy5h place parts pa _ _ r ?_ (by simpa using hl) (fun j p q hj hq => hp (j + 1) p q (by simpa using hj) (by simpa using hq)) h
  have := zy5u off v.cells.toList 0 vs (by simp; omega)
  rw [show (Array.foldl (fun cs x => match x with | (c, j) => cs.setIfInBounds (off + j) c) vs v.cells.zipIdx).toList = (List.foldl (fun cs (c : Value × Nat) => cs.setIfInBounds (off + c.2) c.1) vs (v.cells.toList.zipIdx 0)).toList by
   rw [← Array.foldl_toList]; simp]
  rw [this]
  simp only [Nat.add_zero, zygd]
  refine ((hr.take off).append hcells).append ?_
  have hd := hr.drop (off + c.cells.length)
  rw [hcells.1]
  exact hd


def valOf (P : Program) (t : TypeId) (vs : List Value) : Value := if zy82 P t = true then .agg vs.toArray else vs.headD default

theorem zye0 {t : TypeId} {g : Option Nat} (h : agT P t = some g) {n : Nat} (hn : sizeT P t = some n) {vs : List Value} (off : Nat) (hl : off + n ≤ vs.length) (h0 : n ≠ 0) (w : World) :
  (part t vs.toArray off).run P w = .ok (valOf P t ((vs.drop off).take n)) w := by
 obtain ⟨⟨d, hd⟩, i, hi, hg⟩ := zy0d h
 unfold part valOf
 simp only [Sem.run_bind, zyff t hd, Result.andThen_ok]
 cases ha : zy82 P t
 ·have h1 : vs[off]? = some vs[off] := List.getElem?_eq_getElem (by omega)
  simp only [Bool.false_eq_true, if_false]
  have : ((vs.drop off).take n).headD default = vs[off] := by
   rw [List.headD_eq_head?_getD, List.head?_take, if_neg h0, List.head?_drop, h1]; rfl
  rw [this]
  simp [h1]
 ·simp only [if_true, Sem.run_bind, zyfi t hn, Result.andThen_ok, Sem.run_pure]
  congr 2
  apply Array.ext'
  simp [List.extract_eq_take_drop]

theorem zy4q : ∀ (L M : List LK) (cs ds : List AV) (b : Bool), zy4n (L ++ M) cs ds = some b → L.length ≤ cs.length → L.length ≤ ds.length →
  (zy4n L (cs.take L.length) (ds.take L.length) = some false ∧ b = false) ∨ (zy4n L (cs.take L.length) (ds.take L.length) = some true ∧ zy4n M (cs.drop L.length) (ds.drop L.length) = some b)
 | [], M, cs, ds, b, h, _, _ => by right; simpa [zy4n] using h
 | k :: L, M, [], ds, b, h, h1, _ => by simp at h1
 | k :: L, M, c :: cs, [], b, h, _, h1 => by simp at h1
 | k :: L, M, c :: cs, d :: ds, b, h, h1, h2 => by
  simp only [List.length_cons, Nat.add_le_add_iff_right] at h1 h2
  simp only [List.cons_append] at h
  cases k with
  | b =>
   cases c <;> cases d <;> simp only [zy4n] at h <;> first | (cases h; done) | skip
   rename_i x y
   cases hxy : (x == y)
   ·rw [hxy] at h; cases h; left; simp [zy4n, hxy]
   ·rw [hxy] at h
    have := zy4q L M cs ds b h h1 h2
    simpa [zy4n, hxy] using this
  | i =>
   cases c <;> cases d <;> simp only [zy4n] at h <;> first | (cases h; done) | skip
   rename_i k x k' y
   by_cases hk : k = k'
   ·subst hk
    simp only [if_true] at h
    cases hxy : (x == y)
    ·rw [hxy] at h; cases h; left; simp [zy4n, hxy]
    ·rw [hxy] at h
     have := zy4q L M cs ds b h h1 h2
     simpa [zy4n, hxy] using this
   ·simp [hk] at h
  | s =>
   cases c <;> cases d <;> simp only [zy4n] at h <;> first | (cases h; done) | skip
   rename_i x y
   cases hxy : (x.toList == y.toList)
   ·rw [hxy] at h; cases h; left; simp [zy4n, hxy]
   ·rw [hxy] at h
    have := zy4q L M cs ds b h h1 h2
    simpa [zy4n, hxy] using this

theorem zy4v : ∀ (k : Nat) (t : TypeId) (L : List LK), leafs P k t = some L → ∀ (d : Nat), k ≤ d → ∀ (cs ds : List AV) (vs us : List Value) (b : Bool), RepL w μ A cs vs → RepL w μ A ds us → cs.length = L.length → ds.length = L.length →
  zy4n L cs ds = some b → (Op.equalIn d t (valOf P t vs) (valOf P t us)).run P w = .ok b w
 | 0, t, L, h, _, _, _, _, _, _, _, _, _, _, _, _ => by cases h
 | k + 1, t, L, h, 0, hd, _, _, _, _, _, _, _, _, _, _ => by omega
 | k + 1, t, L, h, d + 1, hd, cs, ds, vs, us, b, hc, hds, hcl, hdl, he => by
  unfold leafs at h
  have one : ∀ {l : LK}, L = [l] → zy82 P t = false → ∃ c e v u, cs = [c] ∧ ds = [e] ∧ valOf P t vs = v ∧ valOf P t us = u ∧ Rep w μ A c v ∧ Rep w μ A e u := by
   intro l hL ha
   subst hL
   match cs, ds, vs, us, hc, hds, hcl, hdl with
   | [c], [e], [v], [u], hc, hds, _, _ => exact ⟨c, e, v, u, rfl, rfl, by simp [valOf, ha], by simp [valOf, ha], hc.head, hds.head⟩
   | [c], [e], [], us, hc, hds, _, _ => have := hc.1; simp at this
   | [c], [e], [v], [], hc, hds, _, _ => have := hds.1; simp at this
   | [c], [e], v :: v' :: vs, us, hc, hds, _, _ => have := hc.1; simp at this
   | [c], [e], [v], u :: u' :: us, hc, hds, _, _ => have := hds.1; simp at this
  split at h
  ·rename_i hu
   cases h
   obtain ⟨c, e, v, u, rfl, rfl, hv, hu', rc, re⟩ := one rfl (by simp [zy82, hu])
   rw [hv, hu']
   cases c <;> cases e <;> simp only [zy4n] at he <;> first | (cases he; done) | skip
   cases rc; cases re
   rw [run_equalIn_bool' w d t _ _ hu]
   rename_i x y
   cases hxy : (x == y) <;> rw [hxy] at he <;> simp [zy4n] at he <;> rw [he]
  ·rename_i hu
   cases h
   obtain ⟨c, e, v, u, rfl, rfl, hv, hu', rc, re⟩ := one rfl (by simp [zy82, hu])
   rw [hv, hu']
   cases c <;> cases e <;> simp only [zy4n] at he <;> first | (cases he; done) | skip
   cases rc; cases re
   rename_i k1 x k2 y
   split at he
   case isFalse => cases he
   rename_i hk
   subst hk
   rw [run_equalIn_int w d t _ _ _ _ hu]
   cases hxy : (x == y) <;> rw [hxy] at he <;> simp [zy4n] at he <;> rw [he]
  ·rename_i hu
   cases h
   obtain ⟨c, e, v, u, rfl, rfl, hv, hu', rc, re⟩ := one rfl (by simp [zy82, hu])
   rw [hv, hu']
   cases c <;> cases e <;> simp only [zy4n] at he <;> first | (cases he; done) | skip
   cases rc; cases re
   rename_i x y
   rw [run_equalIn_string w d t _ _ hu]
   cases hxy : (x.toList == y.toList) <;> rw [hxy] at he <;> simp [zy4n] at he <;> rw [he]
  ·rename_i fs hu
   split at h
   ·cases h
   rename_i hst
   have hag : zy82 P t = true := by simp [zy82, hu]
   have hfs : P.fieldsOf t = fs := by simp [Program.fieldsOf, hu]
   have hst' : P.stoodInHeld t = false := by simpa using hst
   unfold valOf
   rw [if_pos hag, if_pos hag, run_equalIn_struct w d t _ _ (by rw [hfs]; exact hu) hst', hfs]
   have loop : ∀ (l : List Field) (off : Nat) (M : List LK), leafsF P (leafs P k) l off = some M → off + M.length ≤ cs.length → off + M.length ≤ ds.length → zy4n M (cs.drop off) (ds.drop off) = some b →
     (Op.eqFields d vs.toArray us.toArray l).run P w = .ok b w := by
    intro l
    induction l with
    | nil =>
     intro off M hM _ _ he
     cases hM
     unfold Op.eqFields
     have : b = true := by
      cases hcd : cs.drop off <;> cases hdd : ds.drop off <;> rw [hcd, hdd] at he <;> simp [zy4n] at he
      exact he
     subst this
     rfl
    | cons f l ih =>
     intro off M hM hlc hld he
     unfold leafsF at hM
     split at hM
     ·cases hM
     rename_i hno
     have hname : f.name ≠ "_" := fun e => hno (.inl e)
     have hoff : f.offset = off := Decidable.byContradiction fun e => hno (.inr e)
     cases hl : leafs P k f.type with
     | none => rw [hl] at hM; cases hM
     | some L1 =>
      rw [hl] at hM
      simp only [Option.bind_some] at hM
      split at hM
      case isFalse => cases hM
      rename_i hsz
      obtain ⟨hsz, hag, h0⟩ := hsz
      obtain ⟨g, hg⟩ := Option.isSome_iff_exists.1 hag
      simp only [Option.map_eq_some_iff] at hM
      obtain ⟨M', hM', rfl⟩ := hM
      simp only [List.length_append] at hlc hld
      have hvl := hc.1
      have hul := hds.1
      have e1 := zye0 hg hsz (vs := vs) f.offset (by omega) h0 w
      have e2 := zye0 hg hsz (vs := us) f.offset (by omega) h0 w
      unfold Op.eqFields
      rw [if_pos hname]
      simp only [Sem.run_bind, e1, e2, Result.andThen_ok]
      have hc1 := (hc.drop off).take L1.length
      have hd1 := (hds.drop off).take L1.length
      rw [hoff]
      rcases zy4q L1 M' _ _ b he (by simp; omega) (by simp; omega) with ⟨h1, rfl⟩ | ⟨h1, h2⟩
      ·rw [zy4v k f.type L1 hl d (by omega) _ _ _ _ false hc1 hd1 (by simp; omega) (by simp; omega) h1]
       simp
      ·rw [zy4v k f.type L1 hl d (by omega) _ _ _ _ true hc1 hd1 (by simp; omega) (by simp; omega) h1]
       simp only [Result.andThen_ok, Bool.not_true, Bool.false_eq_true, if_false]
       rw [List.drop_drop, List.drop_drop] at h2
       exact ih (off + L1.length) M' hM' (by omega) (by omega) h2
   exact loop fs.toList 0 L h (by omega) (by omega) (by simpa using he)
  ·rename_i n e hu
   cases hl : leafs P k e with
   | none => rw [hl] at h; cases h
   | some L1 =>
    rw [hl] at h
    simp only [Option.bind_some] at h
    split at h
    case isFalse => cases h
    rename_i hsz
    obtain ⟨hsz, hag1, h0⟩ := hsz
    obtain ⟨g, hg⟩ := Option.isSome_iff_exists.1 hag1
    cases h
    have hag : zy82 P t = true := by simp [zy82, hu]
    obtain ⟨_, i, hi, _⟩ := zy0d hg
    have hce : P.cellsOf e = L1.length := by
     simp only [sizeT, hi, Option.map_some, Option.some.injEq] at hsz
     simp [Program.cellsOf, hi, hsz]
    unfold valOf
    rw [if_pos hag, if_pos hag, run_equalIn_array w d vs.toArray us.toArray hu hi, hce, List.range_eq_range']
    have hlen : ∀ m : Nat, (List.replicate m L1).flatten.length = m * L1.length := fun m => by simp
    have loop : ∀ (m j : Nat), j * L1.length + m * L1.length ≤ cs.length → j * L1.length + m * L1.length ≤ ds.length → zy4n (List.replicate m L1).flatten (cs.drop (j * L1.length)) (ds.drop (j * L1.length)) = some b →
      (Op.eqItems d e L1.length vs.toArray us.toArray (List.range' j m)).run P w = .ok b w := by
     intro m
     induction m with
     | zero =>
      intro j _ _ he
      have : b = true := by
       cases hcd : cs.drop (j * L1.length) <;> cases hdd : ds.drop (j * L1.length) <;> rw [hcd, hdd] at he <;> simp [zy4n] at he
       exact he
      subst this
      rfl
     | succ m ih =>
      intro j hlc hld he
      rw [Nat.add_mul, Nat.one_mul] at hlc hld
      rw [List.replicate_succ, List.flatten_cons] at he
      have hvl := hc.1
      have hul := hds.1
      have e1 := zye0 hg hsz (vs := vs) (j * L1.length) (by omega) h0 w
      have e2 := zye0 hg hsz (vs := us) (j * L1.length) (by omega) h0 w
      rw [List.range'_succ]
      unfold Op.eqItems
      simp only [Sem.run_bind, e1, e2, Result.andThen_ok]
      have hc1 := (hc.drop (j * L1.length)).take L1.length
      have hd1 := (hds.drop (j * L1.length)).take L1.length
      rcases zy4q L1 _ _ _ b he (by simp; omega) (by simp; omega) with ⟨h1, rfl⟩ | ⟨h1, h2⟩
      ·rw [zy4v k e L1 hl d (by omega) _ _ _ _ false hc1 hd1 (by simp; omega) (by simp; omega) h1]
       simp
      ·rw [zy4v k e L1 hl d (by omega) _ _ _ _ true hc1 hd1 (by simp; omega) (by simp; omega) h1]
       simp only [Result.andThen_ok, Bool.not_true, Bool.false_eq_true, if_false]
       rw [List.drop_drop, List.drop_drop] at h2
       have ej : (j + 1) * L1.length = j * L1.length + L1.length := by rw [Nat.add_mul, Nat.one_mul]
       refine ih (j + 1) (by omega) (by omega) ?_
       rw [ej]
       exact h2
    have hcl' := hcl
    have hdl' := hdl
    rw [hlen] at hcl' hdl'
    exact loop n 0 (by omega) (by omega) (by simpa using he)
  ·cases h


theorem zyak {a : Addr} {n : Nat} {vs : List Value} (hl : vs.length = n) (hc : ∀ (j : Nat) (v : Value), vs[j]? = some v → w.cell? (a.add j) = some v) : (loadCells a n).run P w = .ok vs.toArray w := by
 unfold loadCells
 rw [zyaj n 0 #[] vs w hl fun j v hj => by rw [Nat.zero_add]; exact hc j v hj]
 simp

theorem zy4l {h : Heap} (hh : HRep w μ A h) {sz n : Nat} {c : AV} {cs : List AV} {v : Value} (he : zy4j h sz c = some (n, cs)) (hr : Rep w μ A c v) :
  (Builtin.lenOf v).run P w = .ok n w ∧ cs.length = n * sz ∧ ∃ vs : List Value, RepL w μ A cs vs ∧ (Builtin.firstCells sz n v).run P w = .ok vs.toArray w := by
 cases c <;> try (simp [zy4j] at he; done)
 case is m full ds =>
  simp only [zy4j] at he
  split at he
  case isFalse => cases he
  rename_i hl
  cases he
  refine ⟨?_, by simp; omega, ?_⟩
  ·cases hr <;> rfl
  ·cases hr with
   | nils f => exact ⟨[], by simp; exact .nil _ _ _, by simp [Builtin.firstCells]⟩
   | is _ _ _ a cap val h0 h1 h2 h3 h4 h5 =>
    refine ⟨(List.range (n * sz)).map val, ⟨by simp; omega, fun j c v hj hv => ?_⟩, ?_⟩
    ·rw [List.getElem?_take] at hj
     split at hj
     ·rename_i hjl
      simp [hjl] at hv
      subst hv
      exact h3 j c hj
     ·cases hj
    ·show (loadCells a (n * sz)).run P w = _
     refine zyak (by simp) fun j v hj => ?_
     have hjl : j < n * sz := by have := (List.getElem?_eq_some_iff.1 hj).1; simpa using this
     simp [hjl] at hj
     subst hj
     exact h2 j _ (List.getElem?_eq_getElem (by omega))
 case rs sz' id off m =>
  simp only [zy4j, Option.bind_eq_some_iff] at he
  obtain ⟨ds, hl, he⟩ := he
  split at he
  case isFalse => cases he
  rename_i hb
  obtain ⟨rfl, hb⟩ := hb
  cases he
  cases hr with
  | rs _ _ _ _ x cap h0 h1 h2 h3 =>
   refine ⟨rfl, by simp; omega, ?_⟩
   obtain ⟨b, r, hm, hval⟩ := zy19 hh hl
   obtain ⟨hs, hx2, _⟩ := h2 b r hm
   obtain ⟨val, v2, v3⟩ := hval hs
   by_cases hcap : cap = 0
   ·have hn : n = 0 := by omega
    subst hn
    refine ⟨[], by simp; exact .nil _ _ _, ?_⟩
    show (loadCells x (0 * sz)).run P w = _
    rw [Nat.zero_mul]
    exact zyak rfl fun j v hj => by simp at hj
   ·have hx := hx2 hcap
    obtain ⟨d2, d3⟩ := zy4h (fun _ => hs) off v2 v3
    refine ⟨(List.range (n * sz)).map fun j => val (off + j), ⟨by simp; omega, fun j c v hj hv => ?_⟩, ?_⟩
    ·rw [List.getElem?_take] at hj
     split at hj
     ·rename_i hjl
      simp [hjl] at hv
      subst hv
      exact d3 j c hj
     ·cases hj
    ·show (loadCells x (n * sz)).run P w = _
     refine zyak (by simp) fun j v hj => ?_
     have hjl : j < n * sz := by have := (List.getElem?_eq_some_iff.1 hj).1; simpa using this
     simp [hjl] at hj
     subst hj
     rw [hx]
     exact d2 j _ (List.getElem?_eq_getElem (by rw [List.length_drop]; omega))
 case rc sz' id off m k =>
  simp only [zy4j, Option.bind_eq_some_iff] at he
  obtain ⟨ds, hl, he⟩ := he
  split at he
  case isFalse => cases he
  rename_i hb
  obtain ⟨rfl, hb0, hnk⟩ := hb
  have hb : off + m * sz ≤ ds.length := by have := Nat.mul_le_mul_right sz hnk; omega
  cases he
  cases hr with
  | rc _ _ _ _ _ x cap h0 h1 h2 h3 h4 =>
   refine ⟨rfl, by simp; omega, ?_⟩
   obtain ⟨b, r, hm, hval⟩ := zy19 hh hl
   obtain ⟨hs, hx2, _⟩ := h2 b r hm
   obtain ⟨val, v2, v3⟩ := hval hs
   by_cases hcap : cap = 0
   ·have hn : n = 0 := by omega
    subst hn
    refine ⟨[], by simp; exact .nil _ _ _, ?_⟩
    show (loadCells x (0 * sz)).run P w = _
    rw [Nat.zero_mul]
    exact zyak rfl fun j v hj => by simp at hj
   ·have hx := hx2 hcap
    obtain ⟨d2, d3⟩ := zy4h (fun _ => hs) off v2 v3
    refine ⟨(List.range (n * sz)).map fun j => val (off + j), ⟨by simp; omega, fun j c v hj hv => ?_⟩, ?_⟩
    ·rw [List.getElem?_take] at hj
     split at hj
     ·rename_i hjl
      simp [hjl] at hv
      subst hv
      exact d3 j c hj
     ·cases hj
    ·show (loadCells x (n * sz)).run P w = _
     refine zyak (by simp) fun j v hj => ?_
     have hjl : j < n * sz := by have := (List.getElem?_eq_some_iff.1 hj).1; simpa using this
     simp [hjl] at hj
     subst hj
     rw [hx]
     exact d2 j _ (List.getElem?_eq_getElem (by rw [List.length_drop]; omega))
 case str s =>
  simp only [zy4j] at he
  split at he
  case isFalse => cases he
  rename_i h1
  subst h1
  cases he
  have h1 := hr.str_inv
  subst h1
  refine ⟨rfl, by rw [List.length_map, Nat.mul_one, Array.length_toList]; rfl, s.data.toList.map fun b => Value.int .u8 b.toNat, ⟨by simp, fun j c v hj hv => ?_⟩, ?_⟩
  ·simp only [List.getElem?_map, Option.map_eq_some_iff] at hj hv
   obtain ⟨b, hb, rfl⟩ := hj
   obtain ⟨b', hb', rfl⟩ := hv
   rw [hb] at hb'
   cases hb'
   exact .int _ _
  ·simp only [Builtin.firstCells, Sem.run_pure]
   congr 1
   have : s.extract 0 s.size = s := by simp
   rw [this]
   apply Array.ext'
   simp

theorem zy1z : ∀ (cs : List AV) (l : List UInt8) (vs : List Value), zy1x cs = some l → RepL w μ A cs vs → ∃ ns : List Int, vs = ns.map (Value.int .u8) ∧ l = ns.map fun n => UInt8.ofNat n.toNat
 | [], l, vs, h, hr => by
  have : vs = [] := List.length_eq_zero_iff.1 hr.1
  subst this
  cases h
  exact ⟨[], rfl, rfl⟩
 | c :: cs, l, [], h, hr => by have := hr.1; simp at this
 | c :: cs, l, v :: vs, h, hr => by
  cases c <;> try (simp [zy1x] at h; done)
  case int k n =>
   cases k <;> try (simp [zy1x] at h; done)
   simp only [zy1x, Option.map_eq_some_iff] at h
   obtain ⟨l', hl', rfl⟩ := h
   obtain ⟨ns, rfl, rfl⟩ := zy1z cs l' vs hl' hr.tail
   have := hr.head.int_inv
   subst this
   exact ⟨n :: ns, rfl, rfl⟩

theorem opB2s_run {h : Heap} (hh : HRep w μ A h) {c r : AV} {v : Value} (hc : Rep w μ A c v) (hv : opB2s h c = some r) {src dst e : TypeId} (hs : P.underlying src = some (.slice e)) (he : P.underlying e = some (.int .u8)) (hd : P.underlying dst = some .string) :
  ∃ u, Rep w μ A r u ∧ (convert src dst v).run P w = .ok u w := by
 have main : ∀ {n : Nat} {cs : List AV} {l : List UInt8}, zy4j h 1 c = some (n, cs) → zy1x cs = some l → r = .str ⟨l.toArray⟩ → (∃ a len cap, v = .slice a len cap) → ∃ u, Rep w μ A r u ∧ (convert src dst v).run P w = .ok u w := by
  intro n cs l h1 h2 h3 hv
  obtain ⟨a, len, cap, rfl⟩ := hv
  obtain ⟨hlen, hcl, vs, hvs, hf⟩ := zy4l (P := P) hh h1 hc
  obtain ⟨ns, rfl, rfl⟩ := zy1z cs l vs h2 hvs
  subst h3
  refine ⟨_, .str _, ?_⟩
  rw [run_convert_bytes_string w src dst e a len cap hs he hd]
  cases a with
  | none =>
   have : ns = [] := by
    have h0 : (Result.ok (#[] : Array Value) w : Result _) = .ok (ns.map (Value.int .u8)).toArray w := hf
    have := congrArg (fun r : Result (Array Value) => match r with | .ok a _ => a.size | .halt _ _ => 0) h0
    simpa using this.symm
   subst this
   simp [Conv.bytesToString]
   rfl
  | some a =>
   have hln : len = n := by
    have h0 : (Result.ok len w : Result Nat) = .ok n w := hlen
    cases h0; rfl
   subst hln
   have hf' : (loadCells a len).run P w = .ok (ns.map (Value.int .u8)).toArray w := by
    have h0 : (loadCells a (len * 1)).run P w = .ok (ns.map (Value.int .u8)).toArray w := hf
    rwa [Nat.mul_one] at h0
   rw [run_bytesToString w a len cap ns hf', foldl_push_bytes]
   congr 2
   simp
 unfold opB2s at hv
 cases c <;> simp only [Option.bind_eq_some_iff, Option.map_eq_some_iff] at hv <;> try (first | (cases hv; done) | (obtain ⟨⟨n, cs⟩, h1, l, h2, h3⟩ := hv; simp [zy4j] at h1; done))
 case is =>
  obtain ⟨⟨n, cs⟩, h1, l, h2, h3⟩ := hv
  exact main h1 h2 h3.symm (by cases hc <;> exact ⟨_, _, _, rfl⟩)
 case rs =>
  obtain ⟨⟨n, cs⟩, h1, l, h2, h3⟩ := hv
  exact main h1 h2 h3.symm (by cases hc; exact ⟨_, _, _, rfl⟩)
 case rc =>
  obtain ⟨⟨n, cs⟩, h1, l, h2, h3⟩ := hv
  exact main h1 h2 h3.symm (by cases hc; exact ⟨_, _, _, rfl⟩)


theorem zy1b {hp : Heap} (hh : HRep w μ A hp) {s : St} {a : Act} (h : Tmps w μ A s.t a.tmps) {o : Option Operand} {y : Option Opd} (ho : opdO o = some y) : zy00 w μ A (y.map s.get) (o.map a.eval) := by
 cases o with
 | none => cases ho; trivial
 | some x =>
  simp only [opdO, Option.map_eq_some_iff] at ho
  obtain ⟨z, hz, rfl⟩ := ho
  exact zydt hh h hz

theorem zy4i {t e : TypeId} (h : elemT P t = some e) : P.underlying t = some (.slice e) := by
 unfold elemT at h
 split at h
 ·rename_i hu; cases h; exact hu
 ·cases h

theorem zyin {t : TypeId} {z : List AV} (h : zeroT P t = some z) : ∃ i v, P.info? t = some i ∧ i.zero = some v ∧ RepL w μ A z v.cells.toList := by
 unfold zeroT at h
 simp only [Option.bind_eq_some_iff] at h
 obtain ⟨i, hi, v, hv, hz⟩ := h
 exact ⟨i, v, hi, hv, zyci hz⟩

theorem zyfl {t : TypeId} {i : TypeInfo} {v : Value} (hi : P.info? t = some i) (hz : i.zero = some v) (w : World) : (zeroValue t).run P w = .ok v w := by
 simp [zeroValue, zyfj t hi, hz]

theorem zyb4 {P : Program} {w : World} : ∀ (l : List Field) (ps : List (Nat × Nat)), l.length = ps.length → (∀ (j : Nat) (f : Field) (p : Nat × Nat), l[j]? = some f → ps[j]? = some p → p.1 = f.offset ∧ (sizeOf f.type).run P w = .ok p.2 w) →
  (l.mapM fun f => (do pure (f.offset, ← sizeOf f.type) : Sem (Nat × Nat))).run P w = .ok ps w
 | [], [], _, _ => rfl
 | [], p :: ps, h, _ => by simp at h
 | f :: l, [], h, _ => by simp at h
 | f :: l, p :: ps, h, hp => by
  obtain ⟨h1, h2⟩ := hp 0 f p rfl rfl
  rw [List.mapM_cons]
  simp only [Sem.run_bind, h2, Result.andThen_ok, Sem.run_pure]
  rw [zyb4 l ps (by simpa using h) fun j f p hj hp' => hp (j + 1) f p (by simpa using hj) (by simpa using hp')]
  simp only [Result.andThen_ok]
  rw [← h1]

theorem zycx {t : TypeId} {fs : Array Field} {z : List AV} (hu : P.underlying t = some (.struct fs)) (hz : zeroT P t = some z) (hall : ∀ f ∈ fs.toList, ∃ n, sizeT P f.type = some n)
  {parts : List (Nat × Value)} {pa : List (Nat × Nat × AV)} (hl : parts.length = pa.length)
  (hp : ∀ (j : Nat) (p : Nat × Value) (q : Nat × Nat × AV), parts[j]? = some p → pa[j]? = some q → (∃ f, fs[p.1]? = some f ∧ f.offset = q.1 ∧ sizeT P f.type = some q.2.1) ∧ Rep w μ A q.2.2 p.2) {r : AV} (h : opBld z pa = some r) :
  ∃ u, Rep w μ A r u ∧ (Instr.build t parts.toArray).run P w = .ok u w := by
 simp only [opBld, Option.map_eq_some_iff] at h
 obtain ⟨cs, hf, rfl⟩ := h
 obtain ⟨i, v, hi, hv, hr⟩ := zyin (w := w) (μ := μ) (A := A) hz
 let ps : List (Nat × Nat) := fs.toList.map fun f => (f.offset, (sizeT P f.type).getD 0)
 have hps : (fs.toList.mapM fun f => (do pure (f.offset, ← sizeOf f.type) : Sem (Nat × Nat))).run P w = .ok ps w := by
  refine zyb4 _ _ (by simp [ps]) fun j f p hj hpj => ?_
  simp only [ps, List.getElem?_map, Option.map_eq_some_iff] at hpj
  obtain ⟨f', hf', rfl⟩ := hpj
  rw [hj] at hf'
  cases hf'
  obtain ⟨n, hn⟩ := hall f (List.mem_of_getElem? hj)
  exact ⟨rfl, by simp [hn, zyfi f.type hn]⟩
 obtain ⟨us, hus, hrus⟩ := zy5h (w := w) (μ := μ) (A := A) (ps.toArray[·]?) parts pa z v.cells cs hr hl (fun j p q hj hq => by
  obtain ⟨⟨f, h1, h2, h3⟩, h4⟩ := hp j p q hj hq
  refine ⟨?_, h4⟩
  have : fs.toList[p.1]? = some f := by simpa using h1
  simp [ps, this, h2, h3]) hf
 refine ⟨.agg us.toList.toArray, .agg cs us.toList hrus.1 hrus.2, ?_⟩
 unfold Instr.build
 have hpm : (Array.mapM (fun f => (do pure (f.offset, ← sizeOf f.type) : Sem (Nat × Nat))) fs).run P w = .ok ps.toArray w := by
  rw [Array.mapM_eq_mapM_toList]
  simp only [Sem.run_map, hps, Result.andThen_ok]
 simp only [Sem.run_bind, zyfl hi hv, Result.andThen_ok, zyfk t hu, hpm]
 simp only [hus]
 simp

theorem zycw {t e : TypeId} {len n : Nat} {z : List AV} (hu : P.underlying t = some (.array len e)) (hz : zeroT P t = some z) (hn : sizeT P e = some n)
  {parts : List (Nat × Value)} {pa : List (Nat × Nat × AV)} (hl : parts.length = pa.length)
  (hp : ∀ (j : Nat) (p : Nat × Value) (q : Nat × Nat × AV), parts[j]? = some p → pa[j]? = some q → (q.1 = p.1 * n ∧ q.2.1 = n) ∧ Rep w μ A q.2.2 p.2) {r : AV} (h : opBld z pa = some r) :
  ∃ u, Rep w μ A r u ∧ (Instr.build t parts.toArray).run P w = .ok u w := by
 simp only [opBld, Option.map_eq_some_iff] at h
 obtain ⟨cs, hf, rfl⟩ := h
 obtain ⟨i, v, hi, hv, hr⟩ := zyin (w := w) (μ := μ) (A := A) hz
 obtain ⟨us, hus, hrus⟩ := zy5h (w := w) (μ := μ) (A := A) (fun i => some (i * n, n)) parts pa z v.cells cs hr hl (fun j p q hj hq => by
  obtain ⟨⟨h1, h2⟩, h4⟩ := hp j p q hj hq
  exact ⟨by rw [h1, h2], h4⟩) hf
 refine ⟨.agg us.toList.toArray, .agg cs us.toList hrus.1 hrus.2, ?_⟩
 unfold Instr.build
 simp only [Sem.run_bind, zyfl hi hv, Result.andThen_ok, zyfk t hu, zyfi e hn]
 simp only [hus]
 simp

end Go.Proofs.YtiblnpnfaadmcaaGreat.Am
/- Maps: what is looked up. -/
set_option linter.unusedVariables false
set_option linter.unusedSectionVars false
set_option linter.unusedSimpArgs false
namespace Go.Proofs.YtiblnpnfaadmcaaGreat.Am
open Go

variable [Gl] {P : Program} {w : World} {μ : Mu} {A : Nat → Prop}

theorem zy9h {t : TypeId} {L : List LK} (h : keyT P t = some L) : (∃ k, P.underlying t = some (.int k) ∧ L = [.i]) ∨ (∃ e k, P.underlying t = some (.array 2 e) ∧ P.underlying e = some (.int k) ∧ sizeT P e = some 1 ∧ (agT P e).isSome = true ∧ L = [.i, .i]) := by
 unfold keyT at h
 split at h
 ·rename_i k hu; cases h; exact .inl ⟨k, hu, rfl⟩
 ·rename_i e hu
  split at h
  ·rename_i k hk
   split at h
   ·rename_i hc; cases h; exact .inr ⟨e, k, hu, hk, hc.1, hc.2, rfl⟩
   ·cases h
  ·cases h
 ·cases h
theorem zy0e {a b : IntKind} {x y : Int} {v : Value} (h : Rep w μ A (.agg [.int a x, .int b y]) v) : v = .agg #[.int a x, .int b y] := by
 obtain ⟨vs, rfl, hr⟩ := h.agg_inv
 match vs, hr with
 | [u, v], hr =>
  have h1 := hr.head
  have h2 := hr.tail.head
  cases h1; cases h2; rfl
 | [], hr => have := hr.1; simp at this
 | [_], hr => have := hr.1; simp at this
 | _ :: _ :: _ :: _, hr => have := hr.1; simp at this
theorem keyOk_one {k : AV} (h : keyOk [.i] k = true) : ∃ a x, k = .int a x := by
 unfold keyOk at h
 split at h <;> simp_all
theorem keyOk_two {k : AV} (h : keyOk [.i, .i] k = true) : ∃ a x b y, k = .agg [.int a x, .int b y] := by
 unfold keyOk at h
 split at h <;> simp_all
theorem zy9f {k k' : AV} {b : Bool} (h : keyEq [.i] k k' = some b) : ∃ a x y, k = .int a x ∧ k' = .int a y ∧ b = (x == y) := by
 unfold keyEq at h
 split at h
 ·rename_i a x c y _ _ _
  split at h
  ·rename_i e; subst e; cases h; exact ⟨_, _, _, rfl, rfl, rfl⟩
  ·cases h
 ·simp_all
 ·cases h
theorem zy9g {k k' : AV} {b : Bool} (h : keyEq [.i, .i] k k' = some b) : ∃ a x c y z u, k = .agg [.int a x, .int c y] ∧ k' = .agg [.int a z, .int c u] ∧ b = (bif x == z then y == u else false) := by
 unfold keyEq at h
 split at h
 ·simp_all
 ·rename_i a x b y c z d u _ _ _
  split at h
  ·rename_i e; obtain ⟨e1, e2⟩ := e; subst e1 e2; cases h; exact ⟨_, _, _, _, _, _, rfl, rfl, rfl⟩
  ·cases h
 ·cases h
theorem equal_run {t : TypeId} {L : List LK} (ht : keyT P t = some L) {k k' : AV} {v v' : Value} {b : Bool} (h : keyEq L k k' = some b) (r : Rep w μ A k v) (r' : Rep w μ A k' v') : (Op.equal t v v').run P w = .ok b w := by
 have i1 : ∀ {a : IntKind} {x : Int}, Rep w μ A (.int a x) (.int a x) := .int _ _
 rcases zy9h ht with ⟨kk, hu, rfl⟩ | ⟨e, kk, hu, he, hs, hg, rfl⟩
 ·obtain ⟨a, x, y, rfl, rfl, rfl⟩ := zy9f h
  cases r; cases r'
  have hl : leafs P 1 t = some [.i] := by unfold leafs; rw [hu]
  have hv : ∀ u : Value, valOf P t [u] = u := fun u => by simp [valOf, zy82, hu]
  have := zy4v (w := w) (μ := μ) (A := A) 1 t [.i] hl 10000 (by omega) [.int a x] [.int a y] [.int a x] [.int a y] (x == y) (.cons i1 (.nil _ _ _)) (.cons i1 (.nil _ _ _)) rfl rfl (by cases hxy : x == y <;> simp [zy4n, hxy])
  rw [hv, hv] at this
  exact this
 ·obtain ⟨a, x, c, y, z, u, rfl, rfl, rfl⟩ := zy9g h
  have e1 := zy0e r
  have e2 := zy0e r'
  subst e1 e2
  have h1 : leafs P 1 e = some [.i] := by unfold leafs; rw [he]
  have hl : leafs P 2 t = some [.i, .i] := by
   unfold leafs
   rw [hu]
   simp only [h1, Option.bind_some]
   rw [if_pos ⟨hs, hg, by decide⟩]
   rfl
  have hv : ∀ u v : Value, valOf P t [u, v] = .agg #[u, v] := fun u v => by simp [valOf, zy82, hu]
  have := zy4v (w := w) (μ := μ) (A := A) 2 t [.i, .i] hl 10000 (by omega) [.int a x, .int c y] [.int a z, .int c u] [.int a x, .int c y] [.int a z, .int c u] (bif x == z then y == u else false) (.cons i1 (.cons i1 (.nil _ _ _))) (.cons i1 (.cons i1 (.nil _ _ _))) rfl rfl (by cases hxy : x == z <;> cases hyu : y == u <;> simp [zy4n, hxy, hyu])
  rw [hv, hv] at this
  exact this
theorem zy2x {t : TypeId} {L : List LK} (ht : keyT P t = some L) {k : AV} {v : Value} (h : keyOk L k = true) (r : Rep w μ A k v) (em : Bool) (n : Nat) : (Instr.checkKey em (n + 2) t v).run P w = .ok () w := by
 rcases zy9h ht with ⟨kk, hu, rfl⟩ | ⟨e, kk, hu, he, hs, hg, rfl⟩
 ·obtain ⟨a, x, rfl⟩ := keyOk_one h
  cases r
  unfold Instr.checkKey
  simp only [Sem.run_bind, zyfk t hu, Result.andThen_ok]
  rfl
 ·obtain ⟨a, x, b, y, rfl⟩ := keyOk_two h
  have e1 := zy0e r
  subst e1
  obtain ⟨g, hg⟩ := Option.isSome_iff_exists.1 hg
  have p0 := zye0 hg hs (vs := [.int a x, .int b y]) 0 (by simp) (by decide) w
  have p1 := zye0 hg hs (vs := [.int a x, .int b y]) 1 (by simp) (by decide) w
  have hv : ∀ u : Value, valOf P e [u] = u := fun u => by simp [valOf, zy82, he]
  have q0 : (part e #[.int a x, .int b y] 0).run P w = .ok (.int a x) w := by have := p0; simpa [hv] using this
  have q1 : (part e #[.int a x, .int b y] 1).run P w = .ok (.int b y) w := by have := p1; simpa [hv] using this
  have cc : ∀ c z, (Instr.checkKey em (n + 1) e (.int c z)).run P w = .ok () w := fun c z => by
   unfold Instr.checkKey
   simp only [Sem.run_bind, zyfk e he, Result.andThen_ok]
   rfl
  unfold Instr.checkKey
  simp only [Sem.run_bind, zyfk t hu, Result.andThen_ok]
  simp [Std.Legacy.Range.forIn_eq_forIn_range', Std.Legacy.Range.size, List.range'_succ, Sem.run_bind, zyfi e hs, q0, q1, cc]

def EntL (w : World) (μ : Mu) (A : Nat → Prop) (es : List AV) (ms : List MapEntry) : Prop := ms.length = es.length ∧ ∀ (j : Nat) (c : AV) (m : MapEntry), es[j]? = some c → ms[j]? = some m → Rep w μ A c (.tuple #[m.key, m.val])
def RepQ (w : World) (μ : Mu) (A : Nat → Prop) : Option (Nat × AV) → Option (Nat × Value) → Prop
 | none, none => True
 | some (j, c), some (i, v) => j = i ∧ Rep w μ A c v
 | _, _ => False
theorem EntL.cons {c : AV} {es : List AV} {m : MapEntry} {ms : List MapEntry} (h : EntL w μ A (c :: es) (m :: ms)) : Rep w μ A c (.tuple #[m.key, m.val]) ∧ EntL w μ A es ms :=
 ⟨h.2 0 c m rfl rfl, by simpa using h.1, fun j c' m' h1 h2 => h.2 (j + 1) c' m' (by simpa using h1) (by simpa using h2)⟩
theorem zyho {k v : AV} {x y : Value} (h : Rep w μ A (.tup [k, v]) (.tuple #[x, y])) : Rep w μ A k x ∧ Rep w μ A v y := by
 obtain ⟨vs, e, hr⟩ := h.tup_inv
 have : vs = [x, y] := by
  have := congrArg (fun v => match v with | Value.tuple a => a.toList | _ => []) e
  simpa using this.symm
 subst this
 exact ⟨hr.head, hr.tail.head⟩
theorem zy5j {L : List LK} {k c : AV} {es : List AV} {i : Nat} {q : Option (Nat × AV)} (h : findE L k (c :: es) i = some q) : ∃ k' v' b, c = .tup [k', v'] ∧ keyEq L k k' = some b ∧ (bif b then some (some (i, v')) else findE L k es (i + 1)) = some q := by
 have tu : ∀ k' v', c = .tup [k', v'] → ∃ k' v' b, c = .tup [k', v'] ∧ keyEq L k k' = some b ∧ (bif b then some (some (i, v')) else findE L k es (i + 1)) = some q := fun k' v' e => by
  subst e
  unfold findE at h
  simp only [Option.bind_eq_some_iff] at h
  obtain ⟨b, hb, h⟩ := h
  exact ⟨k', v', b, rfl, hb, h⟩
 cases c with
 | tup l =>
  match l with
  | [] => unfold findE at h; cases h
  | [_] => unfold findE at h; cases h
  | [k', v'] => exact tu k' v' rfl
  | _ :: _ :: _ :: _ => unfold findE at h; cases h
 | _ => unfold findE at h; cases h
theorem zy5k {L : List LK} {k : AV} : ∀ {es : List AV} {i j : Nat} {v : AV}, findE L k es i = some (some (j, v)) → i ≤ j ∧ j - i < es.length ∧ ∃ k', es[j - i]? = some (.tup [k', v]) ∧ keyEq L k k' = some true
 | [], i, j, v, h => by cases h
 | c :: es, i, j, v, h => by
  obtain ⟨k', v', b, rfl, hb, h⟩ := zy5j h
  cases b
  ·simp only [cond_false] at h
   obtain ⟨h1, h2, k2, h3, h4⟩ := zy5k h
   have e : j - i = (j - (i + 1)) + 1 := by omega
   exact ⟨by omega, by simp; omega, k2, by rw [e]; simpa using h3, h4⟩
  ·simp only [cond_true, Option.some.injEq, Prod.mk.injEq] at h
   obtain ⟨rfl, rfl⟩ := h
   exact ⟨Nat.le_refl _, by simp, k', by simp, hb⟩
theorem zy5i {t : TypeId} {L : List LK} (ht : keyT P t = some L) {k : AV} {v : Value} (r : Rep w μ A k v) : ∀ (es : List AV) (ms : List MapEntry) (i : Nat) (q : Option (Nat × AV)), EntL w μ A es ms → findE L k es i = some q →
  ∃ q', (Instr.findAsking t v ms i).run P w = .ok q' w ∧ RepQ w μ A q q'
 | [], ms, i, q, hE, hf => by
  have : ms = [] := List.length_eq_zero_iff.1 hE.1
  subst this
  cases hf
  exact ⟨none, rfl, trivial⟩
 | c :: es, [], i, q, hE, hf => by have := hE.1; simp at this
 | c :: es, m :: ms, i, q, hE, hf => by
  obtain ⟨hc, hE'⟩ := hE.cons
  obtain ⟨k', v', b, rfl, hb, hf⟩ := zy5j hf
  obtain ⟨rk, rv⟩ := zyho hc
  have he := equal_run ht hb r rk
  unfold Instr.findAsking
  simp only [Sem.run_bind, he, Result.andThen_ok]
  cases b
  ·simp only [cond_false] at hf
   exact zy5i ht r es ms (i + 1) q hE' hf
  ·simp only [cond_true, Option.some.injEq] at hf
   subst hf
   exact ⟨_, rfl, rfl, rv⟩
theorem zy5m {kk : IntKind} {k : AV} {v : Value} (r : Rep w μ A k v) : ∀ (es : List AV) (ms : List MapEntry) (i : Nat) (q : Option (Nat × AV)), EntL w μ A es ms → findE [.i] k es i = some q →
  ∃ q', Instr.findNow (.int kk) v ms i = some q' ∧ RepQ w μ A q q'
 | [], ms, i, q, hE, hf => by
  have : ms = [] := List.length_eq_zero_iff.1 hE.1
  subst this
  cases hf
  exact ⟨none, rfl, trivial⟩
 | c :: es, [], i, q, hE, hf => by have := hE.1; simp at this
 | c :: es, ⟨mk, mv, mb⟩ :: ms, i, q, hE, hf => by
  obtain ⟨hc, hE'⟩ := hE.cons
  obtain ⟨k', v', b, rfl, hb, hf⟩ := zy5j hf
  obtain ⟨rk, rv⟩ := zyho hc
  obtain ⟨a, x, y, rfl, rfl, rfl⟩ := zy9f hb
  have ih := zy5m (kk := kk) r es ms (i + 1)
  cases r; cases rk
  unfold Instr.findNow
  simp only [Instr.sameNow, if_true]
  cases hxy : x == y
  ·rw [hxy] at hf
   simp only [cond_false] at hf
   exact ih q hE' hf
  ·rw [hxy] at hf
   simp only [cond_true, Option.some.injEq] at hf
   subst hf
   exact ⟨_, rfl, rfl, rv⟩
theorem zy5l {t : TypeId} {L : List LK} (ht : keyT P t = some L) {k : AV} {v : Value} (r : Rep w μ A k v) {es : List AV} {ms : List MapEntry} {q : Option (Nat × AV)} (hE : EntL w μ A es ms) (hf : findE L k es 0 = some q) :
  ∃ q', (Instr.findKey t v ms).run P w = .ok q' w ∧ RepQ w μ A q q' := by
 unfold Instr.findKey
 rcases zy9h ht with ⟨kk, hu, rfl⟩ | ⟨e, kk, hu, he, hs, hg, rfl⟩
 ·simp only [Sem.run_bind, zyfk t hu, Result.andThen_ok]
  obtain ⟨q', h1, h2⟩ := zy5m (kk := kk) r es ms 0 q hE hf
  rw [h1]
  exact ⟨q', rfl, h2⟩
 ·simp only [Sem.run_bind, zyfk t hu, Result.andThen_ok]
  cases ms with
  | nil =>
   have : es = [] := List.length_eq_zero_iff.1 (by simpa using hE.1.symm)
   subst this
   cases hf
   exact ⟨none, rfl, trivial⟩
  | cons m ms =>
   have : Instr.findNow (.array 2 e) v (m :: ms) 0 = none := by simp [Instr.findNow, Instr.sameNow]
   rw [this]
   exact zy5i ht r es _ 0 q hE hf
theorem zy4m {es : List AV} {ent : Nat → Value × Value × Nat} (h : ∀ (j : Nat) (c : AV), es[j]? = some c → Rep w μ A c (.tuple #[(ent j).1, (ent j).2.1])) : EntL w μ A es (zyb7 ent es.length).toList := by
 refine ⟨by simp [zyb7], fun j c m hj hm => ?_⟩
 have hl := (List.getElem?_eq_some_iff.1 hj).1
 have : (zyb7 ent es.length).toList[j]? = some ⟨(ent j).1, (ent j).2.1, (ent j).2.2⟩ := by simp [zyb7, hl]
 rw [this] at hm
 cases hm
 exact h j c hj
theorem zyb9 {h : Heap} (hh : HRep w μ A h) {x : AV} {v : Value} (r : Rep w μ A x v) {es : List AV} (hm : mapOf h x = some es) :
  (v = .map none ∧ es = []) ∨ ∃ b ms ck, v = .map (some b) ∧ w.heap[b]? = some (.map ms ck) ∧ EntL w μ A es ms.toList := by
 cases r <;> try (simp [mapOf] at hm; done)
 case nilm => cases hm; exact .inl ⟨rfl, rfl⟩
 case im es' b ent ck h0 h1 h2 =>
  cases hm
  exact .inr ⟨b, _, ck, rfl, h1, zy4m h2⟩
 case rm id b h0 h1 =>
  simp only [mapOf] at hm
  split at hm
  ·rename_i es' hl
   cases hm
   have hlv := hh.liv id
   rw [hl] at hlv
   cases hmu : μ[id]? with
   | none => rw [hmu] at hlv; simp at hlv
   | some q =>
    cases q with
    | none => rw [hmu] at hlv; simp at hlv
    | some br =>
     obtain ⟨a, r⟩ := br
     have ea := h1 a r hmu
     subst ea
     obtain ⟨es2, ent, ck, e, _, hb, he⟩ := (hh.mp id _ _ r hl hmu (by simp)).map rfl
     simp only [List.cons.injEq, AV.mpc.injEq, and_true] at e
     subst e
     exact .inr ⟨b, _, ck, rfl, hb, zy4m he⟩
  ·cases hm
theorem zybb {t : TypeId} {L : List LK} {z : AV} (h : mapT P t = some (L, z)) : ∃ k e i v, P.underlying t = some (.map k e) ∧ keyT P k = some L ∧ P.info? e = some i ∧ i.zero = some v ∧ ofV v = some z := by
 unfold mapT at h
 split at h
 ·rename_i k e hu
  simp only [Option.bind_eq_some_iff, Option.map_eq_some_iff, Prod.mk.injEq] at h
  obtain ⟨L', hL, i, hi, v, hv, z', hz, rfl, rfl⟩ := h
  exact ⟨k, e, i, v, hu, hL, hi, hv, hz⟩
 ·cases h
theorem zyfe {r : Nat} {ms : Array MapEntry} {ck : Nat} (h : w.heap[r]? = some (.map ms ck)) : (getObj r).run P w = .ok (.map ms ck) w := by simp [getObj, Sem.run, h]
theorem opLkp_run {t : TypeId} {L : List LK} {z : AV} (ht : mapT P t = some (L, z)) {h : Heap} (hh : HRep w μ A h) {x i r : AV} {vx vi : Value} {ok : Bool} (rx : Rep w μ A x vx) (ri : Rep w μ A i vi) (hv : opLkp h L z ok x i = some r) :
  ∃ u, Rep w μ A r u ∧ (Instr.lookup t vx vi ok).run P w = .ok u w := by
 obtain ⟨kt, e, inf, zv, hu, hk, hi, hz, hof⟩ := zybb ht
 simp only [opLkp, Option.bind_eq_some_iff] at hv
 obtain ⟨es, hm, hv⟩ := hv
 split at hv
 case isFalse => cases hv
 rename_i hko
 simp only [Option.map_eq_some_iff] at hv
 obtain ⟨q, hq, rfl⟩ := hv
 have rz : Rep w μ A z zv := ofV_rep hof
 have hc := fun em => zy2x (P := P) hk hko ri em 9998
 have fin : ∀ q', RepQ w μ A q q' → ∃ u, Rep w μ A (bif ok then AV.tup [match q with | some q => q.2 | none => z, .bool q.isSome] else match q with | some q => q.2 | none => z) u ∧ ((do
    let x ← match q' with
     | some (_, v) => pure (v, true)
     | none => do let v ← zeroValue e; pure (v, false)
    pure (if ok then Value.tuple #[x.1, .bool x.2] else x.1)) : Sem Value).run P w = .ok u w := fun q' h2 => by
  match q, q', h2 with
  | none, none, _ =>
   simp only [Sem.run_bind, zyfl hi hz, Result.andThen_ok, Sem.run_pure]
   cases ok
   ·exact ⟨zv, rz, rfl⟩
   ·exact ⟨_, .tup [z, .bool false] [zv, .bool false] rfl (RepL.cons rz (.cons (.bool _) (.nil _ _ _))).2, rfl⟩
  | some (j, c), some (j', v), h2 =>
   simp only [Sem.run_bind, Result.andThen_ok, Sem.run_pure]
   cases ok
   ·exact ⟨v, h2.2, rfl⟩
   ·exact ⟨_, .tup [c, .bool true] [v, .bool true] rfl (RepL.cons h2.2 (.cons (.bool _) (.nil _ _ _))).2, rfl⟩
 unfold Instr.lookup
 simp only [Sem.run_bind, zyfk t hu, Result.andThen_ok]
 rcases zyb9 hh rx hm with ⟨rfl, rfl⟩ | ⟨b, ms, ck, rfl, hb, hE⟩
 ·obtain ⟨q', h1, h2⟩ := zy5l (P := P) hk ri (ms := (#[] : Array MapEntry).toList) ⟨rfl, fun j c m h => by simp at h⟩ hq
  obtain ⟨u, g1, g2⟩ := fin q' h2
  refine ⟨u, g1, ?_⟩
  simp only [Sem.run_bind, Sem.run_pure, Result.andThen_ok, hc, h1]
  simp only [Sem.run_bind] at g2
  rw [← g2]
  cases q' <;> rfl
 ·obtain ⟨q', h1, h2⟩ := zy5l (P := P) hk ri hE hq
  obtain ⟨u, g1, g2⟩ := fin q' h2
  refine ⟨u, g1, ?_⟩
  simp only [Sem.run_bind, zyfe hb, Sem.run_pure, Result.andThen_ok, hc, h1]
  simp only [Sem.run_bind] at g2
  rw [← g2]
  cases q' <;> rfl
theorem zyd9 {t k e : TypeId} (ht : P.underlying t = some (.map k e)) {h : Heap} (hh : HRep w μ A h) {c r : AV} {v : Value} (hc : Rep w μ A c v) (hv : zyd8 h c = some r) (ts : Array TypeId) (ty : TypeId) (h0 : ts[0]? = some t) :
  ∃ u, Rep w μ A r u ∧ (Builtin.len_ ts ty #[v]).run P w = .ok u w := by
 simp only [zyd8, Option.map_eq_some_iff] at hv
 obtain ⟨es, hm, rfl⟩ := hv
 rcases zyb9 hh hc hm with ⟨rfl, rfl⟩ | ⟨b, ms, ck, rfl, hb, hE⟩
 ·exact ⟨_, .int _ _, by simp [Builtin.len_, h0, zyfk _ ht, goInt]⟩
 ·have : ms.size = es.length := by have := hE.1; simpa using this
  exact ⟨_, .int _ _, by simp [Builtin.len_, h0, zyfk _ ht, goInt, zyfe hb, this]⟩
end Go.Proofs.YtiblnpnfaadmcaaGreat.Am
/- The operations that only read do what the abstract machine says. -/
set_option linter.unusedVariables false
set_option linter.unusedSectionVars false
set_option linter.unusedSimpArgs false
namespace Go.Proofs.YtiblnpnfaadmcaaGreat.Am
open Go

variable [Gl] {P : Program} {w : World} {μ : Mu} {A : Nat → Prop}

theorem zyeb {o : Oper} {ao : AOp} {s : St} {a : Act} {r : AV} (hc : zy38 P o = some ao) (hp : ao.isPure = true) (hv : zye9 s ao = some r) (ht : Tmps w μ A s.t a.tmps) (hh : HRep w μ A s.h) :
  ∃ v, Rep w μ A r v ∧ (execOp a.eval o).run P w = .ok (.value v) w := by
 have lift : ∀ {m : Sem Value}, (∃ v, Rep w μ A r v ∧ m.run P w = .ok v w) → ∃ v, Rep w μ A r v ∧ (do pure (Next.value (← m)) : Sem Next).run P w = .ok (.value v) w := fun ⟨v, h1, h2⟩ => ⟨v, h1, zy59 h2⟩
 unfold zy38 at hc
 unfold execOp
 split at hc <;> rename_i hop <;> simp only [hop]
 ·-- move
  simp only [Option.map_eq_some_iff] at hc
  obtain ⟨y, hy, rfl⟩ := hc
  cases hv
  exact ⟨_, zydt hh ht hy, rfl⟩
 ·simp only [Option.map_eq_some_iff] at hc
  obtain ⟨y, hy, rfl⟩ := hc
  cases hv
  exact ⟨_, zydt hh ht hy, rfl⟩
 ·-- pick
  simp only [Option.bind_eq_some_iff, Option.map_eq_some_iff] at hc
  obtain ⟨c, hc, x, hx, y, hy, rfl⟩ := hc
  obtain ⟨v, h1, h2⟩ := zyde (P := P) (zydt hh ht hc) (zydt hh ht hx) (zydt hh ht hy) hv
  refine ⟨v, h1, ?_⟩
  simp only [Sem.run_bind, Sem.run_pure] at h2 ⊢
  generalize (asBool (a.eval _)).run P w = q at *
  cases q with
  | ok b w' => simp only [Result.andThen_ok, Result.ok.injEq] at h2 ⊢; obtain ⟨h2, rfl⟩ := h2; rw [h2]; exact ⟨rfl, rfl⟩
  | halt x w' => cases h2
 ·simp only [Option.map_eq_some_iff] at hc; obtain ⟨y, hy, rfl⟩ := hc; cases hp
 ·simp only [Option.map_eq_some_iff] at hc; obtain ⟨y, hy, rfl⟩ := hc; cases hp
 ·-- build
  rename_i tt parts
  simp only [Option.bind_eq_some_iff] at hc
  obtain ⟨i, hi, z, hz, hc⟩ := hc
  split at hc
  ·rename_i fs hu
   split at hc
   ·cases hc
   rename_i hall
   simp only [Option.map_eq_some_iff] at hc
   obtain ⟨l, hl, rfl⟩ := hc
   obtain ⟨h1, h2⟩ := zyb6 hl
   refine lift ?_
   have hp' : (parts.map fun x => match x with | (i, x) => (i, a.eval x)) = (parts.toList.map fun (p : Nat × Operand) => (p.1, a.eval p.2)).toArray := by
    apply Array.ext'; simp
   rw [hp']
   refine zycx hu hz (fun f hf => ?_) (pa := l.map fun (p : Nat × Nat × Opd) => (p.1, p.2.1, s.get p.2.2)) (by simp [h1]) (fun j p q hj hq => ?_) hv
   ·simp only [Bool.not_eq_false] at hall
    exact Option.isSome_iff_exists.1 (List.all_eq_true.1 hall f hf)
   ·simp only [List.getElem?_map, Option.map_eq_some_iff] at hj hq
    obtain ⟨p', hp', rfl⟩ := hj
    obtain ⟨q', hq', rfl⟩ := hq
    have := h2 j p' q' hp' hq'
    simp only [Option.bind_eq_some_iff, Option.map_eq_some_iff] at this
    obtain ⟨f, hf, n, hn, x, hx, rfl⟩ := this
    exact ⟨⟨f, hf, rfl, hn⟩, zydt hh ht hx⟩
  ·rename_i len e hu
   simp only [Option.bind_eq_some_iff, Option.map_eq_some_iff] at hc
   obtain ⟨n, hn, l, hl, rfl⟩ := hc
   obtain ⟨h1, h2⟩ := zyb6 hl
   refine lift ?_
   have hp' : (parts.map fun x => match x with | (i, x) => (i, a.eval x)) = (parts.toList.map fun (p : Nat × Operand) => (p.1, a.eval p.2)).toArray := by
    apply Array.ext'; simp
   rw [hp']
   refine zycw hu hz hn (pa := l.map fun (p : Nat × Nat × Opd) => (p.1, p.2.1, s.get p.2.2)) (by simp [h1]) (fun j p q hj hq => ?_) hv
   simp only [List.getElem?_map, Option.map_eq_some_iff] at hj hq
   obtain ⟨p', hp', rfl⟩ := hj
   obtain ⟨q', hq', rfl⟩ := hq
   have := h2 j p' q' hp' hq'
   simp only [Option.map_eq_some_iff] at this
   obtain ⟨x, hx, rfl⟩ := this
   exact ⟨⟨rfl, rfl⟩, zydt hh ht hx⟩
  ·cases hc
 ·-- buildSlice
  simp only [Option.bind_eq_some_iff] at hc
  obtain ⟨r', _, hc⟩ := hc
  split at hc
  ·simp only [Option.map_eq_some_iff] at hc; obtain ⟨y, hy, rfl⟩ := hc; cases hp
  ·cases hc
 ·-- load
  simp only [Option.bind_eq_some_iff, Option.map_eq_some_iff] at hc
  obtain ⟨g, hg, x, hx, rfl⟩ := hc
  exact lift (zyd7 hg hh (zydt hh ht hx) hv)
 ·simp only [Option.bind_eq_some_iff, Option.map_eq_some_iff] at hc; obtain ⟨_, _, _, _, _, _, y, hy, rfl⟩ := hc; cases hp
 ·-- nilCheck
  simp only [Option.map_eq_some_iff] at hc
  obtain ⟨y, hy, rfl⟩ := hc
  have hr := zydt hh ht hy
  obtain ⟨h1, h2⟩ := zydc (P := P) hr hv
  subst h1
  exact ⟨_, hr, h2⟩
 ·-- binOp
  rename_i op tt x y yt
  simp only [Option.bind_eq_some_iff] at hc
  obtain ⟨x', hx, y', hy, hc⟩ := hc
  have plain : ao = .bin op x' y' → ∃ v, Rep w μ A r v ∧ (do pure (Next.value (← (do eqGuard op tt x y (a.eval x) (a.eval y); binOp op tt (a.eval x) (a.eval y) : Sem Value))) : Sem Next).run P w = .ok (.value v) w := by
   intro e
   subst e
   exact lift (opBin_run (zydt hh ht hx) (zydt hh ht hy) hv tt x y)
  have cmp : ∀ (neq : Bool), op = (bif neq then .neq else .eql) → (match P.underlying tt with
    | some .bool => some (AOp.beq (op == .neq) x' y')
    | some (.int _) | some .string => some (.bin op x' y')
    | some (.struct _) => if P.eqGuardType P.depth tt then none else (leafs P 8 tt).map fun L => .eqa (op == .neq) L x' y'
    | some (.array _ _) => if P.eqGuardType P.depth tt then none else (leafs P 8 tt).map fun L => .eqa (op == .neq) L x' y'
    | some (.slice _) => zyc4 (op == .neq) x' y'
    | _ => none) = some ao → ∃ v, Rep w μ A r v ∧ (do pure (Next.value (← (do eqGuard op tt x y (a.eval x) (a.eval y); binOp op tt (a.eval x) (a.eval y) : Sem Value))) : Sem Next).run P w = .ok (.value v) w := by
   intro neq hop' hc
   have hneq : (op == .neq) = neq := by rw [hop']; cases neq <;> rfl
   rw [hneq] at hc
   split at hc
   ·rename_i hu
    cases hc
    rw [hop']
    exact lift (opBeq_run (zydt hh ht hx) (zydt hh ht hy) hv tt hu x y)
   ·cases hc; exact plain rfl
   ·cases hc; exact plain rfl
   ·rename_i fs hu
    split at hc
    ·cases hc
    rename_i hg
    simp only [Option.map_eq_some_iff] at hc
    obtain ⟨L, hL, rfl⟩ := hc
    refine lift ?_
    have rx := zydt hh ht hx
    have ry := zydt hh ht hy
    simp only [zye9] at hv
    generalize s.get x' = cx at *
    generalize s.get y' = cy at *
    cases cx <;> try (simp [opEqa] at hv; done)
    cases cy <;> try (simp [opEqa] at hv; done)
    rename_i xs ys
    obtain ⟨vs, ev, hvs⟩ := rx.agg_inv
    obtain ⟨us, eu, hus⟩ := ry.agg_inv
    rw [ev, eu]
    simp only [opEqa] at hv
    split at hv
    case isFalse => cases hv
    rename_i hlen
    simp only [Option.map_eq_some_iff] at hv
    obtain ⟨b, hb, rfl⟩ := hv
    have hag : zy82 P tt = true := by simp [zy82, hu]
    have he := zy4v (P := P) (w := w) (μ := μ) (A := A) 8 tt L hL 10000 (by omega) xs ys vs us b hvs hus hlen.1 hlen.2 hb
    unfold valOf at he
    rw [if_pos hag, if_pos hag] at he
    have hg' : P.eqGuardType P.depth tt = false := by simpa using hg
    refine ⟨.bool (bif neq then !b else b), .bool _, ?_⟩
    simp only [Sem.run_bind, run_eqGuard_agg w op tt x y vs.toArray us.toArray hg', Result.andThen_ok]
    subst hop'
    cases neq
    ·rw [cond_false, run_eql_struct, he]; rfl
    ·rw [cond_true, run_neq_struct, he]; rfl
   ·rename_i n0 e0 hu
    split at hc
    ·cases hc
    rename_i hg
    simp only [Option.map_eq_some_iff] at hc
    obtain ⟨L, hL, rfl⟩ := hc
    refine lift ?_
    have rx := zydt hh ht hx
    have ry := zydt hh ht hy
    simp only [zye9] at hv
    generalize s.get x' = cx at *
    generalize s.get y' = cy at *
    cases cx <;> try (simp [opEqa] at hv; done)
    cases cy <;> try (simp [opEqa] at hv; done)
    rename_i xs ys
    obtain ⟨vs, ev, hvs⟩ := rx.agg_inv
    obtain ⟨us, eu, hus⟩ := ry.agg_inv
    rw [ev, eu]
    simp only [opEqa] at hv
    split at hv
    case isFalse => cases hv
    rename_i hlen
    simp only [Option.map_eq_some_iff] at hv
    obtain ⟨b, hb, rfl⟩ := hv
    have hag : zy82 P tt = true := by simp [zy82, hu]
    have he := zy4v (P := P) (w := w) (μ := μ) (A := A) 8 tt L hL 10000 (by omega) xs ys vs us b hvs hus hlen.1 hlen.2 hb
    unfold valOf at he
    rw [if_pos hag, if_pos hag] at he
    have hg' : P.eqGuardType P.depth tt = false := by simpa using hg
    refine ⟨.bool (bif neq then !b else b), .bool _, ?_⟩
    simp only [Sem.run_bind, run_eqGuard_agg w op tt x y vs.toArray us.toArray hg', Result.andThen_ok]
    subst hop'
    cases neq
    ·rw [cond_false, run_eql_struct, he]; rfl
    ·rw [cond_true, run_neq_struct, he]; rfl
   ·rename_i e0 hu
    have hnil : y' = .c (.is 0 true []) → a.eval y = .slice none 0 0 := fun e => nil_const (by rw [← e]; exact hy)
    unfold zyc4 at hc
    split at hc
    ·cases hc
     have hy0 := hnil rfl
     refine lift ?_
     have rx := zydt hh ht hx
     simp only [zye9] at hv
     rw [hy0]
     generalize s.get x' = cx at *
     generalize a.eval x = vx at *
     have key : ∀ (ad : Addr) (n c : Nat), (do eqGuard op tt x y (.slice (some ad) n c) (.slice none 0 0); binOp op tt (.slice (some ad) n c) (.slice none 0 0) : Sem Value).run P w = .ok (.bool neq) w := fun ad n c => by
      subst hop'
      rw [Sem.run_bind, zy4t]
      cases neq
      ·exact zyfc hu ad n c
      ·exact zyfg hu ad n c
     cases cx <;> try (simp [zydd] at hv; done)
     ·rename_i n full cs
      cases n with
      | zero => simp [zydd] at hv
      | succ n =>
       simp only [zydd, Option.some.injEq] at hv
       subst hv
       cases rx with
       | is _ _ _ ad c val h0 h1 h2 h3 h4 h5 => exact ⟨_, .bool _, key ad _ c⟩
     ·simp only [zydd, Option.some.injEq] at hv
      subst hv
      cases rx with
      | rs _ _ _ _ ad c h0 h1 h2 h3 => exact ⟨_, .bool _, key ad _ c⟩
    ·cases hc
   ·cases hc
  cases op <;> first | (exact cmp false rfl hc) | (exact cmp true rfl hc) | (cases hc; exact plain rfl)
 ·-- unOp
  simp only [Option.map_eq_some_iff] at hc
  obtain ⟨y, hy, rfl⟩ := hc
  exact lift (opUn_run (zydt hh ht hy) hv)
 ·-- convert
  simp only [Option.bind_eq_some_iff] at hc
  obtain ⟨x, hx, hc⟩ := hc
  have rx := zydt hh ht hx
  refine lift ?_
  split at hc
  ·rename_i d k hu hd
   cases hc
   simp only [zye9] at hv
   generalize s.get x = c at *
   cases c <;> try (simp [zyd0] at hv; done)
   simp only [zyd0, Option.some.injEq] at hv
   subst hv
   have := rx.int_inv
   rw [this]
   exact ⟨_, .int _ _, by simp [convert, zyfk _ hu, zyfk _ hd, Conv.intToInt]⟩
  ·rename_i hu hd
   cases hc
   simp only [zye9] at hv
   generalize s.get x = c at *
   cases c <;> try (simp [opIdc] at hv; done)
   simp only [opIdc, Option.some.injEq] at hv
   subst hv
   have := rx.str_inv
   rw [this]
   exact ⟨_, .str _, by simp [convert, zyfk _ hu, zyfk _ hd]⟩
  ·split at hc
   ·simp only [Option.map_eq_some_iff] at hc; obtain ⟨y, hy, rfl⟩ := hc; cases hp
   ·cases hc
  ·rename_i e hu hd
   split at hc
   case isFalse => cases hc
   rename_i hu8
   cases hc
   have he : P.underlying e = some (.int .u8) := by
    unfold isU8 at hu8
    split at hu8
    ·assumption
    ·cases hu8
   exact opB2s_run hh rx hv hu he hd
  ·cases hc
 ·-- makeInterface
  split at hc
  ·cases hc
  ·rename_i hi d hu
   simp only [Option.map_eq_some_iff] at hc
   obtain ⟨y, hy, rfl⟩ := hc
   cases hv
   refine lift ⟨_, .ifc _ _ _ (zydt hh ht hy), ?_⟩
   unfold Instr.makeInterface
   simp only [Sem.run_bind, zyfk _ hu, Result.andThen_ok]
   rfl
  ·cases hc
 ·-- makeFunc
  rename_i f first captured
  split at hc
  case isFalse => cases hc
  rename_i h0
  simp only [Option.map_eq_some_iff] at hc
  obtain ⟨l, hl, rfl⟩ := hc
  cases hv
  have := zydu hh ht hl
  have hf : first = #[] := Array.size_eq_zero_iff.1 h0.1
  refine lift ⟨_, .fn f _ _ (by have := h0.2; rwa [Nat.blt_eq] at this) this.1 this.2, ?_⟩
  subst hf
  simp [Instr.makeFunc]
  rw [← Array.toList_map]
 ·simp only [Option.bind_eq_some_iff, Option.map_eq_some_iff] at hc; obtain ⟨_, _, _, _, y, hy, rfl⟩ := hc; cases hp
 ·-- slice
  rename_i tt x' lo' hi' mx'
  simp only [Option.bind_eq_some_iff] at hc
  obtain ⟨x, hx, lo, hlo, hi, hhi, mx, hmx, hc⟩ := hc
  refine lift ?_
  split at hc
  ·rename_i hu
   split at hc
   ·cases hc
   rename_i hm
   cases hc
   have : mx = none := by cases mx <;> simp_all
   subst this
   have e2 : ∀ {o : Option Operand}, opdO o = some none → o = none := fun {o} h => by cases o <;> simp [opdO] at h ⊢
   rw [e2 hmx]
   exact zydl hu (zydt hh ht hx) (zy1b hh ht hlo) (zy1b hh ht hhi) hv
  ·rename_i e hu
   split at hc
   ·cases hc
   rename_i hm
   simp only [Option.map_eq_some_iff] at hc
   obtain ⟨n, hn, rfl⟩ := hc
   cases hcap : (Gl.cap tt && !mx.isSome)
   case true =>
    rw [hcap] at hv
    have hmn : mx = none := by cases mx <;> simp_all
    subst hmn
    have e2 : ∀ {o : Option Operand}, opdO o = some none → o = none := fun {o} h => by cases o <;> simp [opdO] at h ⊢
    rw [e2 hmx]
    exact zydk hu hn hh (zydt hh ht hx) (zy1b hh ht hlo) (zy1b hh ht hhi) hv
   rw [hcap] at hv
   refine zydj hu hn hh (zydt hh ht hx) (zy1b hh ht hlo) (zy1b hh ht hhi) (zy1b hh ht hmx) (fun h => ?_) hv
   cases mx <;> cases hi <;> simp_all
  ·rename_i len e hu
   split at hc
   ·cases hc
   rename_i hm
   simp only [Option.map_eq_some_iff] at hc
   obtain ⟨n, hn, rfl⟩ := hc
   have e2 : ∀ {o : Option Operand}, opdO o = some none → o = none := fun {o} h => by cases o <;> simp [opdO] at h ⊢
   have l0 : lo = none := by cases lo <;> simp_all
   have l1 : hi = none := by cases hi <;> simp_all
   have l2 : mx = none := by cases mx <;> simp_all
   subst l0 l1 l2
   rw [e2 hlo, e2 hhi, e2 hmx]
   exact zycu hu hn hh (zydt hh ht hx) hv
  ·cases hc
 ·-- fieldAddr
  simp only [Option.bind_eq_some_iff] at hc
  obtain ⟨d, hd, n, hn, hc⟩ := hc
  split at hc
  ·cases hc
  rename_i h0
  simp only [Option.map_eq_some_iff] at hc
  obtain ⟨x, hx, rfl⟩ := hc
  exact lift (zyd2 hd hn h0 hh (zydt hh ht hx) hv)
 ·-- field
  simp only [Option.bind_eq_some_iff, Option.map_eq_some_iff] at hc
  obtain ⟨d, hd, g, hg, x, hx, rfl⟩ := hc
  refine lift ?_
  obtain ⟨fs, hu, hfs⟩ : ∃ fs, P.underlying _ = some (.struct fs) ∧ fs[_]? = some d := by
   unfold zy5d at hd
   split at hd
   ·rename_i fs hu; exact ⟨fs, hu, hd⟩
   ·cases hd
  have rx := zydt hh ht hx
  simp only [zye9] at hv
  generalize s.get x = c at *
  cases c <;> try (simp [opFld] at hv; done)
  obtain ⟨vs, ev, hvs⟩ := rx.agg_inv
  rw [ev]
  obtain ⟨u, h1, h2⟩ := zye1 hg hvs d.offset hv w
  exact ⟨u, h1, by simp [Instr.field, zyfk _ hu, hfs, asAgg, h2]⟩
 ·-- indexAddr
  simp only [Option.bind_eq_some_iff] at hc
  obtain ⟨x, hx, i, hi, hc⟩ := hc
  refine lift ?_
  split at hc
  ·rename_i e hu
   simp only [Option.map_eq_some_iff] at hc
   obtain ⟨n, hn, rfl⟩ := hc
   exact zydi hu hn hh (zydt hh ht hx) (zydt hh ht hi) hv
  ·rename_i len e hu
   simp only [Option.map_eq_some_iff] at hc
   obtain ⟨n, hn, rfl⟩ := hc
   exact zycq hu hn hh (zydt hh ht hx) (zydt hh ht hi) hv
  ·cases hc
 ·-- index
  simp only [Option.bind_eq_some_iff] at hc
  obtain ⟨x, hx, i, hi, hc⟩ := hc
  refine lift ?_
  split at hc
  ·rename_i hu
   cases hc
   exact zydp hu (zydt hh ht hx) (zydt hh ht hi) hv
  ·rename_i len e hu
   simp only [Option.bind_eq_some_iff, Option.map_eq_some_iff] at hc
   obtain ⟨n, hn, g, hg, rfl⟩ := hc
   exact opIdx_run hu hn hg (zydt hh ht hx) (zydt hh ht hi) hv
  ·cases hc
 ·-- extract
  simp only [Option.map_eq_some_iff] at hc
  obtain ⟨y, hy, rfl⟩ := hc
  exact lift (opExt_run (zydt hh ht hy) hv)
 ·simp only [Option.map_eq_some_iff] at hc; obtain ⟨y, hy, rfl⟩ := hc; cases hp
 ·-- lookup
  simp only [Option.bind_eq_some_iff, Option.map_eq_some_iff] at hc
  obtain ⟨⟨L, z⟩, hm, x, hx, i, hi, rfl⟩ := hc
  exact lift (opLkp_run hm hh (zydt hh ht hx) (zydt hh ht hi) hv)
 ·simp only [Option.bind_eq_some_iff, Option.map_eq_some_iff] at hc
  obtain ⟨_, _, _, _, _, _, _, _, rfl⟩ := hc
  cases hp
 ·-- a builtin
  rename_i b args ts
  unfold zy1j at hc
  split at hc
  ·simp only [Option.bind_eq_some_iff] at hc
   obtain ⟨x, hx, t, ht', hc⟩ := hc
   have hb : ∀ (v : Value) (l : List Operand), args.toList = x :: l → (Builtin.len_ ts o.type #[a.eval x]).run P w = .ok v w → (Builtin.len_ ts o.type (args.map a.eval)).run P w = .ok v w := fun v l hl h => by
    have : (args.map a.eval)[0]? = some (a.eval x) := by simp [hx]
    rw [← h]
    unfold Builtin.len_
    simp only [this, ht']
    rfl
   have hcons : ∃ l, args.toList = x :: l := by
    cases hl : args.toList with
    | nil =>
     have : args = #[] := by simpa using hl
     subst this; simp at hx
    | cons y l =>
     have : args[0]? = some y := by rw [← Array.getElem?_toList, hl]; rfl
     rw [hx] at this; cases this; exact ⟨l, rfl⟩
   obtain ⟨l, hl⟩ := hcons
   have fin : (∃ u, Rep w μ A r u ∧ (Builtin.len_ ts o.type #[a.eval x]).run P w = .ok u w) → ∃ v, Rep w μ A r v ∧ (do
     let d ← resolve a.eval { callee := .builtin .len, args, argTypes := ts } o.type
     invoke d.target d.args : Sem Next).run P w = .ok (.value v) w := by
    rintro ⟨u, hu, hr⟩
    refine ⟨u, hu, ?_⟩
    have := hb u l hl hr
    simp only [resolve, invoke, builtin, Sem.run_bind, Sem.run_pure, Result.andThen_ok, this]
   split at hc
   ·rename_i hu
    simp only [Option.map_eq_some_iff] at hc
    obtain ⟨y, hy, rfl⟩ := hc
    exact fin (zyd3 (b := true) hu (zydt hh ht hy) hv ts o.type ht')
   ·rename_i e hu
    simp only [Option.map_eq_some_iff] at hc
    obtain ⟨y, hy, rfl⟩ := hc
    exact fin (zyd3 (b := false) ⟨e, hu⟩ (zydt hh ht hy) hv ts o.type ht')
   ·rename_i n e hu
    cases hc
    cases hv
    exact fin ⟨_, .int _ _, by simp [Builtin.len_, ht', zyfk _ hu, goInt]⟩
   ·rename_i k e hu
    simp only [Option.map_eq_some_iff] at hc
    obtain ⟨y, hy, rfl⟩ := hc
    exact fin (zyd9 hu hh (zydt hh ht hy) hv ts o.type ht')
   ·cases hc
  ·simp only [Option.bind_eq_some_iff] at hc
   obtain ⟨_, _, _, _, _, _, _, _, _, _, _, _, _, _, hc⟩ := hc
   split at hc <;> cases hc <;> cases hp
  ·simp only [Option.map_eq_some_iff] at hc
   obtain ⟨l, hl, rfl⟩ := hc
   obtain ⟨u, hu, hr⟩ := zyda (P := P) (zydu hh ht hl) hv ts o.type
   refine ⟨u, hu, ?_⟩
   have e : (List.map a.eval args.toList).toArray = args.map a.eval := by apply Array.ext'; simp
   rw [e] at hr
   simp only [Bool.false_eq_true, if_false] at hr
   simp only [resolve, invoke, builtin, Sem.run_bind, Sem.run_pure, Result.andThen_ok, hr]
  ·simp only [Option.map_eq_some_iff] at hc
   obtain ⟨l, hl, rfl⟩ := hc
   obtain ⟨u, hu, hr⟩ := zyda (P := P) (zydu hh ht hl) hv ts o.type
   refine ⟨u, hu, ?_⟩
   have e : (List.map a.eval args.toList).toArray = args.map a.eval := by apply Array.ext'; simp
   rw [e] at hr
   simp only [if_true] at hr
   simp only [resolve, invoke, builtin, Sem.run_bind, Sem.run_pure, Result.andThen_ok, hr]
  ·simp only [Option.bind_eq_some_iff] at hc
   obtain ⟨x, hx, t, ht', hc⟩ := hc
   have hb : ∀ (v : Value) (l : List Operand), args.toList = x :: l → (Builtin.cap_ ts o.type #[a.eval x]).run P w = .ok v w → (Builtin.cap_ ts o.type (args.map a.eval)).run P w = .ok v w := fun v l hl h => by
    have : (args.map a.eval)[0]? = some (a.eval x) := by simp [hx]
    rw [← h]
    unfold Builtin.cap_
    simp only [this, ht']
    rfl
   have hcons : ∃ l, args.toList = x :: l := by
    cases hl : args.toList with
    | nil =>
     have : args = #[] := by simpa using hl
     subst this; simp at hx
    | cons y l =>
     have : args[0]? = some y := by rw [← Array.getElem?_toList, hl]; rfl
     rw [hx] at this; cases this; exact ⟨l, rfl⟩
   obtain ⟨l, hl⟩ := hcons
   have fin : (∃ u, Rep w μ A r u ∧ (Builtin.cap_ ts o.type #[a.eval x]).run P w = .ok u w) → ∃ v, Rep w μ A r v ∧ (do
     let d ← resolve a.eval { callee := .builtin .cap, args, argTypes := ts } o.type
     invoke d.target d.args : Sem Next).run P w = .ok (.value v) w := by
    rintro ⟨u, hu, hr⟩
    refine ⟨u, hu, ?_⟩
    have := hb u l hl hr
    simp only [resolve, invoke, builtin, Sem.run_bind, Sem.run_pure, Result.andThen_ok, this]
   split at hc
   ·rename_i e hu
    simp only [Option.map_eq_some_iff] at hc
    obtain ⟨y, hy, rfl⟩ := hc
    refine fin ?_
    have ry := zydt hh ht hy
    simp only [zye9] at hv
    generalize s.get y = c at *
    cases c <;> try (simp [opCap] at hv; done)
    rename_i n full cs
    cases full
    ·simp [opCap] at hv
    ·simp only [opCap, Option.some.injEq] at hv
     subst hv
     generalize a.eval x = vx at *
     cases ry with
     | nils f => exact ⟨_, .int _ _, by simp [Builtin.cap_, ht', zyfk _ hu, goInt]⟩
     | is _ _ _ ad c val h0 h1 h2 h3 h4 h5 => exact ⟨_, .int _ _, by simp [Builtin.cap_, ht', zyfk _ hu, goInt, h5 rfl]⟩
   ·cases hc
  ·simp only [Option.bind_eq_some_iff, Option.map_eq_some_iff] at hc
   obtain ⟨_, _, _, _, _, _, _, _, rfl⟩ := hc
   cases hp
  ·cases hc
 ·cases hc

theorem pure_run {o : Oper} {ao : AOp} {s : St} {a : Act} {r : AV} (hc : compOp? P o = some ao) (hp : ao.isPure = true) (hv : zye9 s ao = some r) (ht : Tmps w μ A s.t a.tmps) (hh : HRep w μ A s.h) :
  ∃ v, Rep w μ A r v ∧ (execOp a.eval o).run P w = .ok (.value v) w := by
 unfold compOp? at hc
 split at hc
 rotate_left
 ·unfold zy36 at hc
  split at hc
  ·split at hc
   ·simp only [Option.bind_eq_some_iff, Option.map_eq_some_iff] at hc
    obtain ⟨_, _, _, _, rfl⟩ := hc
    cases hp
   ·cases hc
  ·cases hc
 ·simp only [Option.bind_eq_some_iff] at hc
  obtain ⟨ao', h1, h2⟩ := hc
  split at h2
  ·cases h2
  ·cases h2; exact zyeb h1 hp hv ht hh
 rename_i f args ts hop
 unfold execOp
 simp only [hop]
 unfold zy2g at hc
 simp only [Option.bind_eq_some_iff] at hc
 obtain ⟨as, has, hc⟩ := hc
 split at hc
 ·rename_i g
  split at hc
  case h_2 => cases hc
  rename_i fn hg
  split at hc
  ·cases hb : Nat.blt g yb
   ·rw [hb] at hc; cases hc
   ·rw [hb] at hc; cases hc; cases hp
  ·rename_i hbody
   split at hc
   case isFalse => cases hc
   rename_i ho
   have hargs := zydu hh ht has
   have three : ∀ {x y c : Opd}, as = [x, y, c] → ∃ vx vy vc, args.toList.map a.eval = [vx, vy, vc] ∧ Rep w μ A (s.get x) vx ∧ Rep w μ A (s.get y) vy ∧ Rep w μ A (s.get c) vc := by
    intro x y c e
    subst e
    match hl : args.toList.map a.eval, hargs with
    | [vx, vy, vc], h => exact ⟨vx, vy, vc, rfl, h.head, h.tail.head, h.tail.tail.head⟩
    | [], h => have := h.1; simp at this
    | [_], h => have := h.1; simp at this
    | [_, _], h => have := h.1; simp at this
    | _ :: _ :: _ :: _ :: _, h => have := h.1; simp at this
   have fin : ∀ {vx vy vc : Value}, args.toList.map a.eval = [vx, vy, vc] → (∃ u, Rep w μ A r u ∧ (callFunc g #[vx, vy, vc]).run P w = .ok (.value u) w) → ∃ v, Rep w μ A r v ∧ (do
     let d ← resolve a.eval { callee := .value (.func g), args, argTypes := ts } o.type
     invoke d.target d.args : Sem Next).run P w = .ok (.value v) w := by
    intro vx vy vc e ⟨u, hu, hr⟩
    refine ⟨u, hu, ?_⟩
    have ea : args.map a.eval = #[vx, vy, vc] := by apply Array.ext'; simpa using e
    simp only [resolve, Act.eval, Deferred.ofValue, invoke, Sem.run_bind, Sem.run_pure, Result.andThen_ok]
    simp only [Array.append_empty, Array.empty_append, ea]
    exact hr
   split at hc
   ·rename_i hn
    split at hc
    ·cases hc
     obtain ⟨vx, vy, vc, e, rx, ry, rc⟩ := three rfl
     exact fin e (add64_run rx ry rc hv hg hbody hn ho)
    ·cases hc
   ·split at hc
    ·rename_i hn
     split at hc
     ·cases hc
      obtain ⟨vx, vy, vc, e, rx, ry, rc⟩ := three rfl
      exact fin e (sub64_run rx ry rc hv hg hbody hn ho)
     ·cases hc
    ·cases hc
 ·simp only [Option.map_eq_some_iff] at hc; obtain ⟨y, hy, rfl⟩ := hc; cases hp

end Go.Proofs.YtiblnpnfaadmcaaGreat.Am
