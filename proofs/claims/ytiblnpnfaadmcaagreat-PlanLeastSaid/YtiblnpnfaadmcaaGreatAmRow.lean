import Derived.Test.YtiblnpnfaadmcaaGreatAmOpen
import Derived.ProofKit
import Derived.OpenShut
import Derived.ShutString
import Derived.ChangeOld
import Derived.Below
import Derived.Carry
import Derived.SizedLaws
/- A statement's row, out of what the abstract machine says of its function. -/
set_option linter.unusedVariables false
set_option maxRecDepth 10000
set_option linter.unusedSectionVars false
namespace Go.Proofs.YtiblnpnfaadmcaaGreat.Am
open Go Go.ChangeShapes Go.WideShapes Go.ChangeAt Go.RowKit

variable [Gl] {H : Type} {enc : TypeId × Value → H}

def Dats (P : Program) (k : Nat) : List TypeId → List AV → Prop
 | [], [] => True
 | t :: ts, a :: as => DatV P k t a ∧ Dats P k ts as
 | _, _ => False

theorem zy0p {P : Program} {W : World} {b2 k : Nat} : ∀ (ts : List TypeId) (vs : List Value) (ds : List (DataW H)) (ps : List MemPlace), ts.all (okO P k) = true →
  (∀ (j : Nat) (t : TypeId) (v : Value), ts[j]? = some t → vs[j]? = some v → Value.okWide P W .any b2 t v) → DataW.TrodAll enc P W 0 (fun _ => true) true ts vs ds ps →
  ds.length = ts.length ∧ ∃ as, RepL W [] (fun b => b < W.heap.size) as vs ∧ Dats P k ts as
 | [], vs, ds, ps, _, _, h => by
  obtain ⟨rfl, rfl, rfl⟩ := trodAll_nil h
  exact ⟨rfl, [], RepL.nil _ _ _, trivial⟩
 | t :: ts, vs, ds, ps, ho, hv, h => by
  obtain ⟨v, vs', d, ds', p, q, rfl, rfl, rfl, h1, h2⟩ := trodAll_cons h
  simp only [List.all_cons, Bool.and_eq_true] at ho
  obtain ⟨hl, as, hr, hd⟩ := zy0p ts vs' ds' q ho.2 (fun j t v h3 h4 => hv (j + 1) t v (by simpa using h3) (by simpa using h4)) h2
  obtain ⟨a, ha, hda⟩ := arg_open ho.1 (hv 0 t v rfl rfl) h1
  exact ⟨by simp [hl], a :: as, RepL.cons ha hr, hda, hd⟩

theorem zy0q {P : Program} {W W' : World} (hl : laidOutB P = true) : ∀ (ts : List TypeId) (vs : List Value) (ds : List (DataW H)) (ps : List MemPlace), (ts.all fun t => P.readableRec t && decide (t < P.types.size)) = true →
  DataW.TrodAll enc P W 0 (fun _ => true) true ts vs ds ps → Below W.heap.size W W' → DataW.TrodAll enc P W' 0 (fun b => decide (b < W.heap.size)) true ts vs ds ps
 | [], vs, ds, ps, _, h, _ => by
  obtain ⟨rfl, rfl, rfl⟩ := trodAll_nil h
  exact trodAll_mk0
 | t :: ts, vs, ds, ps, hr, h, hb => by
  obtain ⟨v, vs', d, ds', p, q, rfl, rfl, rfl, h1, h2⟩ := trodAll_cons h
  simp only [List.all_cons, Bool.and_eq_true, decide_eq_true_eq] at hr
  refine trodAll_cons_mk (Below.trod hl hr.1.1 hr.1.2 h1 hb ?_) (zy0q hl ts vs' ds' q hr.2 h2 hb)
  obtain ⟨m, hm⟩ := h1
  exact DataW.trod_lt m _ _ _ hm

theorem lift_law {C : Checked} (hD : zy02 C.prog) (hG : ∀ g, Gl.cells g = []) {os : Os} {f : FuncId} {fn : Func} {s : ChangeSpec} {live : Nat → List (List Nat)} {refm : Nat → Bool} {k : Nat} {rt : TypeId}
  (own : ownKnob C.prog.godebug = none) (started : os.Started) (noInit : C.prog.inits.idxOf? f = none) (hfn : C.prog.funcs[f]? = some fn)
  (witness : ∃ (w : World) (tape : Tape) (i : Input), w.os = os ∧ (w.forCall tape i).Shaped C.prog ∧ i.vars = [] ∧ Input.okWide C.prog (w.forCall tape i) .any w.heap.size f i ∧
   s.pre6 enc C.prog fn [] false (w.forCall tape i).memory i.args ∧ ({} : Assume).holds C.prog (lone (Frame.enter C.prog f i.args .normal) [] (w.forCall tape i)))
  (hl : laidOutB C.prog = true) (hm : C.prog.follows .mixedOrders = true) (hrt : fn.resultTypes = #[rt]) (hb : C.prog.underlying rt = some .bool) (hvars : s.vars = [])
  (hspec : ∀ ds : List (DataW H), ds.length = fn.params.toList.length → s.fn H ds = { results := [.lit (.bool true)], args := ds })
  (hop : fn.params.toList.all (okO C.prog k) = true) (hrd : (fn.params.toList.all fun t => C.prog.readableRec t && decide (t < C.prog.types.size)) = true)
  (law : ∀ as, Dats C.prog k fn.params.toList as → cv (prog C.prog live refm) f as = some (.bool true)) :
  ReturnsInHanded {} C os f .any (s.pre6 enc C.prog fn [] false) (s.post enc C.prog fn false true false false) := by
 refine returnsInHanded_of_change_sized own started noInit hfn witness ?_
 intro W base args ds gs before hval hW _ _ _
 have hW' := hW
 obtain ⟨p, q, hA, hV, rfl, hfz, hnd⟩ := hW
 rw [hvars] at hV
 obtain ⟨rfl, rfl⟩ := trodVars_none hV
 obtain ⟨hdl, as, hr, hd⟩ := zy0p fn.params.toList args.toList ds p hop (fun j t v h1 h2 => hval j t v (by simpa using h1) (by simpa using h2)) hA
 have hc := cv_calls (P := C.prog) (w := W) hm hD (law as hd) (fun b h => h) (fun g j c h => by rw [hG g] at h; cases h) hr
 rw [show args.toList.toArray = args by simp] at hc
 refine hc.mono fun e W' ⟨u, A', he, hu, h1, h2, h3, h4, h5, _⟩ => ?_
 obtain rfl := hu.bool_inv
 have bel : Below W.heap.size W W' := ⟨h1, h2, h3, h4, h5⟩
 have hsp := hspec ds hdl
 refine ⟨_, he, ds, [], p ++ [], [], p, [], hW', ?_, ?_, ?_, bel.frame _, fun h => by cases h⟩
 ·rw [List.append_nil, hsp, hrt]
  exact trodAll_mk1 (shut_bool hb _)
 ·rw [List.append_nil, hsp]
  exact zy0q hl _ _ _ _ hrd hA bel
 ·rw [List.append_nil, hsp, hvars]
  rfl

end Go.Proofs.YtiblnpnfaadmcaaGreat.Am
