import Derived.Test.YtiblnpnfaadmcaaGreatAmGp
set_option linter.unusedVariables false
set_option maxRecDepth 10000
set_option maxHeartbeats 0
namespace Go.Proofs.YtiblnpnfaadmcaaGreat.Am
open Go
/-! gusset gussetref08.SamePoints -/
noncomputable def zf0k.fn : AFun := (gp.fn fid.zf0k).getD default
theorem zf0k.fn_eq : gp.fn fid.zf0k = some zf0k.fn := by kernel_rfl
noncomputable def zf0k.l0 (y0 : AV) (y1 : AV) (y5 : AV) : Option AV := zyao gp zf0k.fn [true, true, false, true, false] (fun v h => zy5v h v) ⟨frame 26 [(0, y0), (1, y1), (5, y5)], []⟩
noncomputable def zf0k.f (a0 : AV) (a1 : AV) : Option AV :=
 (opLen false a0).bind fun v1 => (opLen false a1).bind fun v2 => (opBin .neq v1 v2).bind fun v3 => condK v3 (zy5v [] (.bool false)) (zf0k.l0 a0 a1 (.int .i64 0))
theorem zf0k.l0_eq (y0 : AV) (y1 : AV) (y5 : AV) : zf0k.l0 y0 y1 y5 =
  ((opLen false y0).bind fun v4 => (opBin .lss y5 v4).bind fun v5 => condK v5 ((zydh 6 y0 y5).bind fun v6 => (zyd4 [] (some 6) v6).bind fun v7 => (zydh 6 y1 y5).bind fun v8 => (zyd4 [] (some 6) v8).bind fun v9 => (opEqa true [.b, .s, .s, .b, .s, .s] v7 v9).bind fun v10 => condK v10 (zy5v [] (.bool false)) ((opBin .add y5 (.int .i64 1)).bind fun v11 => zf0k.l0 y0 y1 v11)) (zy5v [] (.bool true))) :=
 (zyar gp zf0k.fn [true, true, false, true, false] (fun v h => zy5v h v) ⟨frame 26 [(0, y0), (1, y1), (5, y5)], []⟩).trans (by kernel_rfl)
theorem zf0k.eq (a0 : AV) (a1 : AV) : cv gp fid.zf0k [a0, a1] = zf0k.f a0 a1 :=
 (cv_eq gp fid.zf0k [a0, a1] zf0k.fn_eq).trans (by kernel_rfl)

noncomputable def zf0l.fn : AFun := (gp.fn fid.zf0l).getD default
theorem zf0l.fn_eq : gp.fn fid.zf0l = some zf0l.fn := by kernel_rfl
noncomputable def zf0l.l0 (y0 : AV) (y1 : AV) (y5 : AV) : Option AV := zyao gp zf0l.fn [true, true, false, true, false] (fun v h => zy5v h v) ⟨frame 26 [(0, y0), (1, y1), (5, y5)], []⟩
noncomputable def zf0l.f (a0 : AV) (a1 : AV) : Option AV :=
 (opLen false a0).bind fun v1 => (opLen false a1).bind fun v2 => (opBin .neq v1 v2).bind fun v3 => condK v3 (zy5v [] (.bool false)) (zf0l.l0 a0 a1 (.int .i64 0))
theorem zf0l.l0_eq (y0 : AV) (y1 : AV) (y5 : AV) : zf0l.l0 y0 y1 y5 =
  ((opLen false y0).bind fun v4 => (opBin .lss y5 v4).bind fun v5 => condK v5 ((zydh 3 y0 y5).bind fun v6 => (zyd4 [] (some 3) v6).bind fun v7 => (zydh 3 y1 y5).bind fun v8 => (zyd4 [] (some 3) v8).bind fun v9 => (opEqa true [.i, .i, .b] v7 v9).bind fun v10 => condK v10 (zy5v [] (.bool false)) ((opBin .add y5 (.int .i64 1)).bind fun v11 => zf0l.l0 y0 y1 v11)) (zy5v [] (.bool true))) :=
 (zyar gp zf0l.fn [true, true, false, true, false] (fun v h => zy5v h v) ⟨frame 26 [(0, y0), (1, y1), (5, y5)], []⟩).trans (by kernel_rfl)
theorem zf0l.eq (a0 : AV) (a1 : AV) : cv gp fid.zf0l [a0, a1] = zf0l.f a0 a1 :=
 (cv_eq gp fid.zf0l [a0, a1] zf0l.fn_eq).trans (by kernel_rfl)

end Go.Proofs.YtiblnpnfaadmcaaGreat.Am
