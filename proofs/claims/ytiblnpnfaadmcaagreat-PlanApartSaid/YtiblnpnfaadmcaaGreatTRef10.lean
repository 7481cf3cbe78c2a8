import Derived.Test.YtiblnpnfaadmcaaGreatAmGp
set_option linter.unusedVariables false
set_option maxRecDepth 10000
set_option maxHeartbeats 0
namespace Go.Proofs.YtiblnpnfaadmcaaGreat.Am
open Go
/-! gusset gussetref09.Box -/
noncomputable def zf0q.fn : AFun := (gp.fn fid.zf0q).getD default
theorem zf0q.fn_eq : gp.fn fid.zf0q = some zf0q.fn := by kernel_rfl
noncomputable def zf0q.l0 (y0 : AV) (y1 : AV) (y5 : AV) : Option AV := zya9 gp zf0q.fn [true, true, false, true, false] (fun v h => zy5t h v) ⟨frame 26 [(0, y0), (1, y1), (5, y5)], []⟩
noncomputable def zf0q.f (a0 : AV) (a1 : AV) : Option AV :=
 (opLen false a0).bind fun v1 => (opLen false a1).bind fun v2 => (opBin .neq v1 v2).bind fun v3 => condK v3 (zy5t [] (.bool false)) (zf0q.l0 a0 a1 (.int .i64 0))
theorem zf0q.l0_eq (y0 : AV) (y1 : AV) (y5 : AV) : zf0q.l0 y0 y1 y5 =
  ((opLen false y0).bind fun v4 => (opBin .lss y5 v4).bind fun v5 => condK v5 ((zyd3 1 y0 y5).bind fun v6 => (zycq [] none v6).bind fun v7 => (zyd3 1 y1 y5).bind fun v8 => (zycq [] none v8).bind fun v9 => (opBin .neq v7 v9).bind fun v10 => condK v10 (zy5t [] (.bool false)) ((opBin .add y5 (.int .i64 1)).bind fun v11 => zf0q.l0 y0 y1 v11)) (zy5t [] (.bool true))) :=
 (zyac gp zf0q.fn [true, true, false, true, false] (fun v h => zy5t h v) ⟨frame 26 [(0, y0), (1, y1), (5, y5)], []⟩).trans (by kernel_rfl)
theorem zf0q.eq (a0 : AV) (a1 : AV) : cv gp fid.zf0q [a0, a1] = zf0q.f a0 a1 :=
 (cv_eq gp fid.zf0q [a0, a1] zf0q.fn_eq).trans (by kernel_rfl)

end Go.Proofs.YtiblnpnfaadmcaaGreat.Am
