import Derived.Test.YtiblnpnfaadmcaaGreatAmGp
set_option linter.unusedVariables false
set_option maxRecDepth 10000
set_option maxHeartbeats 0
namespace Go.Proofs.YtiblnpnfaadmcaaGreat.Am
open Go
/-! gusset gussetref09.Box -/
noncomputable def zf0q.fn : AFun := (gp.fn fid.zf0q).getD default
theorem zf0q.fn_eq : gp.fn fid.zf0q = some zf0q.fn := by kernel_rfl
noncomputable def zf0q.l0 (y0 : AV) (y1 : AV) (y5 : AV) : Option AV := loopAt gp zf0q.fn [true, true, false, true, false] (fun v h => freeze h v) ⟨frame 26 [(0, y0), (1, y1), (5, y5)], []⟩
noncomputable def zf0q.f (a0 : AV) (a1 : AV) : Option AV :=
  (opLen false a0).bind fun v1 => (opLen false a1).bind fun v2 => (opBin .neq v1 v2).bind fun v3 => condK v3 (freeze [] (.bool false)) (zf0q.l0 a0 a1 (.int .i64 0))
theorem zf0q.l0_eq (y0 : AV) (y1 : AV) (y5 : AV) : zf0q.l0 y0 y1 y5 =
    ((opLen false y0).bind fun v4 => (opBin .lss y5 v4).bind fun v5 => condK v5 ((opSidx 1 y0 y5).bind fun v6 => (opLoad [] none v6).bind fun v7 => (opSidx 1 y1 y5).bind fun v8 => (opLoad [] none v8).bind fun v9 => (opBin .neq v7 v9).bind fun v10 => condK v10 (freeze [] (.bool false)) ((opBin .add y5 (.int .i64 1)).bind fun v11 => zf0q.l0 y0 y1 v11)) (freeze [] (.bool true))) :=
  (loopAt_eq gp zf0q.fn [true, true, false, true, false] (fun v h => freeze h v) ⟨frame 26 [(0, y0), (1, y1), (5, y5)], []⟩).trans (by kernel_rfl)
theorem zf0q.eq (a0 : AV) (a1 : AV) : cv gp fid.zf0q [a0, a1] = zf0q.f a0 a1 :=
  (cv_eq gp fid.zf0q [a0, a1] zf0q.fn_eq).trans (by kernel_rfl)

noncomputable def gussetref09_At.fn : AFun := (gp.fn fid.gussetref09_At).getD default
theorem gussetref09_At.fn_eq : gp.fn fid.gussetref09_At = some gussetref09_At.fn := by kernel_rfl
noncomputable def gussetref09_At.l0 (y0 : AV) (y1 : AV) (y5 : AV) (y6 : AV) (hh : Heap) : Option AV := loopAt gp gussetref09_At.fn [true, true, false, true, false] (fun v h => freeze h v) ⟨frame 34 [(0, y0), (1, y1), (5, y5), (6, y6)], hh⟩
noncomputable def gussetref09_At.f (a0 : AV) (a1 : AV) : Option AV :=
  gussetref09_At.l0 a0 a1 (.is 0 true []) (.int .i64 0) []
theorem gussetref09_At.l0_eq (y0 : AV) (y1 : AV) (y5 : AV) (y6 : AV) (hh : Heap) : gussetref09_At.l0 y0 y1 y5 y6 hh =
    ((opLen false y0).bind fun v1 => (opBin .lss y6 v1).bind fun v2 => condK v2 ((opSidx 3 y0 y6).bind fun v3 => (opFaddr 0 v3).bind fun v4 => (opLoad hh none v4).bind fun v5 => (opBin .eql v5 y1).bind fun v6 => guardK v6 false ((opSidx 3 y0 y6).bind fun v7 => (opFaddr 1 v7).bind fun v8 => (opLoad hh none v8).bind fun v9 => (opBin .eql v9 y1).bind fun v10 => condK v10 ((opBslc 1 1 [.int .i64 0] [(0, y6)]).bind fun v11 => (opApp hh 1 y5 v11).bind fun r12 => (opBin .add y6 (.int .i64 1)).bind fun v15 => gussetref09_At.l0 y0 y1 r12.1 v15 r12.2) ((opBin .add y6 (.int .i64 1)).bind fun v16 => gussetref09_At.l0 y0 y1 y5 v16 hh)) ((opBslc 1 1 [.int .i64 0] [(0, y6)]).bind fun v13 => (opApp hh 1 y5 v13).bind fun r14 => (opBin .add y6 (.int .i64 1)).bind fun v17 => gussetref09_At.l0 y0 y1 r14.1 v17 r14.2)) (freeze hh y5)) :=
  (loopAt_eq gp gussetref09_At.fn [true, true, false, true, false] (fun v h => freeze h v) ⟨frame 34 [(0, y0), (1, y1), (5, y5), (6, y6)], hh⟩).trans (by kernel_rfl)
theorem gussetref09_At.eq (a0 : AV) (a1 : AV) : cv gp fid.gussetref09_At [a0, a1] = gussetref09_At.f a0 a1 :=
  (cv_eq gp fid.gussetref09_At [a0, a1] gussetref09_At.fn_eq).trans (by kernel_rfl)

end Go.Proofs.YtiblnpnfaadmcaaGreat.Am
