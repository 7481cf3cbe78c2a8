import Derived.Test.YtechbfodaallkaaGreatAmGp
set_option linter.unusedVariables false
set_option maxRecDepth 10000
set_option maxHeartbeats 0
namespace Go.Proofs.YtechbfodaallkaaGreat.Am
open Go
/-! gusset poly.Check -/
noncomputable def poly_Check.fn : AFun := (gp.fn fid.poly_Check).getD default
theorem poly_Check.fn_eq : gp.fn fid.poly_Check = some poly_Check.fn := by kernel_rfl
noncomputable def poly_Check.f (a0 : AV) : Option AV :=
  (opBox [] a0).bind fun r1 => (opArrs r1.2 3 6 r1.1).bind fun v2 => (byVal (callW gp) r1.2 fid.poly_asked [v2]).bind fun v3 => freeze r1.2 v3
theorem poly_Check.eq (a0 : AV) : cv gp fid.poly_Check [a0] = poly_Check.f a0 :=
  (cv_eq gp fid.poly_Check [a0] poly_Check.fn_eq).trans (by kernel_rfl)

/-! gusset gussetref07.Check -/
/-! gusset poly.asked -/
noncomputable def poly_asked.fn : AFun := (gp.fn fid.poly_asked).getD default
theorem poly_asked.fn_eq : gp.fn fid.poly_asked = some poly_asked.fn := by kernel_rfl
noncomputable def poly_asked.l0 (y6 : AV) (y7 : AV) (y8 : AV) (hh : Heap) : Option AV := loopAt gp poly_asked.fn [true, false, true, false] (fun v h => freeze h v) ⟨frame 29 [(6, y6), (7, y7), (8, y8)], hh⟩
noncomputable def poly_asked.f (a0 : AV) : Option AV :=
  (opLen false a0).bind fun v1 => poly_asked.l0 a0 v1 (.int .i64 0) []
theorem poly_asked.l0_eq (y6 : AV) (y7 : AV) (y8 : AV) (hh : Heap) : poly_asked.l0 y6 y7 y8 hh =
    ((opBin .lss y8 y7).bind fun v2 => condK v2 ((opSidx 3 y6 y8).bind fun v3 => (opLoad hh (some 3) v3).bind fun v4 => (opStore (@HAppend.hAppend Heap Heap Heap _ hh [some [.bool false, .str ⟨#[]⟩, .str ⟨#[]⟩]]) 3 (.rp (List.length (hh : Heap)) 0) v4).bind fun h5 => (opFaddr 0 (.rp (List.length (hh : Heap)) 0)).bind fun v6 => (opFaddr 1 v6).bind fun v7 => (opLoad h5 none v7).bind fun v8 => (opLen true v8).bind fun v9 => (opBin .gtr v9 (.int .i64 100)).bind fun v10 => guardK v10 false ((opFaddr 2 (.rp (List.length (hh : Heap)) 0)).bind fun v11 => (opLoad h5 none v11).bind fun v12 => (opLen true v12).bind fun v13 => (opBin .gtr v13 (.int .i64 100)).bind fun v14 => condK v14 (freeze h5 (.int .i64 5)) ((opLoad h5 (some 3) (.rp (List.length (hh : Heap)) 0)).bind fun v15 => (byVal (callW gp) h5 fid.rat_Check [v15]).bind fun v16 => (opBin .neq v16 (.int .i64 0)).bind fun v17 => condK v17 (freeze h5 v16) ((opBin .add y8 (.int .i64 1)).bind fun v18 => poly_asked.l0 y6 y7 v18 h5))) (freeze h5 (.int .i64 5))) (freeze hh (.int .i64 0))) :=
  (loopAt_eq gp poly_asked.fn [true, false, true, false] (fun v h => freeze h v) ⟨frame 29 [(6, y6), (7, y7), (8, y8)], hh⟩).trans (by kernel_rfl)
theorem poly_asked.eq (a0 : AV) : cv gp fid.poly_asked [a0] = poly_asked.f a0 :=
  (cv_eq gp fid.poly_asked [a0] poly_asked.fn_eq).trans (by kernel_rfl)

/-! gusset gussetref07.one -/
end Go.Proofs.YtechbfodaallkaaGreat.Am
