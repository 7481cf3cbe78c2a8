import Derived.Test.YtechbfodaallkaaGreatAmGp
set_option linter.unusedVariables false
set_option maxRecDepth 10000
set_option maxHeartbeats 0
namespace Go.Proofs.YtechbfodaallkaaGreat.Am
open Go
/-! gusset gussetlaw05.small -/
noncomputable def gussetlaw05_small.fn : AFun := (gp.fn fid.gussetlaw05_small).getD default
theorem gussetlaw05_small.fn_eq : gp.fn fid.gussetlaw05_small = some gussetlaw05_small.fn := by kernel_rfl
noncomputable def gussetlaw05_small.f (a0 : AV) : Option AV :=
  (opBox [] a0).bind fun r1 => (opFaddr 0 r1.1).bind fun v2 => (opFaddr 0 v2).bind fun v3 => (opLoad r1.2 (some 3) v3).bind fun v4 => (byVal (callW gp) r1.2 fid.gussetlaw05_short [v4]).bind fun v5 => guardK v5 true ((opFaddr 0 r1.1).bind fun v6 => (opFaddr 3 v6).bind fun v7 => (opLoad r1.2 (some 3) v7).bind fun v8 => (byVal (callW gp) r1.2 fid.gussetlaw05_short [v8]).bind fun v9 => guardK v9 true ((opFaddr 6 r1.1).bind fun v10 => (opFaddr 0 v10).bind fun v11 => (opLoad r1.2 (some 3) v11).bind fun v12 => (byVal (callW gp) r1.2 fid.gussetlaw05_short [v12]).bind fun v13 => guardK v13 true ((opFaddr 6 r1.1).bind fun v14 => (opFaddr 3 v14).bind fun v15 => (opLoad r1.2 (some 3) v15).bind fun v16 => (byVal (callW gp) r1.2 fid.gussetlaw05_short [v16]).bind fun v17 => guardK v17 true ((opFaddr 12 r1.1).bind fun v18 => (opFaddr 0 v18).bind fun v19 => (opLoad r1.2 (some 3) v19).bind fun v20 => (byVal (callW gp) r1.2 fid.gussetlaw05_short [v20]).bind fun v21 => guardK v21 true ((opFaddr 12 r1.1).bind fun v22 => (opFaddr 3 v22).bind fun v23 => (opLoad r1.2 (some 3) v23).bind fun v24 => (byVal (callW gp) r1.2 fid.gussetlaw05_short [v24]).bind fun v25 => guardK v25 true ((opFaddr 18 r1.1).bind fun v26 => (opFaddr 0 v26).bind fun v27 => (opLoad r1.2 (some 3) v27).bind fun v28 => (byVal (callW gp) r1.2 fid.gussetlaw05_short [v28]).bind fun v29 => guardK v29 true ((opFaddr 18 r1.1).bind fun v30 => (opFaddr 3 v30).bind fun v31 => (opLoad r1.2 (some 3) v31).bind fun v32 => (byVal (callW gp) r1.2 fid.gussetlaw05_short [v32]).bind fun v33 => freeze r1.2 v33) (freeze r1.2 (.bool false))) (freeze r1.2 (.bool false))) (freeze r1.2 (.bool false))) (freeze r1.2 (.bool false))) (freeze r1.2 (.bool false))) (freeze r1.2 (.bool false))) (freeze r1.2 (.bool false))
theorem gussetlaw05_small.eq (a0 : AV) : cv gp fid.gussetlaw05_small [a0] = gussetlaw05_small.f a0 :=
  (cv_eq gp fid.gussetlaw05_small [a0] gussetlaw05_small.fn_eq).trans (by kernel_rfl)

/-! gusset gussetlaw05.live -/
noncomputable def gussetlaw05_live.fn : AFun := (gp.fn fid.gussetlaw05_live).getD default
theorem gussetlaw05_live.fn_eq : gp.fn fid.gussetlaw05_live = some gussetlaw05_live.fn := by kernel_rfl
noncomputable def gussetlaw05_live.f  : Option AV :=
  (byVal (callW gp) [] fid.gussetlaw05_at [(.int .i64 0), (.int .i64 0)]).bind fun v1 => (byVal (callW gp) [] fid.gussetlaw05_at [(.int .i64 2), (.int .i64 0)]).bind fun v2 => (byVal (callW gp) [] fid.gussetlaw05_at [(.int .i64 0), (.int .i64 2)]).bind fun v3 => (byVal (callW gp) [] fid.gussetlaw05_at [(.int .i64 1), (.int .i64 1)]).bind fun v4 => (byVal (callW gp) [] fid.geom_Circle [v1, v2, v3, v4]).bind fun v5 => (opExt 0 v5).bind fun v6 => (opExt 1 v5).bind fun v7 => (byVal (callW gp) [] fid.gussetlaw05_at [(.int .i64 0), (.int .i64 0)]).bind fun v8 => (byVal (callW gp) [] fid.gussetlaw05_at [(.int .i64 2), (.int .i64 2)]).bind fun v9 => (byVal (callW gp) [] fid.gussetlaw05_at [(.int .i64 0), (.int .i64 2)]).bind fun v10 => (byVal (callW gp) [] fid.gussetlaw05_at [(.int .i64 2), (.int .i64 0)]).bind fun v11 => (byVal (callW gp) [] fid.geom_Meet [v8, v9, v10, v11]).bind fun v12 => (opExt 0 v12).bind fun v13 => (opExt 1 v12).bind fun v14 => (byVal (callW gp) [] fid.gussetlaw05_at [(.int .i64 0), (.int .i64 0)]).bind fun v15 => (byVal (callW gp) [] fid.gussetlaw05_at [(.int .i64 1), (.int .i64 0)]).bind fun v16 => (byVal (callW gp) [] fid.gussetlaw05_at [(.int .i64 2), (.int .i64 0)]).bind fun v17 => (byVal (callW gp) [] fid.gussetlaw05_at [(.int .i64 1), (.int .i64 1)]).bind fun v18 => (byVal (callW gp) [] fid.geom_Circle [v15, v16, v17, v18]).bind fun v19 => (opExt 0 v19).bind fun v20 => (opExt 1 v19).bind fun v21 => (byVal (callW gp) [] fid.gussetlaw05_at [(.int .i64 0), (.int .i64 0)]).bind fun v22 => (byVal (callW gp) [] fid.gussetlaw05_at [(.int .i64 1), (.int .i64 0)]).bind fun v23 => (byVal (callW gp) [] fid.gussetlaw05_at [(.int .i64 0), (.int .i64 1)]).bind fun v24 => (byVal (callW gp) [] fid.geom_Orient [v22, v23, v24]).bind fun v25 => (opExt 0 v25).bind fun v26 => (opExt 1 v25).bind fun v27 => (opBin .eql v6 (.int .i64 1)).bind fun v28 => guardK v28 true ((opBin .eql v7 (.int .i64 0)).bind fun v29 => guardK v29 true ((opBin .eql v13 (.int .i64 1)).bind fun v30 => guardK v30 true ((opBin .eql v14 (.int .i64 0)).bind fun v31 => guardK v31 true ((opBin .eql v21 (.int .i64 6)).bind fun v32 => guardK v32 true ((opBin .eql v26 (.int .i64 1)).bind fun v33 => guardK v33 true ((opBin .eql v27 (.int .i64 0)).bind fun v34 => freeze [] v34) (freeze [] (.bool false))) (freeze [] (.bool false))) (freeze [] (.bool false))) (freeze [] (.bool false))) (freeze [] (.bool false))) (freeze [] (.bool false))
theorem gussetlaw05_live.eq  : cv gp fid.gussetlaw05_live [] = gussetlaw05_live.f  :=
  (cv_eq gp fid.gussetlaw05_live [] gussetlaw05_live.fn_eq).trans (by kernel_rfl)

/-! gusset gussetlaw05.short -/
noncomputable def gussetlaw05_short.fn : AFun := (gp.fn fid.gussetlaw05_short).getD default
theorem gussetlaw05_short.fn_eq : gp.fn fid.gussetlaw05_short = some gussetlaw05_short.fn := by kernel_rfl
noncomputable def gussetlaw05_short.f (a0 : AV) : Option AV :=
  (opBox [] a0).bind fun r1 => (opFaddr 0 r1.1).bind fun v2 => (opFaddr 1 v2).bind fun v3 => (opLoad r1.2 none v3).bind fun v4 => (opLen true v4).bind fun v5 => (opBin .leq v5 (.int .i64 60)).bind fun v6 => guardK v6 true ((opFaddr 2 r1.1).bind fun v7 => (opLoad r1.2 none v7).bind fun v8 => (opLen true v8).bind fun v9 => (opBin .leq v9 (.int .i64 60)).bind fun v10 => freeze r1.2 v10) (freeze r1.2 (.bool false))
theorem gussetlaw05_short.eq (a0 : AV) : cv gp fid.gussetlaw05_short [a0] = gussetlaw05_short.f a0 :=
  (cv_eq gp fid.gussetlaw05_short [a0] gussetlaw05_short.fn_eq).trans (by kernel_rfl)

/-! gusset gussetlaw05.at -/
noncomputable def gussetlaw05_at.fn : AFun := (gp.fn fid.gussetlaw05_at).getD default
theorem gussetlaw05_at.fn_eq : gp.fn fid.gussetlaw05_at = some gussetlaw05_at.fn := by kernel_rfl
noncomputable def gussetlaw05_at.f (a0 : AV) (a1 : AV) : Option AV :=
  (byVal (callW gp) [some [.bool false, .str ⟨#[]⟩, .str ⟨#[]⟩, .bool false, .str ⟨#[]⟩, .str ⟨#[]⟩]] fid.gussetref03_Of [a0]).bind fun v1 => (byVal (callW gp) [some [.bool false, .str ⟨#[]⟩, .str ⟨#[]⟩, .bool false, .str ⟨#[]⟩, .str ⟨#[]⟩]] fid.gussetref03_Of [a1]).bind fun v2 => (opBld [.bool false, .str ⟨#[]⟩, .str ⟨#[]⟩, .bool false, .str ⟨#[]⟩, .str ⟨#[]⟩] [(0, 3, v1), (3, 3, v2)]).bind fun v3 => (opStore [some [.bool false, .str ⟨#[]⟩, .str ⟨#[]⟩, .bool false, .str ⟨#[]⟩, .str ⟨#[]⟩]] 6 (.rp 0 0) v3).bind fun h4 => (opLoad h4 (some 6) (.rp 0 0)).bind fun v5 => freeze h4 v5
theorem gussetlaw05_at.eq (a0 : AV) (a1 : AV) : cv gp fid.gussetlaw05_at [a0, a1] = gussetlaw05_at.f a0 a1 :=
  (cv_eq gp fid.gussetlaw05_at [a0, a1] gussetlaw05_at.fn_eq).trans (by kernel_rfl)

end Go.Proofs.YtechbfodaallkaaGreat.Am
