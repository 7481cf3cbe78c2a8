import Derived.Test.YtmklpomcdnflbaaGreatAmGp
set_option linter.unusedVariables false
set_option maxRecDepth 10000
set_option maxHeartbeats 0
namespace Go.Proofs.YtmklpomcdnflbaaGreat.Am
open Go
/-! gusset gussetref03.Negate -/
noncomputable def gussetref03_Negate.fn : AFun := (gp.fn fid.gussetref03_Negate).getD default
theorem gussetref03_Negate.fn_eq : gp.fn fid.gussetref03_Negate = some gussetref03_Negate.fn := by kernel_rfl
noncomputable def gussetref03_Negate.f (a0 : AV) : Option AV :=
  (opBox [] a0).bind fun r1 => (opFaddr 0 r1.1).bind fun v2 => (opLoad (r1.2 ++ [some [.bool false, .str ⟨#[]⟩, .str ⟨#[]⟩]]) (some 2) v2).bind fun v3 => (byVal (callW gp) (r1.2 ++ [some [.bool false, .str ⟨#[]⟩, .str ⟨#[]⟩]]) fid.gussetref02_Negate [v3]).bind fun v4 => (opFaddr 2 r1.1).bind fun v5 => (opLoad (r1.2 ++ [some [.bool false, .str ⟨#[]⟩, .str ⟨#[]⟩]]) none v5).bind fun v6 => (opBld [.bool false, .str ⟨#[]⟩, .str ⟨#[]⟩] [(0, 2, v4), (2, 1, v6)]).bind fun v7 => (opStore (r1.2 ++ [some [.bool false, .str ⟨#[]⟩, .str ⟨#[]⟩]]) 3 (.rp (List.length (r1.2 : Heap)) 0) v7).bind fun h8 => (opLoad h8 (some 3) (.rp (List.length (r1.2 : Heap)) 0)).bind fun v9 => freeze h8 v9
theorem gussetref03_Negate.eq (a0 : AV) : cv gp fid.gussetref03_Negate [a0] = gussetref03_Negate.f a0 :=
  (cv_eq gp fid.gussetref03_Negate [a0] gussetref03_Negate.fn_eq).trans (by kernel_rfl)

/-! gusset gussetref03.Sign -/
noncomputable def gussetref03_Sign.fn : AFun := (gp.fn fid.gussetref03_Sign).getD default
theorem gussetref03_Sign.fn_eq : gp.fn fid.gussetref03_Sign = some gussetref03_Sign.fn := by kernel_rfl
noncomputable def gussetref03_Sign.f (a0 : AV) : Option AV :=
  (opBox [] a0).bind fun r1 => (opFaddr 0 r1.1).bind fun v2 => (opFaddr 0 v2).bind fun v3 => (opLoad r1.2 none v3).bind fun v4 => condK v4 (freeze r1.2 (.int .i64 (-1))) ((opFaddr 0 r1.1).bind fun v5 => (opFaddr 1 v5).bind fun v6 => (opLoad r1.2 none v6).bind fun v7 => (opBin .eql v7 (.str ⟨#[]⟩)).bind fun v8 => condK v8 (freeze r1.2 (.int .i64 0)) (freeze r1.2 (.int .i64 1)))
theorem gussetref03_Sign.eq (a0 : AV) : cv gp fid.gussetref03_Sign [a0] = gussetref03_Sign.f a0 :=
  (cv_eq gp fid.gussetref03_Sign [a0] gussetref03_Sign.fn_eq).trans (by kernel_rfl)

/-! gusset gussetref03.Sum -/
noncomputable def gussetref03_Sum.fn : AFun := (gp.fn fid.gussetref03_Sum).getD default
theorem gussetref03_Sum.fn_eq : gp.fn fid.gussetref03_Sum = some gussetref03_Sum.fn := by kernel_rfl
noncomputable def gussetref03_Sum.j0 (y2 : AV) (y3 : AV) (y4 : AV) (y13 : AV) (hh : Heap) : Option AV :=
  condK y13 ((opFaddr 0 y2).bind fun v9 => (opLoad hh (some 2) v9).bind fun v10 => (opFaddr 0 y3).bind fun v11 => (opLoad hh (some 2) v11).bind fun v12 => (byVal (callW gp) hh fid.gussetref02_Sum [v10, v12]).bind fun v13 => (opBld [.bool false, .str ⟨#[]⟩, .str ⟨#[]⟩] [(0, 2, v13), (2, 1, (.str ⟨#[1]⟩))]).bind fun v14 => (opStore hh 3 y4 v14).bind fun h15 => (opLoad h15 (some 3) y4).bind fun v16 => freeze h15 v16) ((opFaddr 0 y2).bind fun v17 => (opLoad hh (some 2) v17).bind fun v18 => (opLoad hh (some 3) y3).bind fun v19 => (byVal (callW gp) hh fid.gussetref03_den [v19]).bind fun v20 => (byVal (callW gp) hh fid.gussetref02_Times [v18, v20]).bind fun v21 => (opFaddr 0 y3).bind fun v22 => (opLoad hh (some 2) v22).bind fun v23 => (opLoad hh (some 3) y2).bind fun v24 => (byVal (callW gp) hh fid.gussetref03_den [v24]).bind fun v25 => (byVal (callW gp) hh fid.gussetref02_Times [v23, v25]).bind fun v26 => (byVal (callW gp) hh fid.gussetref02_Sum [v21, v26]).bind fun v27 => (opStore (hh ++ [some [.bool false, .str ⟨#[]⟩]]) 2 (.rp (List.length (hh : Heap)) 0) v27).bind fun h28 => (opLoad h28 (some 2) (.rp (List.length (hh : Heap)) 0)).bind fun v29 => (opLoad h28 (some 3) y2).bind fun v30 => (byVal (callW gp) h28 fid.gussetref03_den [v30]).bind fun v31 => (opLoad h28 (some 3) y3).bind fun v32 => (byVal (callW gp) h28 fid.gussetref03_den [v32]).bind fun v33 => (byVal (callW gp) h28 fid.gussetref02_Times [v31, v33]).bind fun v34 => (byVal (callW gp) h28 fid.gussetref03_Lowest [v29, v34]).bind fun v35 => (opStore h28 3 y4 v35).bind fun h36 => (opLoad h36 (some 3) y4).bind fun v37 => freeze h36 v37)
noncomputable def gussetref03_Sum.f (a0 : AV) (a1 : AV) : Option AV :=
  (opBox [] a0).bind fun r1 => (opBox r1.2 a1).bind fun r2 => (opFaddr 2 r1.1).bind fun v3 => (opLoad (r2.2 ++ [some [.bool false, .str ⟨#[]⟩, .str ⟨#[]⟩]]) none v3).bind fun v4 => (opBin .eql v4 (.str ⟨#[1]⟩)).bind fun v5 => guardK v5 true ((opFaddr 2 r2.1).bind fun v6 => (opLoad (r2.2 ++ [some [.bool false, .str ⟨#[]⟩, .str ⟨#[]⟩]]) none v6).bind fun v7 => (opBin .eql v7 (.str ⟨#[1]⟩)).bind fun v8 => gussetref03_Sum.j0 r1.1 r2.1 (.rp (List.length (r2.2 : Heap)) 0) v8 (r2.2 ++ [some [.bool false, .str ⟨#[]⟩, .str ⟨#[]⟩]])) (gussetref03_Sum.j0 r1.1 r2.1 (.rp (List.length (r2.2 : Heap)) 0) (.bool false) (r2.2 ++ [some [.bool false, .str ⟨#[]⟩, .str ⟨#[]⟩]]))
theorem gussetref03_Sum.eq (a0 : AV) (a1 : AV) : cv gp fid.gussetref03_Sum [a0, a1] = gussetref03_Sum.f a0 a1 :=
  (cv_eq gp fid.gussetref03_Sum [a0, a1] gussetref03_Sum.fn_eq).trans (by kernel_rfl)

/-! gusset gussetref03.Square -/
noncomputable def gussetref03_Square.fn : AFun := (gp.fn fid.gussetref03_Square).getD default
theorem gussetref03_Square.fn_eq : gp.fn fid.gussetref03_Square = some gussetref03_Square.fn := by kernel_rfl
noncomputable def gussetref03_Square.f (a0 : AV) : Option AV :=
  (opBox [] a0).bind fun r1 => (opLoad (r1.2 ++ [some [.bool false, .str ⟨#[]⟩, .str ⟨#[]⟩]]) (some 3) r1.1).bind fun v2 => (opLoad (r1.2 ++ [some [.bool false, .str ⟨#[]⟩, .str ⟨#[]⟩]]) (some 3) r1.1).bind fun v3 => (byVal (callW gp) (r1.2 ++ [some [.bool false, .str ⟨#[]⟩, .str ⟨#[]⟩]]) fid.gussetref03_Times [v2, v3]).bind fun v4 => (opStore (r1.2 ++ [some [.bool false, .str ⟨#[]⟩, .str ⟨#[]⟩]]) 3 (.rp (List.length (r1.2 : Heap)) 0) v4).bind fun h5 => (opLoad h5 (some 3) (.rp (List.length (r1.2 : Heap)) 0)).bind fun v6 => freeze h5 v6
theorem gussetref03_Square.eq (a0 : AV) : cv gp fid.gussetref03_Square [a0] = gussetref03_Square.f a0 :=
  (cv_eq gp fid.gussetref03_Square [a0] gussetref03_Square.fn_eq).trans (by kernel_rfl)

/-! gusset gussetref03.Times -/
noncomputable def gussetref03_Times.fn : AFun := (gp.fn fid.gussetref03_Times).getD default
theorem gussetref03_Times.fn_eq : gp.fn fid.gussetref03_Times = some gussetref03_Times.fn := by kernel_rfl
noncomputable def gussetref03_Times.j0 (y2 : AV) (y3 : AV) (y4 : AV) (y12 : AV) (hh : Heap) : Option AV :=
  condK y12 ((opFaddr 0 y2).bind fun v9 => (opLoad hh (some 2) v9).bind fun v10 => (opFaddr 0 y3).bind fun v11 => (opLoad hh (some 2) v11).bind fun v12 => (byVal (callW gp) hh fid.gussetref02_Times [v10, v12]).bind fun v13 => (opBld [.bool false, .str ⟨#[]⟩, .str ⟨#[]⟩] [(0, 2, v13), (2, 1, (.str ⟨#[1]⟩))]).bind fun v14 => (opStore hh 3 y4 v14).bind fun h15 => (opLoad h15 (some 3) y4).bind fun v16 => freeze h15 v16) ((opFaddr 0 y2).bind fun v17 => (opLoad hh (some 2) v17).bind fun v18 => (opFaddr 0 y3).bind fun v19 => (opLoad hh (some 2) v19).bind fun v20 => (byVal (callW gp) hh fid.gussetref02_Times [v18, v20]).bind fun v21 => (opLoad hh (some 3) y2).bind fun v22 => (byVal (callW gp) hh fid.gussetref03_den [v22]).bind fun v23 => (opLoad hh (some 3) y3).bind fun v24 => (byVal (callW gp) hh fid.gussetref03_den [v24]).bind fun v25 => (byVal (callW gp) hh fid.gussetref02_Times [v23, v25]).bind fun v26 => (byVal (callW gp) hh fid.gussetref03_Lowest [v21, v26]).bind fun v27 => (opStore hh 3 y4 v27).bind fun h28 => (opLoad h28 (some 3) y4).bind fun v29 => freeze h28 v29)
noncomputable def gussetref03_Times.f (a0 : AV) (a1 : AV) : Option AV :=
  (opBox [] a0).bind fun r1 => (opBox r1.2 a1).bind fun r2 => (opFaddr 2 r1.1).bind fun v3 => (opLoad (r2.2 ++ [some [.bool false, .str ⟨#[]⟩, .str ⟨#[]⟩]]) none v3).bind fun v4 => (opBin .eql v4 (.str ⟨#[1]⟩)).bind fun v5 => guardK v5 true ((opFaddr 2 r2.1).bind fun v6 => (opLoad (r2.2 ++ [some [.bool false, .str ⟨#[]⟩, .str ⟨#[]⟩]]) none v6).bind fun v7 => (opBin .eql v7 (.str ⟨#[1]⟩)).bind fun v8 => gussetref03_Times.j0 r1.1 r2.1 (.rp (List.length (r2.2 : Heap)) 0) v8 (r2.2 ++ [some [.bool false, .str ⟨#[]⟩, .str ⟨#[]⟩]])) (gussetref03_Times.j0 r1.1 r2.1 (.rp (List.length (r2.2 : Heap)) 0) (.bool false) (r2.2 ++ [some [.bool false, .str ⟨#[]⟩, .str ⟨#[]⟩]]))
theorem gussetref03_Times.eq (a0 : AV) (a1 : AV) : cv gp fid.gussetref03_Times [a0, a1] = gussetref03_Times.f a0 a1 :=
  (cv_eq gp fid.gussetref03_Times [a0, a1] gussetref03_Times.fn_eq).trans (by kernel_rfl)

/-! gusset gussetref03.Check -/
noncomputable def gussetref03_Check.fn : AFun := (gp.fn fid.gussetref03_Check).getD default
theorem gussetref03_Check.fn_eq : gp.fn fid.gussetref03_Check = some gussetref03_Check.fn := by kernel_rfl
noncomputable def gussetref03_Check.f (a0 : AV) : Option AV :=
  (opBox [] a0).bind fun r1 => (opFaddr 0 r1.1).bind fun v2 => (opFaddr 1 v2).bind fun v3 => (opLoad r1.2 none v3).bind fun v4 => (opLen true v4).bind fun v5 => (opBin .gtr v5 (.int .i64 8000)).bind fun v6 => guardK v6 false ((opFaddr 2 r1.1).bind fun v7 => (opLoad r1.2 none v7).bind fun v8 => (opLen true v8).bind fun v9 => (opBin .gtr v9 (.int .i64 8000)).bind fun v10 => condK v10 (freeze r1.2 (.int .i64 5)) ((opFaddr 0 r1.1).bind fun v11 => (opLoad r1.2 (some 2) v11).bind fun v12 => (byVal (callW gp) r1.2 fid.gussetref02_Check [v12]).bind fun v13 => (opBin .neq v13 (.int .i64 0)).bind fun v14 => guardK v14 false ((opFaddr 2 r1.1).bind fun v15 => (opLoad r1.2 none v15).bind fun v16 => (byVal (callW gp) r1.2 fid.gussetref01_IsNat [v16]).bind fun v17 => (opUn .not v17).bind fun v18 => guardK v18 false ((opFaddr 2 r1.1).bind fun v19 => (opLoad r1.2 none v19).bind fun v20 => (opBin .eql v20 (.str ⟨#[]⟩)).bind fun v21 => guardK v21 false ((opFaddr 0 r1.1).bind fun v22 => (opLoad r1.2 (some 2) v22).bind fun v23 => (opLoad r1.2 (some 3) r1.1).bind fun v24 => (byVal (callW gp) r1.2 fid.gussetref03_den [v24]).bind fun v25 => (byVal (callW gp) r1.2 fid.gussetref02_Common [v23, v25]).bind fun v26 => (opFld 1 none v26).bind fun v27 => (opBin .neq v27 (.str ⟨#[1]⟩)).bind fun v28 => condK v28 (freeze r1.2 (.int .i64 1)) (freeze r1.2 (.int .i64 0))) (freeze r1.2 (.int .i64 1))) (freeze r1.2 (.int .i64 1))) (freeze r1.2 (.int .i64 1)))) (freeze r1.2 (.int .i64 5))
theorem gussetref03_Check.eq (a0 : AV) : cv gp fid.gussetref03_Check [a0] = gussetref03_Check.f a0 :=
  (cv_eq gp fid.gussetref03_Check [a0] gussetref03_Check.fn_eq).trans (by kernel_rfl)

/-! gusset gussetref03.Of -/
noncomputable def gussetref03_Of.fn : AFun := (gp.fn fid.gussetref03_Of).getD default
theorem gussetref03_Of.fn_eq : gp.fn fid.gussetref03_Of = some gussetref03_Of.fn := by kernel_rfl
noncomputable def gussetref03_Of.f (a0 : AV) : Option AV :=
  (byVal (callW gp) [some [.bool false, .str ⟨#[]⟩, .str ⟨#[]⟩]] fid.gussetref02_Of [a0]).bind fun v1 => (opBld [.bool false, .str ⟨#[]⟩, .str ⟨#[]⟩] [(0, 2, v1), (2, 1, (.str ⟨#[1]⟩))]).bind fun v2 => (opStore [some [.bool false, .str ⟨#[]⟩, .str ⟨#[]⟩]] 3 (.rp 0 0) v2).bind fun h3 => (opLoad h3 (some 3) (.rp 0 0)).bind fun v4 => freeze h3 v4
theorem gussetref03_Of.eq (a0 : AV) : cv gp fid.gussetref03_Of [a0] = gussetref03_Of.f a0 :=
  (cv_eq gp fid.gussetref03_Of [a0] gussetref03_Of.fn_eq).trans (by kernel_rfl)

/-! gusset gussetref02.Negate -/
noncomputable def gussetref02_Negate.fn : AFun := (gp.fn fid.gussetref02_Negate).getD default
theorem gussetref02_Negate.fn_eq : gp.fn fid.gussetref02_Negate = some gussetref02_Negate.fn := by kernel_rfl
noncomputable def gussetref02_Negate.f (a0 : AV) : Option AV :=
  (opBox [] a0).bind fun r1 => (opFaddr 0 r1.1).bind fun v2 => (opLoad (r1.2 ++ [some [.bool false, .str ⟨#[]⟩]]) none v2).bind fun v3 => (opUn .not v3).bind fun v4 => guardK v4 true ((opFaddr 1 r1.1).bind fun v5 => (opLoad (r1.2 ++ [some [.bool false, .str ⟨#[]⟩]]) none v5).bind fun v6 => (opBin .neq v6 (.str ⟨#[]⟩)).bind fun v7 => (opFaddr 1 r1.1).bind fun v8 => (opLoad (r1.2 ++ [some [.bool false, .str ⟨#[]⟩]]) none v8).bind fun v9 => (opBld [.bool false, .str ⟨#[]⟩] [(0, 1, v7), (1, 1, v9)]).bind fun v10 => (opStore (r1.2 ++ [some [.bool false, .str ⟨#[]⟩]]) 2 (.rp (List.length (r1.2 : Heap)) 0) v10).bind fun h11 => (opLoad h11 (some 2) (.rp (List.length (r1.2 : Heap)) 0)).bind fun v16 => freeze h11 v16) ((opFaddr 1 r1.1).bind fun v12 => (opLoad (r1.2 ++ [some [.bool false, .str ⟨#[]⟩]]) none v12).bind fun v13 => (opBld [.bool false, .str ⟨#[]⟩] [(0, 1, (.bool false)), (1, 1, v13)]).bind fun v14 => (opStore (r1.2 ++ [some [.bool false, .str ⟨#[]⟩]]) 2 (.rp (List.length (r1.2 : Heap)) 0) v14).bind fun h15 => (opLoad h15 (some 2) (.rp (List.length (r1.2 : Heap)) 0)).bind fun v17 => freeze h15 v17)
theorem gussetref02_Negate.eq (a0 : AV) : cv gp fid.gussetref02_Negate [a0] = gussetref02_Negate.f a0 :=
  (cv_eq gp fid.gussetref02_Negate [a0] gussetref02_Negate.fn_eq).trans (by kernel_rfl)

/-! gusset rat.Add -/
noncomputable def rat_Add.fn : AFun := (gp.fn fid.rat_Add).getD default
theorem rat_Add.fn_eq : gp.fn fid.rat_Add = some rat_Add.fn := by kernel_rfl
noncomputable def rat_Add.f (a0 : AV) (a1 : AV) : Option AV :=
  (opBox [] a0).bind fun r1 => (opBox r1.2 a1).bind fun r2 => (opLoad (r2.2 ++ [some [.bool false, .str ⟨#[]⟩, .str ⟨#[]⟩]]) (some 3) r1.1).bind fun v3 => (opLoad (r2.2 ++ [some [.bool false, .str ⟨#[]⟩, .str ⟨#[]⟩]]) (some 3) r2.1).bind fun v4 => (byVal (callW gp) (r2.2 ++ [some [.bool false, .str ⟨#[]⟩, .str ⟨#[]⟩]]) fid.rat_over [v3, v4, (.fn fid.whole_Add [])]).bind fun v5 => (opExt 0 v5).bind fun v6 => (opExt 1 v5).bind fun v7 => (opStore (r2.2 ++ [some [.bool false, .str ⟨#[]⟩, .str ⟨#[]⟩]]) 3 (.rp (List.length (r2.2 : Heap)) 0) v6).bind fun h8 => (opLoad h8 (some 3) (.rp (List.length (r2.2 : Heap)) 0)).bind fun v9 => freeze h8 (.tup [v9, v7])
theorem rat_Add.eq (a0 : AV) (a1 : AV) : cv gp fid.rat_Add [a0, a1] = rat_Add.f a0 a1 :=
  (cv_eq gp fid.rat_Add [a0, a1] rat_Add.fn_eq).trans (by kernel_rfl)

/-! gusset rat.Sub -/
noncomputable def rat_Sub.fn : AFun := (gp.fn fid.rat_Sub).getD default
theorem rat_Sub.fn_eq : gp.fn fid.rat_Sub = some rat_Sub.fn := by kernel_rfl
noncomputable def rat_Sub.f (a0 : AV) (a1 : AV) : Option AV :=
  (opBox [] a0).bind fun r1 => (opBox r1.2 a1).bind fun r2 => (opLoad (r2.2 ++ [some [.bool false, .str ⟨#[]⟩, .str ⟨#[]⟩]]) (some 3) r1.1).bind fun v3 => (opLoad (r2.2 ++ [some [.bool false, .str ⟨#[]⟩, .str ⟨#[]⟩]]) (some 3) r2.1).bind fun v4 => (byVal (callW gp) (r2.2 ++ [some [.bool false, .str ⟨#[]⟩, .str ⟨#[]⟩]]) fid.rat_over [v3, v4, (.fn fid.whole_Sub [])]).bind fun v5 => (opExt 0 v5).bind fun v6 => (opExt 1 v5).bind fun v7 => (opStore (r2.2 ++ [some [.bool false, .str ⟨#[]⟩, .str ⟨#[]⟩]]) 3 (.rp (List.length (r2.2 : Heap)) 0) v6).bind fun h8 => (opLoad h8 (some 3) (.rp (List.length (r2.2 : Heap)) 0)).bind fun v9 => freeze h8 (.tup [v9, v7])
theorem rat_Sub.eq (a0 : AV) (a1 : AV) : cv gp fid.rat_Sub [a0, a1] = rat_Sub.f a0 a1 :=
  (cv_eq gp fid.rat_Sub [a0, a1] rat_Sub.fn_eq).trans (by kernel_rfl)

/-! gusset gussetref02.Sum -/
noncomputable def gussetref02_Sum.fn : AFun := (gp.fn fid.gussetref02_Sum).getD default
theorem gussetref02_Sum.fn_eq : gp.fn fid.gussetref02_Sum = some gussetref02_Sum.fn := by kernel_rfl
noncomputable def gussetref02_Sum.f (a0 : AV) (a1 : AV) : Option AV :=
  (opBox [] a0).bind fun r1 => (opBox r1.2 a1).bind fun r2 => (opFaddr 1 r1.1).bind fun v3 => (opLoad (r2.2 ++ [some [.bool false, .str ⟨#[]⟩]]) none v3).bind fun v4 => (byVal (callW gp) (r2.2 ++ [some [.bool false, .str ⟨#[]⟩]]) fid.gussetref01_Digits [v4]).bind fun v5 => (opFaddr 1 r2.1).bind fun v6 => (opLoad (r2.2 ++ [some [.bool false, .str ⟨#[]⟩]]) none v6).bind fun v7 => (byVal (callW gp) (r2.2 ++ [some [.bool false, .str ⟨#[]⟩]]) fid.gussetref01_Digits [v7]).bind fun v8 => (opFaddr 0 r1.1).bind fun v9 => (opLoad (r2.2 ++ [some [.bool false, .str ⟨#[]⟩]]) none v9).bind fun v10 => (opFaddr 0 r2.1).bind fun v11 => (opLoad (r2.2 ++ [some [.bool false, .str ⟨#[]⟩]]) none v11).bind fun v12 => (opBeq false v10 v12).bind fun v13 => condK v13 ((opFaddr 0 r1.1).bind fun v14 => (opLoad (r2.2 ++ [some [.bool false, .str ⟨#[]⟩]]) none v14).bind fun v15 => (byVal (callW gp) (r2.2 ++ [some [.bool false, .str ⟨#[]⟩]]) fid.gussetref01_Add [v5, v8]).bind fun v16 => (byVal (callW gp) (r2.2 ++ [some [.bool false, .str ⟨#[]⟩]]) fid.gussetref02_make0 [v15, v16]).bind fun v17 => (opStore (r2.2 ++ [some [.bool false, .str ⟨#[]⟩]]) 2 (.rp (List.length (r2.2 : Heap)) 0) v17).bind fun h18 => (opLoad h18 (some 2) (.rp (List.length (r2.2 : Heap)) 0)).bind fun v19 => freeze h18 v19) ((byVal (callW gp) (r2.2 ++ [some [.bool false, .str ⟨#[]⟩]]) fid.gussetref01_Cmp [v5, v8]).bind fun v20 => (opBin .geq v20 (.int .i64 0)).bind fun v21 => condK v21 ((opFaddr 0 r1.1).bind fun v22 => (opLoad (r2.2 ++ [some [.bool false, .str ⟨#[]⟩]]) none v22).bind fun v23 => (byVal (callW gp) (r2.2 ++ [some [.bool false, .str ⟨#[]⟩]]) fid.gussetref01_Sub [v5, v8]).bind fun v24 => (byVal (callW gp) (r2.2 ++ [some [.bool false, .str ⟨#[]⟩]]) fid.gussetref02_make0 [v23, v24]).bind fun v25 => (opStore (r2.2 ++ [some [.bool false, .str ⟨#[]⟩]]) 2 (.rp (List.length (r2.2 : Heap)) 0) v25).bind fun h26 => (opLoad h26 (some 2) (.rp (List.length (r2.2 : Heap)) 0)).bind fun v27 => freeze h26 v27) ((opFaddr 0 r2.1).bind fun v28 => (opLoad (r2.2 ++ [some [.bool false, .str ⟨#[]⟩]]) none v28).bind fun v29 => (byVal (callW gp) (r2.2 ++ [some [.bool false, .str ⟨#[]⟩]]) fid.gussetref01_Sub [v8, v5]).bind fun v30 => (byVal (callW gp) (r2.2 ++ [some [.bool false, .str ⟨#[]⟩]]) fid.gussetref02_make0 [v29, v30]).bind fun v31 => (opStore (r2.2 ++ [some [.bool false, .str ⟨#[]⟩]]) 2 (.rp (List.length (r2.2 : Heap)) 0) v31).bind fun h32 => (opLoad h32 (some 2) (.rp (List.length (r2.2 : Heap)) 0)).bind fun v33 => freeze h32 v33))
theorem gussetref02_Sum.eq (a0 : AV) (a1 : AV) : cv gp fid.gussetref02_Sum [a0, a1] = gussetref02_Sum.f a0 a1 :=
  (cv_eq gp fid.gussetref02_Sum [a0, a1] gussetref02_Sum.fn_eq).trans (by kernel_rfl)

/-! gusset gussetref02.Times -/
noncomputable def gussetref02_Times.fn : AFun := (gp.fn fid.gussetref02_Times).getD default
theorem gussetref02_Times.fn_eq : gp.fn fid.gussetref02_Times = some gussetref02_Times.fn := by kernel_rfl
noncomputable def gussetref02_Times.f (a0 : AV) (a1 : AV) : Option AV :=
  (opBox [] a0).bind fun r1 => (opBox r1.2 a1).bind fun r2 => (opFaddr 0 r1.1).bind fun v3 => (opLoad (r2.2 ++ [some [.bool false, .str ⟨#[]⟩]]) none v3).bind fun v4 => (opFaddr 0 r2.1).bind fun v5 => (opLoad (r2.2 ++ [some [.bool false, .str ⟨#[]⟩]]) none v5).bind fun v6 => (opBeq true v4 v6).bind fun v7 => (opFaddr 1 r1.1).bind fun v8 => (opLoad (r2.2 ++ [some [.bool false, .str ⟨#[]⟩]]) none v8).bind fun v9 => (byVal (callW gp) (r2.2 ++ [some [.bool false, .str ⟨#[]⟩]]) fid.gussetref01_Digits [v9]).bind fun v10 => (opFaddr 1 r2.1).bind fun v11 => (opLoad (r2.2 ++ [some [.bool false, .str ⟨#[]⟩]]) none v11).bind fun v12 => (byVal (callW gp) (r2.2 ++ [some [.bool false, .str ⟨#[]⟩]]) fid.gussetref01_Digits [v12]).bind fun v13 => (byVal (callW gp) (r2.2 ++ [some [.bool false, .str ⟨#[]⟩]]) fid.gussetref01_Mul [v10, v13]).bind fun v14 => (byVal (callW gp) (r2.2 ++ [some [.bool false, .str ⟨#[]⟩]]) fid.gussetref02_make0 [v7, v14]).bind fun v15 => (opStore (r2.2 ++ [some [.bool false, .str ⟨#[]⟩]]) 2 (.rp (List.length (r2.2 : Heap)) 0) v15).bind fun h16 => (opLoad h16 (some 2) (.rp (List.length (r2.2 : Heap)) 0)).bind fun v17 => freeze h16 v17
theorem gussetref02_Times.eq (a0 : AV) (a1 : AV) : cv gp fid.gussetref02_Times [a0, a1] = gussetref02_Times.f a0 a1 :=
  (cv_eq gp fid.gussetref02_Times [a0, a1] gussetref02_Times.fn_eq).trans (by kernel_rfl)

/-! gusset gussetref03.den -/
noncomputable def gussetref03_den.fn : AFun := (gp.fn fid.gussetref03_den).getD default
theorem gussetref03_den.fn_eq : gp.fn fid.gussetref03_den = some gussetref03_den.fn := by kernel_rfl
noncomputable def gussetref03_den.f (a0 : AV) : Option AV :=
  (opBox [] a0).bind fun r1 => (opFaddr 2 r1.1).bind fun v2 => (opLoad (r1.2 ++ [some [.bool false, .str ⟨#[]⟩]]) none v2).bind fun v3 => (opBld [.bool false, .str ⟨#[]⟩] [(1, 1, v3)]).bind fun v4 => (opStore (r1.2 ++ [some [.bool false, .str ⟨#[]⟩]]) 2 (.rp (List.length (r1.2 : Heap)) 0) v4).bind fun h5 => (opLoad h5 (some 2) (.rp (List.length (r1.2 : Heap)) 0)).bind fun v6 => freeze h5 v6
theorem gussetref03_den.eq (a0 : AV) : cv gp fid.gussetref03_den [a0] = gussetref03_den.f a0 :=
  (cv_eq gp fid.gussetref03_den [a0] gussetref03_den.fn_eq).trans (by kernel_rfl)

/-! gusset gussetref03.Lowest -/
noncomputable def gussetref03_Lowest.fn : AFun := (gp.fn fid.gussetref03_Lowest).getD default
theorem gussetref03_Lowest.fn_eq : gp.fn fid.gussetref03_Lowest = some gussetref03_Lowest.fn := by kernel_rfl
noncomputable def gussetref03_Lowest.j0 (y2 : AV) (y3 : AV) (y4 : AV) (y5 : AV) (hh : Heap) : Option AV :=
  (opFaddr 1 y5).bind fun v15 => (opLoad hh none v15).bind fun v16 => (opBin .eql v16 (.str ⟨#[1]⟩)).bind fun v17 => condK v17 ((opLoad hh (some 2) y2).bind fun v18 => (opFaddr 1 y3).bind fun v19 => (opLoad hh none v19).bind fun v20 => (opBld [.bool false, .str ⟨#[]⟩, .str ⟨#[]⟩] [(0, 2, v18), (2, 1, v20)]).bind fun v21 => (opStore hh 3 y4 v21).bind fun h22 => (opLoad h22 (some 3) y4).bind fun v23 => freeze h22 v23) ((opFaddr 1 y2).bind fun v24 => (opLoad hh none v24).bind fun v25 => (byVal (callW gp) hh fid.gussetref01_Digits [v25]).bind fun v26 => (opFaddr 1 y5).bind fun v27 => (opLoad hh none v27).bind fun v28 => (byVal (callW gp) hh fid.gussetref01_Digits [v28]).bind fun v29 => (byVal (callW gp) hh fid.gussetref01_DivMod [v26, v29]).bind fun v30 => (opExt 0 v30).bind fun v31 => (opExt 1 v30).bind fun v32 => (opFaddr 1 y3).bind fun v33 => (opLoad hh none v33).bind fun v34 => (byVal (callW gp) hh fid.gussetref01_Digits [v34]).bind fun v35 => (opFaddr 1 y5).bind fun v36 => (opLoad hh none v36).bind fun v37 => (byVal (callW gp) hh fid.gussetref01_Digits [v37]).bind fun v38 => (byVal (callW gp) hh fid.gussetref01_DivMod [v35, v38]).bind fun v39 => (opExt 0 v39).bind fun v40 => (opExt 1 v39).bind fun v41 => (opFaddr 0 y2).bind fun v42 => (opLoad hh none v42).bind fun v43 => (byVal (callW gp) hh fid.gussetref01_Nat [v31]).bind fun v44 => (opBld [.bool false, .str ⟨#[]⟩] [(0, 1, v43), (1, 1, v44)]).bind fun v45 => (byVal (callW gp) hh fid.gussetref01_Nat [v40]).bind fun v46 => (opBld [.bool false, .str ⟨#[]⟩, .str ⟨#[]⟩] [(0, 2, v45), (2, 1, v46)]).bind fun v47 => (opStore hh 3 y4 v47).bind fun h48 => (opLoad h48 (some 3) y4).bind fun v49 => freeze h48 v49)
noncomputable def gussetref03_Lowest.f (a0 : AV) (a1 : AV) : Option AV :=
  (opBox [] a0).bind fun r1 => (opBox r1.2 a1).bind fun r2 => (opLoad (r2.2 ++ [some [.bool false, .str ⟨#[]⟩, .str ⟨#[]⟩]]) (some 2) r1.1).bind fun v3 => (opLoad (r2.2 ++ [some [.bool false, .str ⟨#[]⟩, .str ⟨#[]⟩]]) (some 2) r2.1).bind fun v4 => (byVal (callW gp) (r2.2 ++ [some [.bool false, .str ⟨#[]⟩, .str ⟨#[]⟩]]) fid.gussetref02_Common [v3, v4]).bind fun v5 => (opStore ((r2.2 ++ [some [.bool false, .str ⟨#[]⟩, .str ⟨#[]⟩]]) ++ [some [.bool false, .str ⟨#[]⟩]]) 2 (.rp (List.length ((r2.2 ++ [some [.bool false, .str ⟨#[]⟩, .str ⟨#[]⟩]]) : Heap)) 0) v5).bind fun h6 => (opFaddr 0 r2.1).bind fun v7 => (opLoad h6 none v7).bind fun v8 => condK v8 ((opLoad h6 (some 2) r1.1).bind fun v9 => (byVal (callW gp) h6 fid.gussetref02_Negate [v9]).bind fun v10 => (opStore h6 2 r1.1 v10).bind fun h11 => (opLoad h11 (some 2) r2.1).bind fun v12 => (byVal (callW gp) h11 fid.gussetref02_Negate [v12]).bind fun v13 => (opStore h11 2 r2.1 v13).bind fun h14 => gussetref03_Lowest.j0 r1.1 r2.1 (.rp (List.length (r2.2 : Heap)) 0) (.rp (List.length ((r2.2 ++ [some [.bool false, .str ⟨#[]⟩, .str ⟨#[]⟩]]) : Heap)) 0) h14) (gussetref03_Lowest.j0 r1.1 r2.1 (.rp (List.length (r2.2 : Heap)) 0) (.rp (List.length ((r2.2 ++ [some [.bool false, .str ⟨#[]⟩, .str ⟨#[]⟩]]) : Heap)) 0) h6)
theorem gussetref03_Lowest.eq (a0 : AV) (a1 : AV) : cv gp fid.gussetref03_Lowest [a0, a1] = gussetref03_Lowest.f a0 a1 :=
  (cv_eq gp fid.gussetref03_Lowest [a0, a1] gussetref03_Lowest.fn_eq).trans (by kernel_rfl)

/-! gusset rat.Mul -/
noncomputable def rat_Mul.fn : AFun := (gp.fn fid.rat_Mul).getD default
theorem rat_Mul.fn_eq : gp.fn fid.rat_Mul = some rat_Mul.fn := by kernel_rfl
noncomputable def rat_Mul.f (a0 : AV) (a1 : AV) : Option AV :=
  (opBox [] a0).bind fun r1 => (opBox r1.2 a1).bind fun r2 => (opLoad (r2.2 ++ [some [.bool false, .str ⟨#[]⟩, .str ⟨#[]⟩]]) (some 3) r1.1).bind fun v3 => (opLoad (r2.2 ++ [some [.bool false, .str ⟨#[]⟩, .str ⟨#[]⟩]]) (some 3) r2.1).bind fun v4 => (byVal (callW gp) (r2.2 ++ [some [.bool false, .str ⟨#[]⟩, .str ⟨#[]⟩]]) fid.rat_both [v3, v4]).bind fun v5 => (opBin .neq v5 (.int .i64 0)).bind fun v6 => condK v6 ((opBld [.bool false, .str ⟨#[]⟩, .str ⟨#[]⟩] []).bind fun v7 => (opStore (r2.2 ++ [some [.bool false, .str ⟨#[]⟩, .str ⟨#[]⟩]]) 3 (.rp (List.length (r2.2 : Heap)) 0) v7).bind fun h8 => (opLoad h8 (some 3) (.rp (List.length (r2.2 : Heap)) 0)).bind fun v9 => freeze h8 (.tup [v9, v5])) ((opFaddr 0 r1.1).bind fun v10 => (opLoad (r2.2 ++ [some [.bool false, .str ⟨#[]⟩, .str ⟨#[]⟩]]) (some 2) v10).bind fun v11 => (opFaddr 0 r2.1).bind fun v12 => (opLoad (r2.2 ++ [some [.bool false, .str ⟨#[]⟩, .str ⟨#[]⟩]]) (some 2) v12).bind fun v13 => (byVal (callW gp) (r2.2 ++ [some [.bool false, .str ⟨#[]⟩, .str ⟨#[]⟩]]) fid.rat_do [(.fn fid.whole_Mul []), v11, v13]).bind fun v14 => (opLoad (r2.2 ++ [some [.bool false, .str ⟨#[]⟩, .str ⟨#[]⟩]]) (some 3) r1.1).bind fun v15 => (byVal (callW gp) (r2.2 ++ [some [.bool false, .str ⟨#[]⟩, .str ⟨#[]⟩]]) fid.rat_den [v15]).bind fun v16 => (opLoad (r2.2 ++ [some [.bool false, .str ⟨#[]⟩, .str ⟨#[]⟩]]) (some 3) r2.1).bind fun v17 => (byVal (callW gp) (r2.2 ++ [some [.bool false, .str ⟨#[]⟩, .str ⟨#[]⟩]]) fid.rat_den [v17]).bind fun v18 => (byVal (callW gp) (r2.2 ++ [some [.bool false, .str ⟨#[]⟩, .str ⟨#[]⟩]]) fid.rat_do [(.fn fid.whole_Mul []), v16, v18]).bind fun v19 => (byVal (callW gp) (r2.2 ++ [some [.bool false, .str ⟨#[]⟩, .str ⟨#[]⟩]]) fid.rat_lowest [v14, v19]).bind fun v20 => (opStore (r2.2 ++ [some [.bool false, .str ⟨#[]⟩, .str ⟨#[]⟩]]) 3 (.rp (List.length (r2.2 : Heap)) 0) v20).bind fun h21 => (opLoad h21 (some 3) (.rp (List.length (r2.2 : Heap)) 0)).bind fun v22 => freeze h21 (.tup [v22, (.int .i64 0)]))
theorem rat_Mul.eq (a0 : AV) (a1 : AV) : cv gp fid.rat_Mul [a0, a1] = rat_Mul.f a0 a1 :=
  (cv_eq gp fid.rat_Mul [a0, a1] rat_Mul.fn_eq).trans (by kernel_rfl)

/-! gusset gussetref03.Both -/
noncomputable def gussetref03_Both.fn : AFun := (gp.fn fid.gussetref03_Both).getD default
theorem gussetref03_Both.fn_eq : gp.fn fid.gussetref03_Both = some gussetref03_Both.fn := by kernel_rfl
noncomputable def gussetref03_Both.f (a0 : AV) (a1 : AV) : Option AV :=
  (opBox [] a0).bind fun r1 => (opBox r1.2 a1).bind fun r2 => (opLoad r2.2 (some 3) r1.1).bind fun v3 => (byVal (callW gp) r2.2 fid.gussetref03_Check [v3]).bind fun v4 => (opBin .neq v4 (.int .i64 0)).bind fun v5 => condK v5 (freeze r2.2 v4) ((opLoad r2.2 (some 3) r2.1).bind fun v6 => (byVal (callW gp) r2.2 fid.gussetref03_Check [v6]).bind fun v7 => freeze r2.2 v7)
theorem gussetref03_Both.eq (a0 : AV) (a1 : AV) : cv gp fid.gussetref03_Both [a0, a1] = gussetref03_Both.f a0 a1 :=
  (cv_eq gp fid.gussetref03_Both [a0, a1] gussetref03_Both.fn_eq).trans (by kernel_rfl)

/-! gusset gussetref02.Check -/
noncomputable def gussetref02_Check.fn : AFun := (gp.fn fid.gussetref02_Check).getD default
theorem gussetref02_Check.fn_eq : gp.fn fid.gussetref02_Check = some gussetref02_Check.fn := by kernel_rfl
noncomputable def gussetref02_Check.f (a0 : AV) : Option AV :=
  (opBox [] a0).bind fun r1 => (opFaddr 1 r1.1).bind fun v2 => (opLoad r1.2 none v2).bind fun v3 => (opLen true v3).bind fun v4 => (opBin .gtr v4 (.int .i64 32000)).bind fun v5 => condK v5 (freeze r1.2 (.int .i64 5)) ((opFaddr 1 r1.1).bind fun v6 => (opLoad r1.2 none v6).bind fun v7 => (byVal (callW gp) r1.2 fid.gussetref01_IsNat [v7]).bind fun v8 => (opUn .not v8).bind fun v9 => guardK v9 false ((opFaddr 0 r1.1).bind fun v10 => (opLoad r1.2 none v10).bind fun v11 => guardK v11 true ((opFaddr 1 r1.1).bind fun v12 => (opLoad r1.2 none v12).bind fun v13 => (opBin .eql v13 (.str ⟨#[]⟩)).bind fun v14 => condK v14 (freeze r1.2 (.int .i64 1)) (freeze r1.2 (.int .i64 0))) (freeze r1.2 (.int .i64 0))) (freeze r1.2 (.int .i64 1)))
theorem gussetref02_Check.eq (a0 : AV) : cv gp fid.gussetref02_Check [a0] = gussetref02_Check.f a0 :=
  (cv_eq gp fid.gussetref02_Check [a0] gussetref02_Check.fn_eq).trans (by kernel_rfl)

/-! gusset gussetref02.Common -/
noncomputable def gussetref02_Common.fn : AFun := (gp.fn fid.gussetref02_Common).getD default
theorem gussetref02_Common.fn_eq : gp.fn fid.gussetref02_Common = some gussetref02_Common.fn := by kernel_rfl
noncomputable def gussetref02_Common.f (a0 : AV) (a1 : AV) : Option AV :=
  (opBox [] a0).bind fun r1 => (opBox r1.2 a1).bind fun r2 => (opFaddr 1 r1.1).bind fun v3 => (opLoad (r2.2 ++ [some [.bool false, .str ⟨#[]⟩]]) none v3).bind fun v4 => (byVal (callW gp) (r2.2 ++ [some [.bool false, .str ⟨#[]⟩]]) fid.gussetref01_Digits [v4]).bind fun v5 => (opFaddr 1 r2.1).bind fun v6 => (opLoad (r2.2 ++ [some [.bool false, .str ⟨#[]⟩]]) none v6).bind fun v7 => (byVal (callW gp) (r2.2 ++ [some [.bool false, .str ⟨#[]⟩]]) fid.gussetref01_Digits [v7]).bind fun v8 => (byVal (callW gp) (r2.2 ++ [some [.bool false, .str ⟨#[]⟩]]) fid.gussetref01_Gcd [v5, v8]).bind fun v9 => (byVal (callW gp) (r2.2 ++ [some [.bool false, .str ⟨#[]⟩]]) fid.gussetref02_make0 [(.bool false), v9]).bind fun v10 => (opStore (r2.2 ++ [some [.bool false, .str ⟨#[]⟩]]) 2 (.rp (List.length (r2.2 : Heap)) 0) v10).bind fun h11 => (opLoad h11 (some 2) (.rp (List.length (r2.2 : Heap)) 0)).bind fun v12 => freeze h11 v12
theorem gussetref02_Common.eq (a0 : AV) (a1 : AV) : cv gp fid.gussetref02_Common [a0, a1] = gussetref02_Common.f a0 a1 :=
  (cv_eq gp fid.gussetref02_Common [a0, a1] gussetref02_Common.fn_eq).trans (by kernel_rfl)

/-! gusset gussetref03.Less -/
noncomputable def gussetref03_Less.fn : AFun := (gp.fn fid.gussetref03_Less).getD default
theorem gussetref03_Less.fn_eq : gp.fn fid.gussetref03_Less = some gussetref03_Less.fn := by kernel_rfl
noncomputable def gussetref03_Less.f (a0 : AV) (a1 : AV) : Option AV :=
  (opBox [] a0).bind fun r1 => (opBox r1.2 a1).bind fun r2 => (opLoad (r2.2 ++ [some [.bool false, .str ⟨#[]⟩, .str ⟨#[]⟩]]) (some 3) r1.1).bind fun v3 => (opLoad (r2.2 ++ [some [.bool false, .str ⟨#[]⟩, .str ⟨#[]⟩]]) (some 3) r2.1).bind fun v4 => (byVal (callW gp) (r2.2 ++ [some [.bool false, .str ⟨#[]⟩, .str ⟨#[]⟩]]) fid.gussetref03_Negate [v4]).bind fun v5 => (byVal (callW gp) (r2.2 ++ [some [.bool false, .str ⟨#[]⟩, .str ⟨#[]⟩]]) fid.gussetref03_Sum [v3, v5]).bind fun v6 => (opStore (r2.2 ++ [some [.bool false, .str ⟨#[]⟩, .str ⟨#[]⟩]]) 3 (.rp (List.length (r2.2 : Heap)) 0) v6).bind fun h7 => (opLoad h7 (some 3) (.rp (List.length (r2.2 : Heap)) 0)).bind fun v8 => freeze h7 v8
theorem gussetref03_Less.eq (a0 : AV) (a1 : AV) : cv gp fid.gussetref03_Less [a0, a1] = gussetref03_Less.f a0 a1 :=
  (cv_eq gp fid.gussetref03_Less [a0, a1] gussetref03_Less.fn_eq).trans (by kernel_rfl)

/-! gusset gussetref03.Frac -/
noncomputable def gussetref03_Frac.fn : AFun := (gp.fn fid.gussetref03_Frac).getD default
theorem gussetref03_Frac.fn_eq : gp.fn fid.gussetref03_Frac = some gussetref03_Frac.fn := by kernel_rfl
noncomputable def gussetref03_Frac.f (a0 : AV) (a1 : AV) : Option AV :=
  (byVal (callW gp) [some [.bool false, .str ⟨#[]⟩, .str ⟨#[]⟩]] fid.gussetref02_Of [a0]).bind fun v1 => (byVal (callW gp) [some [.bool false, .str ⟨#[]⟩, .str ⟨#[]⟩]] fid.gussetref02_Of [a1]).bind fun v2 => (byVal (callW gp) [some [.bool false, .str ⟨#[]⟩, .str ⟨#[]⟩]] fid.gussetref03_Lowest [v1, v2]).bind fun v3 => (opStore [some [.bool false, .str ⟨#[]⟩, .str ⟨#[]⟩]] 3 (.rp 0 0) v3).bind fun h4 => (opLoad h4 (some 3) (.rp 0 0)).bind fun v5 => freeze h4 v5
theorem gussetref03_Frac.eq (a0 : AV) (a1 : AV) : cv gp fid.gussetref03_Frac [a0, a1] = gussetref03_Frac.f a0 a1 :=
  (cv_eq gp fid.gussetref03_Frac [a0, a1] gussetref03_Frac.fn_eq).trans (by kernel_rfl)

/-! gusset rat.Of -/
noncomputable def rat_Of.fn : AFun := (gp.fn fid.rat_Of).getD default
theorem rat_Of.fn_eq : gp.fn fid.rat_Of = some rat_Of.fn := by kernel_rfl
noncomputable def rat_Of.f (a0 : AV) : Option AV :=
  (byVal (callW gp) [some [.bool false, .str ⟨#[]⟩, .str ⟨#[]⟩]] fid.whole_Of [a0]).bind fun v1 => (opBld [.bool false, .str ⟨#[]⟩, .str ⟨#[]⟩] [(0, 2, v1), (2, 1, (.str ⟨#[1]⟩))]).bind fun v2 => (opStore [some [.bool false, .str ⟨#[]⟩, .str ⟨#[]⟩]] 3 (.rp 0 0) v2).bind fun h3 => (opLoad h3 (some 3) (.rp 0 0)).bind fun v4 => freeze h3 v4
theorem rat_Of.eq (a0 : AV) : cv gp fid.rat_Of [a0] = rat_Of.f a0 :=
  (cv_eq gp fid.rat_Of [a0] rat_Of.fn_eq).trans (by kernel_rfl)

/-! gusset rat.Div -/
noncomputable def rat_Div.fn : AFun := (gp.fn fid.rat_Div).getD default
theorem rat_Div.fn_eq : gp.fn fid.rat_Div = some rat_Div.fn := by kernel_rfl
noncomputable def rat_Div.f (a0 : AV) (a1 : AV) : Option AV :=
  (opBox [] a0).bind fun r1 => (opBox r1.2 a1).bind fun r2 => (opLoad (r2.2 ++ [some [.bool false, .str ⟨#[]⟩, .str ⟨#[]⟩]]) (some 3) r1.1).bind fun v3 => (opLoad (r2.2 ++ [some [.bool false, .str ⟨#[]⟩, .str ⟨#[]⟩]]) (some 3) r2.1).bind fun v4 => (byVal (callW gp) (r2.2 ++ [some [.bool false, .str ⟨#[]⟩, .str ⟨#[]⟩]]) fid.rat_both [v3, v4]).bind fun v5 => (opBin .neq v5 (.int .i64 0)).bind fun v6 => condK v6 ((opBld [.bool false, .str ⟨#[]⟩, .str ⟨#[]⟩] []).bind fun v7 => (opStore (r2.2 ++ [some [.bool false, .str ⟨#[]⟩, .str ⟨#[]⟩]]) 3 (.rp (List.length (r2.2 : Heap)) 0) v7).bind fun h8 => (opLoad h8 (some 3) (.rp (List.length (r2.2 : Heap)) 0)).bind fun v9 => freeze h8 (.tup [v9, v5])) ((opFaddr 0 r2.1).bind fun v10 => (opFaddr 1 v10).bind fun v11 => (opLoad (r2.2 ++ [some [.bool false, .str ⟨#[]⟩, .str ⟨#[]⟩]]) none v11).bind fun v12 => (opBin .eql v12 (.str ⟨#[]⟩)).bind fun v13 => condK v13 ((opBld [.bool false, .str ⟨#[]⟩, .str ⟨#[]⟩] []).bind fun v14 => (opStore (r2.2 ++ [some [.bool false, .str ⟨#[]⟩, .str ⟨#[]⟩]]) 3 (.rp (List.length (r2.2 : Heap)) 0) v14).bind fun h15 => (opLoad h15 (some 3) (.rp (List.length (r2.2 : Heap)) 0)).bind fun v16 => freeze h15 (.tup [v16, (.int .i64 3)])) ((opFaddr 0 r1.1).bind fun v17 => (opLoad (r2.2 ++ [some [.bool false, .str ⟨#[]⟩, .str ⟨#[]⟩]]) (some 2) v17).bind fun v18 => (opLoad (r2.2 ++ [some [.bool false, .str ⟨#[]⟩, .str ⟨#[]⟩]]) (some 3) r2.1).bind fun v19 => (byVal (callW gp) (r2.2 ++ [some [.bool false, .str ⟨#[]⟩, .str ⟨#[]⟩]]) fid.rat_den [v19]).bind fun v20 => (byVal (callW gp) (r2.2 ++ [some [.bool false, .str ⟨#[]⟩, .str ⟨#[]⟩]]) fid.rat_do [(.fn fid.whole_Mul []), v18, v20]).bind fun v21 => (opLoad (r2.2 ++ [some [.bool false, .str ⟨#[]⟩, .str ⟨#[]⟩]]) (some 3) r1.1).bind fun v22 => (byVal (callW gp) (r2.2 ++ [some [.bool false, .str ⟨#[]⟩, .str ⟨#[]⟩]]) fid.rat_den [v22]).bind fun v23 => (opFaddr 0 r2.1).bind fun v24 => (opLoad (r2.2 ++ [some [.bool false, .str ⟨#[]⟩, .str ⟨#[]⟩]]) (some 2) v24).bind fun v25 => (byVal (callW gp) (r2.2 ++ [some [.bool false, .str ⟨#[]⟩, .str ⟨#[]⟩]]) fid.rat_do [(.fn fid.whole_Mul []), v23, v25]).bind fun v26 => (byVal (callW gp) (r2.2 ++ [some [.bool false, .str ⟨#[]⟩, .str ⟨#[]⟩]]) fid.rat_lowest [v21, v26]).bind fun v27 => (opStore (r2.2 ++ [some [.bool false, .str ⟨#[]⟩, .str ⟨#[]⟩]]) 3 (.rp (List.length (r2.2 : Heap)) 0) v27).bind fun h28 => (opLoad h28 (some 3) (.rp (List.length (r2.2 : Heap)) 0)).bind fun v29 => freeze h28 (.tup [v29, (.int .i64 0)])))
theorem rat_Div.eq (a0 : AV) (a1 : AV) : cv gp fid.rat_Div [a0, a1] = rat_Div.f a0 a1 :=
  (cv_eq gp fid.rat_Div [a0, a1] rat_Div.fn_eq).trans (by kernel_rfl)

/-! gusset rat.Check -/
noncomputable def rat_Check.fn : AFun := (gp.fn fid.rat_Check).getD default
theorem rat_Check.fn_eq : gp.fn fid.rat_Check = some rat_Check.fn := by kernel_rfl
noncomputable def rat_Check.f (a0 : AV) : Option AV :=
  (opBox [] a0).bind fun r1 => (opFaddr 0 r1.1).bind fun v2 => (opFaddr 1 v2).bind fun v3 => (opLoad r1.2 none v3).bind fun v4 => (opLen true v4).bind fun v5 => (opBin .gtr v5 (.int .i64 8000)).bind fun v6 => guardK v6 false ((opFaddr 2 r1.1).bind fun v7 => (opLoad r1.2 none v7).bind fun v8 => (opLen true v8).bind fun v9 => (opBin .gtr v9 (.int .i64 8000)).bind fun v10 => condK v10 (freeze r1.2 (.int .i64 5)) ((opFaddr 0 r1.1).bind fun v11 => (opLoad r1.2 (some 2) v11).bind fun v12 => (byVal (callW gp) r1.2 fid.whole_Check [v12]).bind fun v13 => (opBin .neq v13 (.int .i64 0)).bind fun v14 => guardK v14 false ((opLoad r1.2 (some 3) r1.1).bind fun v15 => (byVal (callW gp) r1.2 fid.rat_den [v15]).bind fun v16 => (byVal (callW gp) r1.2 fid.whole_Check [v16]).bind fun v17 => (opBin .neq v17 (.int .i64 0)).bind fun v18 => guardK v18 false ((opFaddr 2 r1.1).bind fun v19 => (opLoad r1.2 none v19).bind fun v20 => (opBin .eql v20 (.str ⟨#[]⟩)).bind fun v21 => condK v21 (freeze r1.2 (.int .i64 1)) ((opFaddr 2 r1.1).bind fun v22 => (opLoad r1.2 none v22).bind fun v23 => (opBin .eql v23 (.str ⟨#[1]⟩)).bind fun v24 => condK v24 (freeze r1.2 (.int .i64 0)) ((opFaddr 0 r1.1).bind fun v25 => (opLoad r1.2 (some 2) v25).bind fun v26 => (opLoad r1.2 (some 3) r1.1).bind fun v27 => (byVal (callW gp) r1.2 fid.rat_den [v27]).bind fun v28 => (byVal (callW gp) r1.2 fid.whole_Gcd [v26, v28]).bind fun v29 => (opExt 0 v29).bind fun v30 => (opExt 1 v29).bind fun v31 => (opStore (r1.2 ++ [some [.bool false, .str ⟨#[]⟩]]) 2 (.rp (List.length (r1.2 : Heap)) 0) v30).bind fun h32 => (opFaddr 1 (.rp (List.length (r1.2 : Heap)) 0)).bind fun v33 => (opLoad h32 none v33).bind fun v34 => (opBin .neq v34 (.str ⟨#[1]⟩)).bind fun v35 => condK v35 (freeze h32 (.int .i64 1)) (freeze h32 (.int .i64 0))))) (freeze r1.2 (.int .i64 1))) (freeze r1.2 (.int .i64 1)))) (freeze r1.2 (.int .i64 5))
theorem rat_Check.eq (a0 : AV) : cv gp fid.rat_Check [a0] = rat_Check.f a0 :=
  (cv_eq gp fid.rat_Check [a0] rat_Check.fn_eq).trans (by kernel_rfl)

/-! gusset num.Catch -/
noncomputable def num_Catch.fn : AFun := (gp.fn fid.num_Catch).getD default
theorem num_Catch.fn_eq : gp.fn fid.num_Catch = some num_Catch.fn := by kernel_rfl
noncomputable def num_Catch.f (a0 : AV) : Option AV :=
  none
theorem num_Catch.eq (a0 : AV) : cv gp fid.num_Catch [a0] = num_Catch.f a0 :=
  (cv_eq gp fid.num_Catch [a0] num_Catch.fn_eq).trans (by kernel_rfl)

/-! gusset num.Div -/
noncomputable def num_Div.fn : AFun := (gp.fn fid.num_Div).getD default
theorem num_Div.fn_eq : gp.fn fid.num_Div = some num_Div.fn := by kernel_rfl
noncomputable def num_Div.f (a0 : AV) (a1 : AV) : Option AV :=
  (opBox [] a0).bind fun r1 => (opBox r1.2 a1).bind fun r2 => (opLoad (r2.2 ++ [some [.bool false, .str ⟨#[]⟩, .str ⟨#[]⟩]]) (some 3) r1.1).bind fun v3 => (opLoad (r2.2 ++ [some [.bool false, .str ⟨#[]⟩, .str ⟨#[]⟩]]) (some 3) r2.1).bind fun v4 => (byVal (callW gp) (r2.2 ++ [some [.bool false, .str ⟨#[]⟩, .str ⟨#[]⟩]]) fid.rat_Div [v3, v4]).bind fun v5 => (opExt 0 v5).bind fun v6 => (opExt 1 v5).bind fun v7 => (byVal (callW gp) (r2.2 ++ [some [.bool false, .str ⟨#[]⟩, .str ⟨#[]⟩]]) fid.num_must [v6, v7]).bind fun v8 => (opStore (r2.2 ++ [some [.bool false, .str ⟨#[]⟩, .str ⟨#[]⟩]]) 3 (.rp (List.length (r2.2 : Heap)) 0) v8).bind fun h9 => (opLoad h9 (some 3) (.rp (List.length (r2.2 : Heap)) 0)).bind fun v10 => freeze h9 v10
theorem num_Div.eq (a0 : AV) (a1 : AV) : cv gp fid.num_Div [a0, a1] = num_Div.f a0 a1 :=
  (cv_eq gp fid.num_Div [a0, a1] num_Div.fn_eq).trans (by kernel_rfl)

/-! gusset num.Add -/
noncomputable def num_Add.fn : AFun := (gp.fn fid.num_Add).getD default
theorem num_Add.fn_eq : gp.fn fid.num_Add = some num_Add.fn := by kernel_rfl
noncomputable def num_Add.f (a0 : AV) (a1 : AV) : Option AV :=
  (opBox [] a0).bind fun r1 => (opBox r1.2 a1).bind fun r2 => (opLoad (r2.2 ++ [some [.bool false, .str ⟨#[]⟩, .str ⟨#[]⟩]]) (some 3) r1.1).bind fun v3 => (opLoad (r2.2 ++ [some [.bool false, .str ⟨#[]⟩, .str ⟨#[]⟩]]) (some 3) r2.1).bind fun v4 => (byVal (callW gp) (r2.2 ++ [some [.bool false, .str ⟨#[]⟩, .str ⟨#[]⟩]]) fid.rat_Add [v3, v4]).bind fun v5 => (opExt 0 v5).bind fun v6 => (opExt 1 v5).bind fun v7 => (byVal (callW gp) (r2.2 ++ [some [.bool false, .str ⟨#[]⟩, .str ⟨#[]⟩]]) fid.num_must [v6, v7]).bind fun v8 => (opStore (r2.2 ++ [some [.bool false, .str ⟨#[]⟩, .str ⟨#[]⟩]]) 3 (.rp (List.length (r2.2 : Heap)) 0) v8).bind fun h9 => (opLoad h9 (some 3) (.rp (List.length (r2.2 : Heap)) 0)).bind fun v10 => freeze h9 v10
theorem num_Add.eq (a0 : AV) (a1 : AV) : cv gp fid.num_Add [a0, a1] = num_Add.f a0 a1 :=
  (cv_eq gp fid.num_Add [a0, a1] num_Add.fn_eq).trans (by kernel_rfl)

/-! gusset num.Mul -/
noncomputable def num_Mul.fn : AFun := (gp.fn fid.num_Mul).getD default
theorem num_Mul.fn_eq : gp.fn fid.num_Mul = some num_Mul.fn := by kernel_rfl
noncomputable def num_Mul.f (a0 : AV) (a1 : AV) : Option AV :=
  (opBox [] a0).bind fun r1 => (opBox r1.2 a1).bind fun r2 => (opLoad (r2.2 ++ [some [.bool false, .str ⟨#[]⟩, .str ⟨#[]⟩]]) (some 3) r1.1).bind fun v3 => (opLoad (r2.2 ++ [some [.bool false, .str ⟨#[]⟩, .str ⟨#[]⟩]]) (some 3) r2.1).bind fun v4 => (byVal (callW gp) (r2.2 ++ [some [.bool false, .str ⟨#[]⟩, .str ⟨#[]⟩]]) fid.rat_Mul [v3, v4]).bind fun v5 => (opExt 0 v5).bind fun v6 => (opExt 1 v5).bind fun v7 => (byVal (callW gp) (r2.2 ++ [some [.bool false, .str ⟨#[]⟩, .str ⟨#[]⟩]]) fid.num_must [v6, v7]).bind fun v8 => (opStore (r2.2 ++ [some [.bool false, .str ⟨#[]⟩, .str ⟨#[]⟩]]) 3 (.rp (List.length (r2.2 : Heap)) 0) v8).bind fun h9 => (opLoad h9 (some 3) (.rp (List.length (r2.2 : Heap)) 0)).bind fun v10 => freeze h9 v10
theorem num_Mul.eq (a0 : AV) (a1 : AV) : cv gp fid.num_Mul [a0, a1] = num_Mul.f a0 a1 :=
  (cv_eq gp fid.num_Mul [a0, a1] num_Mul.fn_eq).trans (by kernel_rfl)

/-! gusset gussetref03.Over -/
noncomputable def gussetref03_Over.fn : AFun := (gp.fn fid.gussetref03_Over).getD default
theorem gussetref03_Over.fn_eq : gp.fn fid.gussetref03_Over = some gussetref03_Over.fn := by kernel_rfl
noncomputable def gussetref03_Over.f (a0 : AV) (a1 : AV) : Option AV :=
  (opBox [] a0).bind fun r1 => (opBox r1.2 a1).bind fun r2 => (opFaddr 0 r1.1).bind fun v3 => (opLoad (r2.2 ++ [some [.bool false, .str ⟨#[]⟩, .str ⟨#[]⟩]]) (some 2) v3).bind fun v4 => (opLoad (r2.2 ++ [some [.bool false, .str ⟨#[]⟩, .str ⟨#[]⟩]]) (some 3) r2.1).bind fun v5 => (byVal (callW gp) (r2.2 ++ [some [.bool false, .str ⟨#[]⟩, .str ⟨#[]⟩]]) fid.gussetref03_den [v5]).bind fun v6 => (byVal (callW gp) (r2.2 ++ [some [.bool false, .str ⟨#[]⟩, .str ⟨#[]⟩]]) fid.gussetref02_Times [v4, v6]).bind fun v7 => (opLoad (r2.2 ++ [some [.bool false, .str ⟨#[]⟩, .str ⟨#[]⟩]]) (some 3) r1.1).bind fun v8 => (byVal (callW gp) (r2.2 ++ [some [.bool false, .str ⟨#[]⟩, .str ⟨#[]⟩]]) fid.gussetref03_den [v8]).bind fun v9 => (opFaddr 0 r2.1).bind fun v10 => (opLoad (r2.2 ++ [some [.bool false, .str ⟨#[]⟩, .str ⟨#[]⟩]]) (some 2) v10).bind fun v11 => (byVal (callW gp) (r2.2 ++ [some [.bool false, .str ⟨#[]⟩, .str ⟨#[]⟩]]) fid.gussetref02_Times [v9, v11]).bind fun v12 => (byVal (callW gp) (r2.2 ++ [some [.bool false, .str ⟨#[]⟩, .str ⟨#[]⟩]]) fid.gussetref03_Lowest [v7, v12]).bind fun v13 => (opStore (r2.2 ++ [some [.bool false, .str ⟨#[]⟩, .str ⟨#[]⟩]]) 3 (.rp (List.length (r2.2 : Heap)) 0) v13).bind fun h14 => (opLoad h14 (some 3) (.rp (List.length (r2.2 : Heap)) 0)).bind fun v15 => freeze h14 v15
theorem gussetref03_Over.eq (a0 : AV) (a1 : AV) : cv gp fid.gussetref03_Over [a0, a1] = gussetref03_Over.f a0 a1 :=
  (cv_eq gp fid.gussetref03_Over [a0, a1] gussetref03_Over.fn_eq).trans (by kernel_rfl)

/-! gusset gussetref02.Of -/
noncomputable def gussetref02_Of.fn : AFun := (gp.fn fid.gussetref02_Of).getD default
theorem gussetref02_Of.fn_eq : gp.fn fid.gussetref02_Of = some gussetref02_Of.fn := by kernel_rfl
noncomputable def gussetref02_Of.f (a0 : AV) : Option AV :=
  (opBin .lss a0 (.int .i64 0)).bind fun v1 => condK v1 ((opBin .add a0 (.int .i64 1)).bind fun v2 => (opUn .neg v2).bind fun v3 => (opConv .u64 v3).bind fun v4 => (opBin .add v4 (nat .u64 1)).bind fun v5 => (opBslc 1 1 [nat .u64 0] [(0, v5)]).bind fun v6 => (byVal (callW gp) [some [.bool false, .str ⟨#[]⟩]] fid.gussetref01_Split [v6]).bind fun v7 => (byVal (callW gp) [some [.bool false, .str ⟨#[]⟩]] fid.gussetref02_make0 [(.bool true), v7]).bind fun v8 => (opStore [some [.bool false, .str ⟨#[]⟩]] 2 (.rp 0 0) v8).bind fun h9 => (opLoad h9 (some 2) (.rp 0 0)).bind fun v10 => freeze h9 v10) ((opConv .u64 a0).bind fun v11 => (opBslc 1 1 [nat .u64 0] [(0, v11)]).bind fun v12 => (byVal (callW gp) [some [.bool false, .str ⟨#[]⟩]] fid.gussetref01_Split [v12]).bind fun v13 => (byVal (callW gp) [some [.bool false, .str ⟨#[]⟩]] fid.gussetref02_make0 [(.bool false), v13]).bind fun v14 => (opStore [some [.bool false, .str ⟨#[]⟩]] 2 (.rp 0 0) v14).bind fun h15 => (opLoad h15 (some 2) (.rp 0 0)).bind fun v16 => freeze h15 v16)
theorem gussetref02_Of.eq (a0 : AV) : cv gp fid.gussetref02_Of [a0] = gussetref02_Of.f a0 :=
  (cv_eq gp fid.gussetref02_Of [a0] gussetref02_Of.fn_eq).trans (by kernel_rfl)

/-! gusset rat.over -/
noncomputable def rat_over.fn : AFun := (gp.fn fid.rat_over).getD default
theorem rat_over.fn_eq : gp.fn fid.rat_over = some rat_over.fn := by kernel_rfl
noncomputable def rat_over.j0 (y2 : AV) (y3 : AV) (y4 : AV) (y6 : AV) (y24 : AV) (hh : Heap) : Option AV :=
  condK y24 ((opFaddr 0 y3).bind fun v16 => (opLoad hh (some 2) v16).bind fun v17 => (opFaddr 0 y4).bind fun v18 => (opLoad hh (some 2) v18).bind fun v19 => (byVal (callW gp) hh fid.rat_do [y2, v17, v19]).bind fun v20 => (opBld [.bool false, .str ⟨#[]⟩, .str ⟨#[]⟩] [(0, 2, v20), (2, 1, (.str ⟨#[1]⟩))]).bind fun v21 => (opStore hh 3 y6 v21).bind fun h22 => (opLoad h22 (some 3) y6).bind fun v23 => freeze h22 (.tup [v23, (.int .i64 0)])) ((opFaddr 0 y3).bind fun v24 => (opLoad hh (some 2) v24).bind fun v25 => (opLoad hh (some 3) y4).bind fun v26 => (byVal (callW gp) hh fid.rat_den [v26]).bind fun v27 => (byVal (callW gp) hh fid.rat_do [(.fn fid.whole_Mul []), v25, v27]).bind fun v28 => (opFaddr 0 y4).bind fun v29 => (opLoad hh (some 2) v29).bind fun v30 => (opLoad hh (some 3) y3).bind fun v31 => (byVal (callW gp) hh fid.rat_den [v31]).bind fun v32 => (byVal (callW gp) hh fid.rat_do [(.fn fid.whole_Mul []), v30, v32]).bind fun v33 => (byVal (callW gp) hh fid.rat_do [y2, v28, v33]).bind fun v34 => (opStore (hh ++ [some [.bool false, .str ⟨#[]⟩]]) 2 (.rp (List.length (hh : Heap)) 0) v34).bind fun h35 => (opLoad h35 (some 2) (.rp (List.length (hh : Heap)) 0)).bind fun v36 => (opLoad h35 (some 3) y3).bind fun v37 => (byVal (callW gp) h35 fid.rat_den [v37]).bind fun v38 => (opLoad h35 (some 3) y4).bind fun v39 => (byVal (callW gp) h35 fid.rat_den [v39]).bind fun v40 => (byVal (callW gp) h35 fid.rat_do [(.fn fid.whole_Mul []), v38, v40]).bind fun v41 => (byVal (callW gp) h35 fid.rat_lowest [v36, v41]).bind fun v42 => (opStore h35 3 y6 v42).bind fun h43 => (opLoad h43 (some 3) y6).bind fun v44 => freeze h43 (.tup [v44, (.int .i64 0)]))
noncomputable def rat_over.f (a0 : AV) (a1 : AV) (a2 : AV) : Option AV :=
  (opBox [] a0).bind fun r1 => (opBox r1.2 a1).bind fun r2 => (opLoad (r2.2 ++ [some [.bool false, .str ⟨#[]⟩, .str ⟨#[]⟩]]) (some 3) r1.1).bind fun v3 => (opLoad (r2.2 ++ [some [.bool false, .str ⟨#[]⟩, .str ⟨#[]⟩]]) (some 3) r2.1).bind fun v4 => (byVal (callW gp) (r2.2 ++ [some [.bool false, .str ⟨#[]⟩, .str ⟨#[]⟩]]) fid.rat_both [v3, v4]).bind fun v5 => (opBin .neq v5 (.int .i64 0)).bind fun v6 => condK v6 ((opBld [.bool false, .str ⟨#[]⟩, .str ⟨#[]⟩] []).bind fun v7 => (opStore (r2.2 ++ [some [.bool false, .str ⟨#[]⟩, .str ⟨#[]⟩]]) 3 (.rp (List.length (r2.2 : Heap)) 0) v7).bind fun h8 => (opLoad h8 (some 3) (.rp (List.length (r2.2 : Heap)) 0)).bind fun v9 => freeze h8 (.tup [v9, v5])) ((opFaddr 2 r1.1).bind fun v10 => (opLoad (r2.2 ++ [some [.bool false, .str ⟨#[]⟩, .str ⟨#[]⟩]]) none v10).bind fun v11 => (opBin .eql v11 (.str ⟨#[1]⟩)).bind fun v12 => guardK v12 true ((opFaddr 2 r2.1).bind fun v13 => (opLoad (r2.2 ++ [some [.bool false, .str ⟨#[]⟩, .str ⟨#[]⟩]]) none v13).bind fun v14 => (opBin .eql v14 (.str ⟨#[1]⟩)).bind fun v15 => rat_over.j0 a2 r1.1 r2.1 (.rp (List.length (r2.2 : Heap)) 0) v15 (r2.2 ++ [some [.bool false, .str ⟨#[]⟩, .str ⟨#[]⟩]])) (rat_over.j0 a2 r1.1 r2.1 (.rp (List.length (r2.2 : Heap)) 0) (.bool false) (r2.2 ++ [some [.bool false, .str ⟨#[]⟩, .str ⟨#[]⟩]])))
theorem rat_over.eq (a0 : AV) (a1 : AV) (a2 : AV) : cv gp fid.rat_over [a0, a1, a2] = rat_over.f a0 a1 a2 :=
  (cv_eq gp fid.rat_over [a0, a1, a2] rat_over.fn_eq).trans (by kernel_rfl)

/-! gusset whole.Add -/
noncomputable def whole_Add.fn : AFun := (gp.fn fid.whole_Add).getD default
theorem whole_Add.fn_eq : gp.fn fid.whole_Add = some whole_Add.fn := by kernel_rfl
noncomputable def whole_Add.f (a0 : AV) (a1 : AV) : Option AV :=
  (opBox [] a0).bind fun r1 => (opBox r1.2 a1).bind fun r2 => (opLoad (r2.2 ++ [some [.bool false, .str ⟨#[]⟩]]) (some 2) r1.1).bind fun v3 => (opLoad (r2.2 ++ [some [.bool false, .str ⟨#[]⟩]]) (some 2) r2.1).bind fun v4 => (opBslc 2 2 [.bool false, .str ⟨#[]⟩] [(0, v3), (1, v4)]).bind fun v5 => (callW gp fid.whole_read [v5] (r2.2 ++ [some [.bool false, .str ⟨#[]⟩]])).bind fun r6 => (opExt 0 r6.1).bind fun v7 => (opExt 1 r6.1).bind fun v8 => (opBin .neq v8 (.int .i64 0)).bind fun v9 => condK v9 ((opBld [.bool false, .str ⟨#[]⟩] []).bind fun v10 => (opStore r6.2 2 (.rp (List.length (r2.2 : Heap)) 0) v10).bind fun h11 => (opLoad h11 (some 2) (.rp (List.length (r2.2 : Heap)) 0)).bind fun v12 => freeze h11 (.tup [v12, v8])) ((opSidx 2 v7 (.int .i64 0)).bind fun v13 => (opLoad r6.2 (some 2) v13).bind fun v14 => (opSidx 2 v7 (.int .i64 1)).bind fun v15 => (opLoad r6.2 (some 2) v15).bind fun v16 => (byVal (callW gp) r6.2 fid.whole_sum [v14, v16]).bind fun v17 => (byVal (callW gp) r6.2 fid.whole_number_told [v17]).bind fun v18 => (opStore r6.2 2 (.rp (List.length (r2.2 : Heap)) 0) v18).bind fun h19 => (opLoad h19 (some 2) (.rp (List.length (r2.2 : Heap)) 0)).bind fun v20 => freeze h19 (.tup [v20, (.int .i64 0)]))
theorem whole_Add.eq (a0 : AV) (a1 : AV) : cv gp fid.whole_Add [a0, a1] = whole_Add.f a0 a1 :=
  (cv_eq gp fid.whole_Add [a0, a1] whole_Add.fn_eq).trans (by kernel_rfl)

/-! gusset whole.Sub -/
noncomputable def whole_Sub.fn : AFun := (gp.fn fid.whole_Sub).getD default
theorem whole_Sub.fn_eq : gp.fn fid.whole_Sub = some whole_Sub.fn := by kernel_rfl
noncomputable def whole_Sub.f (a0 : AV) (a1 : AV) : Option AV :=
  (opBox [] a0).bind fun r1 => (opBox r1.2 a1).bind fun r2 => (opLoad (r2.2 ++ [some [.bool false, .str ⟨#[]⟩]]) (some 2) r1.1).bind fun v3 => (opLoad (r2.2 ++ [some [.bool false, .str ⟨#[]⟩]]) (some 2) r2.1).bind fun v4 => (opBslc 2 2 [.bool false, .str ⟨#[]⟩] [(0, v3), (1, v4)]).bind fun v5 => (callW gp fid.whole_read [v5] (r2.2 ++ [some [.bool false, .str ⟨#[]⟩]])).bind fun r6 => (opExt 0 r6.1).bind fun v7 => (opExt 1 r6.1).bind fun v8 => (opBin .neq v8 (.int .i64 0)).bind fun v9 => condK v9 ((opBld [.bool false, .str ⟨#[]⟩] []).bind fun v10 => (opStore r6.2 2 (.rp (List.length (r2.2 : Heap)) 0) v10).bind fun h11 => (opLoad h11 (some 2) (.rp (List.length (r2.2 : Heap)) 0)).bind fun v12 => freeze h11 (.tup [v12, v8])) ((opSidx 2 v7 (.int .i64 1)).bind fun v13 => (opFaddr 0 v13).bind fun v14 => (opLoad r6.2 none v14).bind fun v15 => (opUn .not v15).bind fun v16 => (opSidx 2 v7 (.int .i64 1)).bind fun v17 => (opFaddr 0 v17).bind fun v18 => (opStore r6.2 1 v18 v16).bind fun h19 => (opSidx 2 v7 (.int .i64 0)).bind fun v20 => (opLoad h19 (some 2) v20).bind fun v21 => (opSidx 2 v7 (.int .i64 1)).bind fun v22 => (opLoad h19 (some 2) v22).bind fun v23 => (byVal (callW gp) h19 fid.whole_sum [v21, v23]).bind fun v24 => (byVal (callW gp) h19 fid.whole_number_told [v24]).bind fun v25 => (opStore h19 2 (.rp (List.length (r2.2 : Heap)) 0) v25).bind fun h26 => (opLoad h26 (some 2) (.rp (List.length (r2.2 : Heap)) 0)).bind fun v27 => freeze h26 (.tup [v27, (.int .i64 0)]))
theorem whole_Sub.eq (a0 : AV) (a1 : AV) : cv gp fid.whole_Sub [a0, a1] = whole_Sub.f a0 a1 :=
  (cv_eq gp fid.whole_Sub [a0, a1] whole_Sub.fn_eq).trans (by kernel_rfl)

/-! gusset gussetref02.make0 -/
noncomputable def gussetref02_make0.fn : AFun := (gp.fn fid.gussetref02_make0).getD default
theorem gussetref02_make0.fn_eq : gp.fn fid.gussetref02_make0 = some gussetref02_make0.fn := by kernel_rfl
noncomputable def gussetref02_make0.f (a0 : AV) (a1 : AV) : Option AV :=
  (byVal (callW gp) [some [.bool false, .str ⟨#[]⟩]] fid.gussetref01_Nat [a1]).bind fun v1 => guardK a0 true ((opBin .neq v1 (.str ⟨#[]⟩)).bind fun v2 => (opBld [.bool false, .str ⟨#[]⟩] [(0, 1, v2), (1, 1, v1)]).bind fun v3 => (opStore [some [.bool false, .str ⟨#[]⟩]] 2 (.rp 0 0) v3).bind fun h4 => (opLoad h4 (some 2) (.rp 0 0)).bind fun v7 => freeze h4 v7) ((opBld [.bool false, .str ⟨#[]⟩] [(0, 1, (.bool false)), (1, 1, v1)]).bind fun v5 => (opStore [some [.bool false, .str ⟨#[]⟩]] 2 (.rp 0 0) v5).bind fun h6 => (opLoad h6 (some 2) (.rp 0 0)).bind fun v8 => freeze h6 v8)
theorem gussetref02_make0.eq (a0 : AV) (a1 : AV) : cv gp fid.gussetref02_make0 [a0, a1] = gussetref02_make0.f a0 a1 :=
  (cv_eq gp fid.gussetref02_make0 [a0, a1] gussetref02_make0.fn_eq).trans (by kernel_rfl)

/-! gusset rat.both -/
noncomputable def rat_both.fn : AFun := (gp.fn fid.rat_both).getD default
theorem rat_both.fn_eq : gp.fn fid.rat_both = some rat_both.fn := by kernel_rfl
noncomputable def rat_both.f (a0 : AV) (a1 : AV) : Option AV :=
  (opBox [] a0).bind fun r1 => (opBox r1.2 a1).bind fun r2 => (opLoad r2.2 (some 3) r1.1).bind fun v3 => (byVal (callW gp) r2.2 fid.rat_Check [v3]).bind fun v4 => (opBin .neq v4 (.int .i64 0)).bind fun v5 => condK v5 (freeze r2.2 v4) ((opLoad r2.2 (some 3) r2.1).bind fun v6 => (byVal (callW gp) r2.2 fid.rat_Check [v6]).bind fun v7 => freeze r2.2 v7)
theorem rat_both.eq (a0 : AV) (a1 : AV) : cv gp fid.rat_both [a0, a1] = rat_both.f a0 a1 :=
  (cv_eq gp fid.rat_both [a0, a1] rat_both.fn_eq).trans (by kernel_rfl)

/-! gusset rat.lowest -/
noncomputable def rat_lowest.fn : AFun := (gp.fn fid.rat_lowest).getD default
theorem rat_lowest.fn_eq : gp.fn fid.rat_lowest = some rat_lowest.fn := by kernel_rfl
noncomputable def rat_lowest.j1 (y2 : AV) (y3 : AV) (y4 : AV) (hh : Heap) : Option AV :=
  (opLoad hh (some 2) y2).bind fun v40 => (opFaddr 1 y3).bind fun v41 => (opLoad hh none v41).bind fun v42 => (opBld [.bool false, .str ⟨#[]⟩, .str ⟨#[]⟩] [(0, 2, v40), (2, 1, v42)]).bind fun v43 => (opStore hh 3 y4 v43).bind fun h44 => (opLoad h44 (some 3) y4).bind fun v45 => freeze h44 v45
noncomputable def rat_lowest.j0 (y2 : AV) (y3 : AV) (y4 : AV) (hh : Heap) : Option AV :=
  (opLoad hh (some 2) y2).bind fun v19 => (opLoad hh (some 2) y3).bind fun v20 => (byVal (callW gp) hh fid.rat_do [(.fn fid.whole_Gcd []), v19, v20]).bind fun v21 => (opStore (hh ++ [some [.bool false, .str ⟨#[]⟩]]) 2 (.rp (List.length (hh : Heap)) 0) v21).bind fun h22 => (opFaddr 1 (.rp (List.length (hh : Heap)) 0)).bind fun v23 => (opLoad h22 none v23).bind fun v24 => (opBin .neq v24 (.str ⟨#[1]⟩)).bind fun v25 => condK v25 ((opLoad h22 (some 2) y2).bind fun v26 => (opLoad h22 (some 2) (.rp (List.length (hh : Heap)) 0)).bind fun v27 => (byVal (callW gp) h22 fid.whole_Div [v26, v27]).bind fun v28 => (opExt 0 v28).bind fun v29 => (opExt 1 v28).bind fun v30 => (opExt 2 v28).bind fun v31 => (opStore h22 2 y2 v29).bind fun h32 => (opLoad h32 (some 2) y3).bind fun v33 => (opLoad h32 (some 2) (.rp (List.length (hh : Heap)) 0)).bind fun v34 => (byVal (callW gp) h32 fid.whole_Div [v33, v34]).bind fun v35 => (opExt 0 v35).bind fun v36 => (opExt 1 v35).bind fun v37 => (opExt 2 v35).bind fun v38 => (opStore h32 2 y3 v36).bind fun h39 => rat_lowest.j1 y2 y3 y4 h39) (rat_lowest.j1 y2 y3 y4 h22)
noncomputable def rat_lowest.f (a0 : AV) (a1 : AV) : Option AV :=
  (opBox [] a0).bind fun r1 => (opBox r1.2 a1).bind fun r2 => (opFaddr 0 r2.1).bind fun v3 => (opLoad (r2.2 ++ [some [.bool false, .str ⟨#[]⟩, .str ⟨#[]⟩]]) none v3).bind fun v4 => condK v4 ((opFaddr 0 r1.1).bind fun v5 => (opLoad (r2.2 ++ [some [.bool false, .str ⟨#[]⟩, .str ⟨#[]⟩]]) none v5).bind fun v6 => (opUn .not v6).bind fun v7 => guardK v7 true ((opFaddr 1 r1.1).bind fun v8 => (opLoad (r2.2 ++ [some [.bool false, .str ⟨#[]⟩, .str ⟨#[]⟩]]) none v8).bind fun v9 => (opBin .neq v9 (.str ⟨#[]⟩)).bind fun v10 => (opFaddr 0 r1.1).bind fun v11 => (opStore (r2.2 ++ [some [.bool false, .str ⟨#[]⟩, .str ⟨#[]⟩]]) 1 v11 v10).bind fun h12 => (opFaddr 0 r2.1).bind fun v15 => (opStore h12 1 v15 (.bool false)).bind fun h16 => rat_lowest.j0 r1.1 r2.1 (.rp (List.length (r2.2 : Heap)) 0) h16) ((opFaddr 0 r1.1).bind fun v13 => (opStore (r2.2 ++ [some [.bool false, .str ⟨#[]⟩, .str ⟨#[]⟩]]) 1 v13 (.bool false)).bind fun h14 => (opFaddr 0 r2.1).bind fun v17 => (opStore h14 1 v17 (.bool false)).bind fun h18 => rat_lowest.j0 r1.1 r2.1 (.rp (List.length (r2.2 : Heap)) 0) h18)) (rat_lowest.j0 r1.1 r2.1 (.rp (List.length (r2.2 : Heap)) 0) (r2.2 ++ [some [.bool false, .str ⟨#[]⟩, .str ⟨#[]⟩]]))
theorem rat_lowest.eq (a0 : AV) (a1 : AV) : cv gp fid.rat_lowest [a0, a1] = rat_lowest.f a0 a1 :=
  (cv_eq gp fid.rat_lowest [a0, a1] rat_lowest.fn_eq).trans (by kernel_rfl)

/-! gusset rat.do -/
noncomputable def rat_do.fn : AFun := (gp.fn fid.rat_do).getD default
theorem rat_do.fn_eq : gp.fn fid.rat_do = some rat_do.fn := by kernel_rfl
noncomputable def rat_do.f (a0 : AV) (a1 : AV) (a2 : AV) : Option AV :=
  (opBox [] a1).bind fun r1 => (opBox r1.2 a2).bind fun r2 => (opLoad (r2.2 ++ [some [.bool false, .str ⟨#[]⟩]]) (some 2) r1.1).bind fun v3 => (opLoad (r2.2 ++ [some [.bool false, .str ⟨#[]⟩]]) (some 2) r2.1).bind fun v4 => callK' (callW gp) gp.refm (r2.2 ++ [some [.bool false, .str ⟨#[]⟩]]) a0 [v3, v4] fun v5 h6 => (opExt 0 v5).bind fun v7 => (opExt 1 v5).bind fun v8 => (opStore (h6 ++ [some [.bool false, .str ⟨#[]⟩]]) 2 (.rp (List.length (h6 : Heap)) 0) v7).bind fun h9 => (opLoad h9 (some 2) (.rp (List.length (h6 : Heap)) 0)).bind fun v10 => (opStore h9 2 (.rp (List.length (r2.2 : Heap)) 0) v10).bind fun h11 => (opLoad h11 (some 2) (.rp (List.length (r2.2 : Heap)) 0)).bind fun v12 => freeze h11 v12
theorem rat_do.eq (a0 : AV) (a1 : AV) (a2 : AV) : cv gp fid.rat_do [a0, a1, a2] = rat_do.f a0 a1 a2 :=
  (cv_eq gp fid.rat_do [a0, a1, a2] rat_do.fn_eq).trans (by kernel_rfl)

/-! gusset whole.Mul -/
noncomputable def whole_Mul.fn : AFun := (gp.fn fid.whole_Mul).getD default
theorem whole_Mul.fn_eq : gp.fn fid.whole_Mul = some whole_Mul.fn := by kernel_rfl
noncomputable def whole_Mul.f (a0 : AV) (a1 : AV) : Option AV :=
  (opBox [] a0).bind fun r1 => (opBox r1.2 a1).bind fun r2 => (opLoad (r2.2 ++ [some [.bool false, .str ⟨#[]⟩]]) (some 2) r1.1).bind fun v3 => (opLoad (r2.2 ++ [some [.bool false, .str ⟨#[]⟩]]) (some 2) r2.1).bind fun v4 => (opBslc 2 2 [.bool false, .str ⟨#[]⟩] [(0, v3), (1, v4)]).bind fun v5 => (callW gp fid.whole_read [v5] (r2.2 ++ [some [.bool false, .str ⟨#[]⟩]])).bind fun r6 => (opExt 0 r6.1).bind fun v7 => (opExt 1 r6.1).bind fun v8 => (opBin .neq v8 (.int .i64 0)).bind fun v9 => condK v9 ((opBld [.bool false, .str ⟨#[]⟩] []).bind fun v10 => (opStore r6.2 2 (.rp (List.length (r2.2 : Heap)) 0) v10).bind fun h11 => (opLoad h11 (some 2) (.rp (List.length (r2.2 : Heap)) 0)).bind fun v12 => freeze h11 (.tup [v12, v8])) ((opSidx 2 v7 (.int .i64 0)).bind fun v13 => (opFaddr 1 v13).bind fun v14 => (opLoad r6.2 none v14).bind fun v15 => (opSidx 2 v7 (.int .i64 1)).bind fun v16 => (opFaddr 1 v16).bind fun v17 => (opLoad r6.2 none v17).bind fun v18 => (byVal (callW gp) r6.2 fid.limb_Mul [v15, v18]).bind fun v19 => (opExt 0 v19).bind fun v20 => (opExt 1 v19).bind fun v21 => (opFaddr 0 r1.1).bind fun v22 => (opLoad r6.2 none v22).bind fun v23 => (opFaddr 0 r2.1).bind fun v24 => (opLoad r6.2 none v24).bind fun v25 => (opBeq true v23 v25).bind fun v26 => (opBld [.bool false, .is 0 true []] [(0, 1, v26), (1, 1, v20)]).bind fun v27 => (byVal (callW gp) r6.2 fid.whole_number_told [v27]).bind fun v28 => (opStore r6.2 2 (.rp (List.length (r2.2 : Heap)) 0) v28).bind fun h29 => (opLoad h29 (some 2) (.rp (List.length (r2.2 : Heap)) 0)).bind fun v30 => freeze h29 (.tup [v30, (.int .i64 0)]))
theorem whole_Mul.eq (a0 : AV) (a1 : AV) : cv gp fid.whole_Mul [a0, a1] = whole_Mul.f a0 a1 :=
  (cv_eq gp fid.whole_Mul [a0, a1] whole_Mul.fn_eq).trans (by kernel_rfl)

/-! gusset rat.den -/
noncomputable def rat_den.fn : AFun := (gp.fn fid.rat_den).getD default
theorem rat_den.fn_eq : gp.fn fid.rat_den = some rat_den.fn := by kernel_rfl
noncomputable def rat_den.f (a0 : AV) : Option AV :=
  (opBox [] a0).bind fun r1 => (opFaddr 2 r1.1).bind fun v2 => (opLoad (r1.2 ++ [some [.bool false, .str ⟨#[]⟩]]) none v2).bind fun v3 => (opBld [.bool false, .str ⟨#[]⟩] [(1, 1, v3)]).bind fun v4 => (opStore (r1.2 ++ [some [.bool false, .str ⟨#[]⟩]]) 2 (.rp (List.length (r1.2 : Heap)) 0) v4).bind fun h5 => (opLoad h5 (some 2) (.rp (List.length (r1.2 : Heap)) 0)).bind fun v6 => freeze h5 v6
theorem rat_den.eq (a0 : AV) : cv gp fid.rat_den [a0] = rat_den.f a0 :=
  (cv_eq gp fid.rat_den [a0] rat_den.fn_eq).trans (by kernel_rfl)

/-! gusset whole.Of -/
noncomputable def whole_Of.fn : AFun := (gp.fn fid.whole_Of).getD default
theorem whole_Of.fn_eq : gp.fn fid.whole_Of = some whole_Of.fn := by kernel_rfl
noncomputable def whole_Of.f (a0 : AV) : Option AV :=
  (opBin .lss a0 (.int .i64 0)).bind fun v1 => condK v1 ((opBin .add a0 (.int .i64 1)).bind fun v2 => (opUn .neg v2).bind fun v3 => (opConv .u64 v3).bind fun v4 => (opBin .add v4 (nat .u64 1)).bind fun v5 => (opBslc 1 1 [nat .u64 0] [(0, v5)]).bind fun v6 => (opBld [.bool false, .is 0 true []] [(0, 1, (.bool true)), (1, 1, v6)]).bind fun v7 => (byVal (callW gp) [some [.bool false, .str ⟨#[]⟩]] fid.whole_number_told [v7]).bind fun v8 => (opStore [some [.bool false, .str ⟨#[]⟩]] 2 (.rp 0 0) v8).bind fun h9 => (opLoad h9 (some 2) (.rp 0 0)).bind fun v10 => freeze h9 v10) ((opConv .u64 a0).bind fun v11 => (opBslc 1 1 [nat .u64 0] [(0, v11)]).bind fun v12 => (opBld [.bool false, .is 0 true []] [(0, 1, (.bool false)), (1, 1, v12)]).bind fun v13 => (byVal (callW gp) [some [.bool false, .str ⟨#[]⟩]] fid.whole_number_told [v13]).bind fun v14 => (opStore [some [.bool false, .str ⟨#[]⟩]] 2 (.rp 0 0) v14).bind fun h15 => (opLoad h15 (some 2) (.rp 0 0)).bind fun v16 => freeze h15 v16)
theorem whole_Of.eq (a0 : AV) : cv gp fid.whole_Of [a0] = whole_Of.f a0 :=
  (cv_eq gp fid.whole_Of [a0] whole_Of.fn_eq).trans (by kernel_rfl)

/-! gusset whole.Check -/
noncomputable def whole_Check.fn : AFun := (gp.fn fid.whole_Check).getD default
theorem whole_Check.fn_eq : gp.fn fid.whole_Check = some whole_Check.fn := by kernel_rfl
noncomputable def whole_Check.f (a0 : AV) : Option AV :=
  (opBox [] a0).bind fun r1 => (opFaddr 1 r1.1).bind fun v2 => (opLoad r1.2 none v2).bind fun v3 => (byVal (callW gp) r1.2 fid.limb_Of [v3]).bind fun v4 => (opExt 0 v4).bind fun v5 => (opExt 1 v4).bind fun v6 => (opBin .eql v6 (.int .i64 0)).bind fun v7 => guardK v7 true ((opFaddr 0 r1.1).bind fun v8 => (opLoad r1.2 none v8).bind fun v9 => guardK v9 true ((opFaddr 1 r1.1).bind fun v10 => (opLoad r1.2 none v10).bind fun v11 => (opBin .eql v11 (.str ⟨#[]⟩)).bind fun v12 => condK v12 (freeze r1.2 (.int .i64 1)) (freeze r1.2 v6)) (freeze r1.2 v6)) (freeze r1.2 v6)
theorem whole_Check.eq (a0 : AV) : cv gp fid.whole_Check [a0] = whole_Check.f a0 :=
  (cv_eq gp fid.whole_Check [a0] whole_Check.fn_eq).trans (by kernel_rfl)

/-! gusset whole.Gcd -/
noncomputable def whole_Gcd.fn : AFun := (gp.fn fid.whole_Gcd).getD default
theorem whole_Gcd.fn_eq : gp.fn fid.whole_Gcd = some whole_Gcd.fn := by kernel_rfl
noncomputable def whole_Gcd.l0 (y4 : AV) (y8 : AV) (y9 : AV) (hh : Heap) : Option AV := loopAt gp whole_Gcd.fn [true, true, true, true, false, false] (fun v h => freeze h v) ⟨frame 47 [(4, y4), (8, y8), (9, y9)], hh⟩
noncomputable def whole_Gcd.f (a0 : AV) (a1 : AV) : Option AV :=
  (opBox [] a0).bind fun r1 => (opBox r1.2 a1).bind fun r2 => (opLoad (r2.2 ++ [some [.bool false, .str ⟨#[]⟩]]) (some 2) r1.1).bind fun v3 => (opLoad (r2.2 ++ [some [.bool false, .str ⟨#[]⟩]]) (some 2) r2.1).bind fun v4 => (opBslc 2 2 [.bool false, .str ⟨#[]⟩] [(0, v3), (1, v4)]).bind fun v5 => (callW gp fid.whole_read [v5] (r2.2 ++ [some [.bool false, .str ⟨#[]⟩]])).bind fun r6 => (opExt 0 r6.1).bind fun v7 => (opExt 1 r6.1).bind fun v8 => (opBin .neq v8 (.int .i64 0)).bind fun v9 => condK v9 ((opBld [.bool false, .str ⟨#[]⟩] []).bind fun v10 => (opStore r6.2 2 (.rp (List.length (r2.2 : Heap)) 0) v10).bind fun h11 => (opLoad h11 (some 2) (.rp (List.length (r2.2 : Heap)) 0)).bind fun v12 => freeze h11 (.tup [v12, v8])) ((opSidx 2 v7 (.int .i64 0)).bind fun v13 => (opFaddr 1 v13).bind fun v14 => (opLoad r6.2 none v14).bind fun v15 => (opSidx 2 v7 (.int .i64 1)).bind fun v16 => (opFaddr 1 v16).bind fun v17 => (opLoad r6.2 none v17).bind fun v18 => whole_Gcd.l0 (.rp (List.length (r2.2 : Heap)) 0) v15 v18 r6.2)
theorem whole_Gcd.l0_eq (y4 : AV) (y8 : AV) (y9 : AV) (hh : Heap) : whole_Gcd.l0 y4 y8 y9 hh =
    ((opLen false y9).bind fun v19 => (opBin .gtr v19 (.int .i64 0)).bind fun v20 => condK v20 ((byVal (callW gp) hh fid.limb_DivMod [y8, y9]).bind fun v21 => (opExt 0 v21).bind fun v22 => (opExt 1 v21).bind fun v23 => (opExt 2 v21).bind fun v24 => whole_Gcd.l0 y4 y9 v23 hh) ((opBld [.bool false, .is 0 true []] [(0, 1, (.bool false)), (1, 1, y8)]).bind fun v25 => (byVal (callW gp) hh fid.whole_number_told [v25]).bind fun v26 => (opStore hh 2 y4 v26).bind fun h27 => (opLoad h27 (some 2) y4).bind fun v28 => freeze h27 (.tup [v28, (.int .i64 0)]))) :=
  (loopAt_eq gp whole_Gcd.fn [true, true, true, true, false, false] (fun v h => freeze h v) ⟨frame 47 [(4, y4), (8, y8), (9, y9)], hh⟩).trans (by kernel_rfl)
theorem whole_Gcd.eq (a0 : AV) (a1 : AV) : cv gp fid.whole_Gcd [a0, a1] = whole_Gcd.f a0 a1 :=
  (cv_eq gp fid.whole_Gcd [a0, a1] whole_Gcd.fn_eq).trans (by kernel_rfl)

/-! gusset num.must -/
noncomputable def num_must.fn : AFun := (gp.fn fid.num_must).getD default
theorem num_must.fn_eq : gp.fn fid.num_must = some num_must.fn := by kernel_rfl
noncomputable def num_must.f (a0 : AV) (a1 : AV) : Option AV :=
  (opBox [] a0).bind fun r1 => (opBin .neq a1 (.int .i64 0)).bind fun v2 => condK v2 ((opBld [.int .i64 0] [(0, 1, a1)]).bind fun v3 => none) ((opLoad (r1.2 ++ [some [.bool false, .str ⟨#[]⟩, .str ⟨#[]⟩]]) (some 3) r1.1).bind fun v4 => (opStore (r1.2 ++ [some [.bool false, .str ⟨#[]⟩, .str ⟨#[]⟩]]) 3 (.rp (List.length (r1.2 : Heap)) 0) v4).bind fun h5 => (opLoad h5 (some 3) (.rp (List.length (r1.2 : Heap)) 0)).bind fun v6 => freeze h5 v6)
theorem num_must.eq (a0 : AV) (a1 : AV) : cv gp fid.num_must [a0, a1] = num_must.f a0 a1 :=
  (cv_eq gp fid.num_must [a0, a1] num_must.fn_eq).trans (by kernel_rfl)

/-! gusset whole.read -/
noncomputable def whole_read.fn : AFun := (gp.fn fid.whole_read).getD default
theorem whole_read.fn_eq : gp.fn fid.whole_read = some whole_read.fn := by kernel_rfl
noncomputable def whole_read.l0 (y4 : AV) (y10 : AV) (y11 : AV) (y12 : AV) (hh : Heap) : Option (AV × Heap) := loopAt gp whole_read.fn [true, true, false, true, false] (fun v h => some (v, h)) ⟨frame 36 [(4, y4), (10, y10), (11, y11), (12, y12)], hh⟩
noncomputable def whole_read.f (a0 : AV) (hh : Heap) : Option (AV × Heap) :=
  (opLen false a0).bind fun v1 => whole_read.l0 (.is 0 true []) a0 v1 (.int .i64 0) hh
theorem whole_read.l0_eq (y4 : AV) (y10 : AV) (y11 : AV) (y12 : AV) (hh : Heap) : whole_read.l0 y4 y10 y11 y12 hh =
    ((opBin .lss y12 y11).bind fun v2 => condK v2 ((opSidx 2 y10 y12).bind fun v3 => (opLoad hh (some 2) v3).bind fun v4 => (opStore (hh ++ [some [.bool false, .str ⟨#[]⟩]]) 2 (.rp (List.length (hh : Heap)) 0) v4).bind fun h5 => (opLoad h5 (some 2) (.rp (List.length (hh : Heap)) 0)).bind fun v6 => (byVal (callW gp) h5 fid.whole_Check [v6]).bind fun v7 => (opBin .neq v7 (.int .i64 0)).bind fun v8 => condK v8 (some ((.tup [(.is 0 true []), v7]), h5)) ((opFaddr 1 (.rp (List.length (hh : Heap)) 0)).bind fun v9 => (opLoad h5 none v9).bind fun v10 => (byVal (callW gp) h5 fid.limb_Of [v10]).bind fun v11 => (opExt 0 v11).bind fun v12 => (opExt 1 v11).bind fun v13 => (opFaddr 0 (.rp (List.length (hh : Heap)) 0)).bind fun v14 => (opLoad h5 none v14).bind fun v15 => (opBld [.bool false, .is 0 true []] [(0, 1, v15), (1, 1, v12)]).bind fun v16 => (opBslc 2 1 [.bool false, .is 0 true []] [(0, v16)]).bind fun v17 => (opApp h5 2 y4 v17).bind fun r18 => (opBin .add y12 (.int .i64 1)).bind fun v19 => whole_read.l0 r18.1 y10 y11 v19 r18.2)) (some ((.tup [y4, (.int .i64 0)]), hh))) :=
  (loopAt_eq gp whole_read.fn [true, true, false, true, false] (fun v h => some (v, h)) ⟨frame 36 [(4, y4), (10, y10), (11, y11), (12, y12)], hh⟩).trans (by kernel_rfl)
theorem whole_read.eq (a0 : AV) (hh : Heap) : callW gp fid.whole_read [a0] hh = whole_read.f a0 hh :=
  (callW_eqF gp fid.whole_read [a0] hh whole_read.fn_eq).trans (by kernel_rfl)

/-! gusset whole.sum -/
noncomputable def whole_sum.fn : AFun := (gp.fn fid.whole_sum).getD default
theorem whole_sum.fn_eq : gp.fn fid.whole_sum = some whole_sum.fn := by kernel_rfl
noncomputable def whole_sum.f (a0 : AV) (a1 : AV) : Option AV :=
  (opBox [] a0).bind fun r1 => (opBox r1.2 a1).bind fun r2 => (opFaddr 0 r1.1).bind fun v3 => (opLoad (r2.2 ++ [some [.bool false, .is 0 true []]]) none v3).bind fun v4 => (opFaddr 0 r2.1).bind fun v5 => (opLoad (r2.2 ++ [some [.bool false, .is 0 true []]]) none v5).bind fun v6 => (opBeq false v4 v6).bind fun v7 => condK v7 ((opFaddr 1 r1.1).bind fun v8 => (opLoad (r2.2 ++ [some [.bool false, .is 0 true []]]) none v8).bind fun v9 => (opFaddr 1 r2.1).bind fun v10 => (opLoad (r2.2 ++ [some [.bool false, .is 0 true []]]) none v10).bind fun v11 => (byVal (callW gp) (r2.2 ++ [some [.bool false, .is 0 true []]]) fid.limb_Add [v9, v11]).bind fun v12 => (opExt 0 v12).bind fun v13 => (opExt 1 v12).bind fun v14 => (opFaddr 0 r1.1).bind fun v15 => (opLoad (r2.2 ++ [some [.bool false, .is 0 true []]]) none v15).bind fun v16 => (opBld [.bool false, .is 0 true []] [(0, 1, v16), (1, 1, v13)]).bind fun v17 => (opStore (r2.2 ++ [some [.bool false, .is 0 true []]]) 2 (.rp (List.length (r2.2 : Heap)) 0) v17).bind fun h18 => (opLoad h18 (some 2) (.rp (List.length (r2.2 : Heap)) 0)).bind fun v19 => freeze h18 v19) ((opFaddr 1 r1.1).bind fun v20 => (opLoad (r2.2 ++ [some [.bool false, .is 0 true []]]) none v20).bind fun v21 => (opFaddr 1 r2.1).bind fun v22 => (opLoad (r2.2 ++ [some [.bool false, .is 0 true []]]) none v22).bind fun v23 => (byVal (callW gp) (r2.2 ++ [some [.bool false, .is 0 true []]]) fid.limb_Sub [v21, v23]).bind fun v24 => (opExt 0 v24).bind fun v25 => (opExt 1 v24).bind fun v26 => (opBin .eql v26 (.int .i64 0)).bind fun v27 => condK v27 ((opFaddr 0 r1.1).bind fun v28 => (opLoad (r2.2 ++ [some [.bool false, .is 0 true []]]) none v28).bind fun v29 => (opBld [.bool false, .is 0 true []] [(0, 1, v29), (1, 1, v25)]).bind fun v30 => (opStore (r2.2 ++ [some [.bool false, .is 0 true []]]) 2 (.rp (List.length (r2.2 : Heap)) 0) v30).bind fun h31 => (opLoad h31 (some 2) (.rp (List.length (r2.2 : Heap)) 0)).bind fun v32 => freeze h31 v32) ((opFaddr 1 r2.1).bind fun v33 => (opLoad (r2.2 ++ [some [.bool false, .is 0 true []]]) none v33).bind fun v34 => (opFaddr 1 r1.1).bind fun v35 => (opLoad (r2.2 ++ [some [.bool false, .is 0 true []]]) none v35).bind fun v36 => (byVal (callW gp) (r2.2 ++ [some [.bool false, .is 0 true []]]) fid.limb_Sub [v34, v36]).bind fun v37 => (opExt 0 v37).bind fun v38 => (opExt 1 v37).bind fun v39 => (opFaddr 0 r2.1).bind fun v40 => (opLoad (r2.2 ++ [some [.bool false, .is 0 true []]]) none v40).bind fun v41 => (opBld [.bool false, .is 0 true []] [(0, 1, v41), (1, 1, v38)]).bind fun v42 => (opStore (r2.2 ++ [some [.bool false, .is 0 true []]]) 2 (.rp (List.length (r2.2 : Heap)) 0) v42).bind fun h43 => (opLoad h43 (some 2) (.rp (List.length (r2.2 : Heap)) 0)).bind fun v44 => freeze h43 v44))
theorem whole_sum.eq (a0 : AV) (a1 : AV) : cv gp fid.whole_sum [a0, a1] = whole_sum.f a0 a1 :=
  (cv_eq gp fid.whole_sum [a0, a1] whole_sum.fn_eq).trans (by kernel_rfl)

/-! (gusset whole.number).told -/
noncomputable def whole_number_told.fn : AFun := (gp.fn fid.whole_number_told).getD default
theorem whole_number_told.fn_eq : gp.fn fid.whole_number_told = some whole_number_told.fn := by kernel_rfl
noncomputable def whole_number_told.f (a0 : AV) : Option AV :=
  (opBox [] a0).bind fun r1 => (opFaddr 1 r1.1).bind fun v2 => (opLoad (r1.2 ++ [some [.bool false, .str ⟨#[]⟩]]) none v2).bind fun v3 => (opLen false v3).bind fun v4 => (opBin .gtr v4 (.int .i64 4000)).bind fun v5 => condK v5 ((opSlc 1 v3 none (some (.int .i64 4000)) none).bind fun v6 => (byVal (callW gp) (r1.2 ++ [some [.bool false, .str ⟨#[]⟩]]) fid.limb_Nat [v6]).bind fun v7 => (opExt 0 v7).bind fun v8 => (opExt 1 v7).bind fun v9 => (opSlc 1 v3 (some (.int .i64 4000)) none none).bind fun v10 => (byVal (callW gp) (r1.2 ++ [some [.bool false, .str ⟨#[]⟩]]) fid.limb_Nat [v10]).bind fun v11 => (opExt 0 v11).bind fun v12 => (opExt 1 v11).bind fun v13 => (opFaddr 0 r1.1).bind fun v14 => (opLoad (r1.2 ++ [some [.bool false, .str ⟨#[]⟩]]) none v14).bind fun v15 => (opLen true v8).bind fun v16 => (opBin .sub (.int .i64 32000) v16).bind fun v17 => (byVal (callW gp) (r1.2 ++ [some [.bool false, .str ⟨#[]⟩]]) fid.strings_Repeat [(.str ⟨#[0]⟩), v17]).bind fun v18 => (opBin .add v12 v18).bind fun v19 => (opBin .add v19 v8).bind fun v20 => (opBld [.bool false, .str ⟨#[]⟩] [(0, 1, v15), (1, 1, v20)]).bind fun v21 => (opStore (r1.2 ++ [some [.bool false, .str ⟨#[]⟩]]) 2 (.rp (List.length (r1.2 : Heap)) 0) v21).bind fun h22 => (opLoad h22 (some 2) (.rp (List.length (r1.2 : Heap)) 0)).bind fun v23 => freeze h22 v23) ((byVal (callW gp) (r1.2 ++ [some [.bool false, .str ⟨#[]⟩]]) fid.limb_Nat [v3]).bind fun v24 => (opExt 0 v24).bind fun v25 => (opExt 1 v24).bind fun v26 => (opFaddr 0 r1.1).bind fun v27 => (opLoad (r1.2 ++ [some [.bool false, .str ⟨#[]⟩]]) none v27).bind fun v28 => guardK v28 true ((opBin .neq v25 (.str ⟨#[]⟩)).bind fun v29 => (opBld [.bool false, .str ⟨#[]⟩] [(0, 1, v29), (1, 1, v25)]).bind fun v30 => (opStore (r1.2 ++ [some [.bool false, .str ⟨#[]⟩]]) 2 (.rp (List.length (r1.2 : Heap)) 0) v30).bind fun h31 => (opLoad h31 (some 2) (.rp (List.length (r1.2 : Heap)) 0)).bind fun v34 => freeze h31 v34) ((opBld [.bool false, .str ⟨#[]⟩] [(0, 1, (.bool false)), (1, 1, v25)]).bind fun v32 => (opStore (r1.2 ++ [some [.bool false, .str ⟨#[]⟩]]) 2 (.rp (List.length (r1.2 : Heap)) 0) v32).bind fun h33 => (opLoad h33 (some 2) (.rp (List.length (r1.2 : Heap)) 0)).bind fun v35 => freeze h33 v35))
theorem whole_number_told.eq (a0 : AV) : cv gp fid.whole_number_told [a0] = whole_number_told.f a0 :=
  (cv_eq gp fid.whole_number_told [a0] whole_number_told.fn_eq).trans (by kernel_rfl)

/-! gusset whole.Div -/
noncomputable def whole_Div.fn : AFun := (gp.fn fid.whole_Div).getD default
theorem whole_Div.fn_eq : gp.fn fid.whole_Div = some whole_Div.fn := by kernel_rfl
noncomputable def whole_Div.j1 (y4 : AV) (y5 : AV) (y11 : AV) (y12 : AV) (hh : Heap) : Option AV :=
  (opLoad hh (some 2) y11).bind fun v63 => (byVal (callW gp) hh fid.whole_number_told [v63]).bind fun v64 => (opLoad hh (some 2) y12).bind fun v65 => (byVal (callW gp) hh fid.whole_number_told [v65]).bind fun v66 => (opStore hh 2 y4 v64).bind fun h67 => (opStore h67 2 y5 v66).bind fun h68 => (opLoad h68 (some 2) y4).bind fun v69 => (opLoad h68 (some 2) y5).bind fun v70 => freeze h68 (.tup [v69, v70, (.int .i64 0)])
noncomputable def whole_Div.j0 (y3 : AV) (y4 : AV) (y5 : AV) (y7 : AV) (y11 : AV) (y12 : AV) (y60 : AV) (hh : Heap) : Option AV :=
  condK y60 ((opLoad hh (some 2) y12).bind fun v48 => (opSidx 2 y7 (.int .i64 1)).bind fun v49 => (opFaddr 1 v49).bind fun v50 => (opLoad hh none v50).bind fun v51 => (opBld [.bool false, .is 0 true []] [(0, 1, (.bool false)), (1, 1, v51)]).bind fun v52 => (byVal (callW gp) hh fid.whole_sum [v48, v52]).bind fun v53 => (opStore hh 2 y12 v53).bind fun h54 => (opLoad h54 (some 2) y11).bind fun v55 => (opFaddr 0 y3).bind fun v56 => (opLoad h54 none v56).bind fun v57 => (opUn .not v57).bind fun v58 => (opBslc 1 1 [nat .u64 0] [(0, (nat .u64 1))]).bind fun v59 => (opBld [.bool false, .is 0 true []] [(0, 1, v58), (1, 1, v59)]).bind fun v60 => (byVal (callW gp) h54 fid.whole_sum [v55, v60]).bind fun v61 => (opStore h54 2 y11 v61).bind fun h62 => whole_Div.j1 y4 y5 y11 y12 h62) (whole_Div.j1 y4 y5 y11 y12 hh)
noncomputable def whole_Div.f (a0 : AV) (a1 : AV) : Option AV :=
  (opBox [] a0).bind fun r1 => (opBox r1.2 a1).bind fun r2 => (opLoad ((r2.2 ++ [some [.bool false, .str ⟨#[]⟩]]) ++ [some [.bool false, .str ⟨#[]⟩]]) (some 2) r1.1).bind fun v3 => (opLoad ((r2.2 ++ [some [.bool false, .str ⟨#[]⟩]]) ++ [some [.bool false, .str ⟨#[]⟩]]) (some 2) r2.1).bind fun v4 => (opBslc 2 2 [.bool false, .str ⟨#[]⟩] [(0, v3), (1, v4)]).bind fun v5 => (callW gp fid.whole_read [v5] ((r2.2 ++ [some [.bool false, .str ⟨#[]⟩]]) ++ [some [.bool false, .str ⟨#[]⟩]])).bind fun r6 => (opExt 0 r6.1).bind fun v7 => (opExt 1 r6.1).bind fun v8 => (opBin .neq v8 (.int .i64 0)).bind fun v9 => condK v9 ((opBld [.bool false, .str ⟨#[]⟩] []).bind fun v10 => (opBld [.bool false, .str ⟨#[]⟩] []).bind fun v11 => (opStore r6.2 2 (.rp (List.length (r2.2 : Heap)) 0) v10).bind fun h12 => (opStore h12 2 (.rp (List.length ((r2.2 ++ [some [.bool false, .str ⟨#[]⟩]]) : Heap)) 0) v11).bind fun h13 => (opLoad h13 (some 2) (.rp (List.length (r2.2 : Heap)) 0)).bind fun v14 => (opLoad h13 (some 2) (.rp (List.length ((r2.2 ++ [some [.bool false, .str ⟨#[]⟩]]) : Heap)) 0)).bind fun v15 => freeze h13 (.tup [v14, v15, v8])) ((opSidx 2 v7 (.int .i64 0)).bind fun v16 => (opFaddr 1 v16).bind fun v17 => (opLoad r6.2 none v17).bind fun v18 => (opSidx 2 v7 (.int .i64 1)).bind fun v19 => (opFaddr 1 v19).bind fun v20 => (opLoad r6.2 none v20).bind fun v21 => (byVal (callW gp) r6.2 fid.limb_DivMod [v18, v21]).bind fun v22 => (opExt 0 v22).bind fun v23 => (opExt 1 v22).bind fun v24 => (opExt 2 v22).bind fun v25 => (opBin .neq v25 (.int .i64 0)).bind fun v26 => condK v26 ((opBld [.bool false, .str ⟨#[]⟩] []).bind fun v27 => (opBld [.bool false, .str ⟨#[]⟩] []).bind fun v28 => (opStore r6.2 2 (.rp (List.length (r2.2 : Heap)) 0) v27).bind fun h29 => (opStore h29 2 (.rp (List.length ((r2.2 ++ [some [.bool false, .str ⟨#[]⟩]]) : Heap)) 0) v28).bind fun h30 => (opLoad h30 (some 2) (.rp (List.length (r2.2 : Heap)) 0)).bind fun v31 => (opLoad h30 (some 2) (.rp (List.length ((r2.2 ++ [some [.bool false, .str ⟨#[]⟩]]) : Heap)) 0)).bind fun v32 => freeze h30 (.tup [v31, v32, v25])) ((opFaddr 0 r1.1).bind fun v33 => (opLoad r6.2 none v33).bind fun v34 => (opFaddr 0 r2.1).bind fun v35 => (opLoad r6.2 none v35).bind fun v36 => (opBeq true v34 v36).bind fun v37 => (opBld [.bool false, .is 0 true []] [(0, 1, v37), (1, 1, v23)]).bind fun v38 => (opFaddr 0 r1.1).bind fun v39 => (opLoad r6.2 none v39).bind fun v40 => (opBld [.bool false, .is 0 true []] [(0, 1, v40), (1, 1, v24)]).bind fun v41 => (opStore ((r6.2 ++ [some [.bool false, .is 0 true []]]) ++ [some [.bool false, .is 0 true []]]) 2 (.rp (List.length (r6.2 : Heap)) 0) v38).bind fun h42 => (opStore h42 2 (.rp (List.length ((r6.2 ++ [some [.bool false, .is 0 true []]]) : Heap)) 0) v41).bind fun h43 => (opFaddr 0 r1.1).bind fun v44 => (opLoad h43 none v44).bind fun v45 => guardK v45 true ((opLen false v24).bind fun v46 => (opBin .gtr v46 (.int .i64 0)).bind fun v47 => whole_Div.j0 r2.1 (.rp (List.length (r2.2 : Heap)) 0) (.rp (List.length ((r2.2 ++ [some [.bool false, .str ⟨#[]⟩]]) : Heap)) 0) v7 (.rp (List.length (r6.2 : Heap)) 0) (.rp (List.length ((r6.2 ++ [some [.bool false, .is 0 true []]]) : Heap)) 0) v47 h43) (whole_Div.j0 r2.1 (.rp (List.length (r2.2 : Heap)) 0) (.rp (List.length ((r2.2 ++ [some [.bool false, .str ⟨#[]⟩]]) : Heap)) 0) v7 (.rp (List.length (r6.2 : Heap)) 0) (.rp (List.length ((r6.2 ++ [some [.bool false, .is 0 true []]]) : Heap)) 0) (.bool false) h43)))
theorem whole_Div.eq (a0 : AV) (a1 : AV) : cv gp fid.whole_Div [a0, a1] = whole_Div.f a0 a1 :=
  (cv_eq gp fid.whole_Div [a0, a1] whole_Div.fn_eq).trans (by kernel_rfl)

/-! gusset rat.Sign -/
noncomputable def rat_Sign.fn : AFun := (gp.fn fid.rat_Sign).getD default
theorem rat_Sign.fn_eq : gp.fn fid.rat_Sign = some rat_Sign.fn := by kernel_rfl
noncomputable def rat_Sign.f (a0 : AV) : Option AV :=
  (opBox [] a0).bind fun r1 => (opLoad r1.2 (some 3) r1.1).bind fun v2 => (byVal (callW gp) r1.2 fid.rat_Check [v2]).bind fun v3 => (opBin .neq v3 (.int .i64 0)).bind fun v4 => condK v4 (freeze r1.2 (.tup [(.int .i64 0), v3])) ((opFaddr 0 r1.1).bind fun v5 => (opFaddr 0 v5).bind fun v6 => (opLoad r1.2 none v6).bind fun v7 => condK v7 (freeze r1.2 (.tup [(.int .i64 (-1)), (.int .i64 0)])) ((opFaddr 0 r1.1).bind fun v8 => (opFaddr 1 v8).bind fun v9 => (opLoad r1.2 none v9).bind fun v10 => (opBin .eql v10 (.str ⟨#[]⟩)).bind fun v11 => condK v11 (freeze r1.2 (.tup [(.int .i64 0), (.int .i64 0)])) (freeze r1.2 (.tup [(.int .i64 1), (.int .i64 0)]))))
theorem rat_Sign.eq (a0 : AV) : cv gp fid.rat_Sign [a0] = rat_Sign.f a0 :=
  (cv_eq gp fid.rat_Sign [a0] rat_Sign.fn_eq).trans (by kernel_rfl)

end Go.Proofs.YtmklpomcdnflbaaGreat.Am