import Derived.Test.YtiblnpnfaadmcaaGreatAmPlan9
/- Section 09: the answers that the document gives. -/
set_option linter.unusedVariables false
set_option maxRecDepth 10000
set_option linter.unusedSimpArgs false
namespace Go.Proofs.YtiblnpnfaadmcaaGreat.Am
open Go

def lps : List (Rat × Rat) := [(((0 : Int) : Rat), ((0 : Int) : Rat)), (((4 : Int) : Rat), ((0 : Int) : Rat)), (((0 : Int) : Rat), ((3 : Int) : Rat))]
def lss : List Sq := [(0, 1, false), (0, 2, false)]
def lsg : List Sg := [⟨3, 1, false⟩, ⟨2, 0, false⟩, ⟨1, 2, false⟩]
theorem lps_z : PZ lps := fun i hi => by
 have z0 : Rz ((0 : Int) : Rat) 40 := (zy07 (by decide) (by decide)).mono (by omega)
 have z3 : Rz ((3 : Int) : Rat) 40 := (zy07 (by decide) (by decide)).mono (by omega)
 have z4 : Rz ((4 : Int) : Rat) 40 := (zy07 (by decide) (by decide)).mono (by omega)
 match i, hi with
 | 0, _ => exact ⟨z0, z0⟩
 | 1, _ => exact ⟨z4, z0⟩
 | 2, _ => exact ⟨z0, z3⟩
 | n + 3, h => exact absurd h (by simp [lps])
theorem lss_v : SV lps.length lss := fun i hi => by
 match i, hi with
 | 0, _ => exact ⟨by decide, by decide⟩
 | 1, _ => exact ⟨by decide, by decide⟩
 | n + 2, h => exact absurd h (by simp [lss])
section
variable {h : Heap}
theorem lv_least : byVal (callW gp) h fid.zf0j [.is 3 true (pcs lps), .is 2 true (scs lss)] = some (.tup [ra ((9 : Int) : Rat), .int .i64 0]) := by
 refine zy1r (mapM2 zy65 zy66) (by simp only [List.all_cons, List.all_nil, Bool.and_true, pcs, scs, nr_isP, nr_isS]) (zy74 zy7e zy7f) ?_
 have k := k_least (h := h) lps_z lss_v (by decide) (by decide) (by decide)
 have e : zy9j lps lss = ((9 : Int) : Rat) := by decide +kernel
 rw [e] at k
 exact k
theorem lv_apart : byVal (callW gp) h fid.zf0f [pa ((0 : Int) : Rat) ((0 : Int) : Rat), pa ((2 : Int) : Rat) ((0 : Int) : Rat), pa ((1 : Int) : Rat) ((1 : Int) : Rat), pa ((1 : Int) : Rat) ((3 : Int) : Rat)] = some (.tup [ra ((1 : Int) : Rat), .int .i64 0]) := by
 have z0 : Rz ((0 : Int) : Rat) 40 := (zy07 (by decide) (by decide)).mono (by omega)
 have z1 : Rz ((1 : Int) : Rat) 40 := (zy07 (by decide) (by decide)).mono (by omega)
 have z2 : Rz ((2 : Int) : Rat) 40 := (zy07 (by decide) (by decide)).mono (by omega)
 have z3 : Rz ((3 : Int) : Rat) 40 := (zy07 (by decide) (by decide)).mono (by omega)
 have k := k_pApart (h := h) z0 z0 z2 z0 z1 z1 z1 z3
 have e : zy0j ((0 : Int) : Rat) ((0 : Int) : Rat) ((2 : Int) : Rat) ((0 : Int) : Rat) ((1 : Int) : Rat) ((1 : Int) : Rat) ((1 : Int) : Rat) ((3 : Int) : Rat) = ((1 : Int) : Rat) := by decide +kernel
 rw [e] at k
 exact k
theorem lv_box : byVal (callW gp) h fid.zf0b [.is 0 true []] = some (.tup [.agg z6, .agg z6, .int .i64 1]) :=
 zy1r (mapM1 (Eq.trans rfl rfl)) (Eq.trans rfl rfl) (zy7l ((zy7d (n := 0) (d := 1) (cs := []) (fun c hc => by cases hc)).mono (by omega))) k_box0
theorem lv_pat : byVal (callW gp) h fid.plan_At [.is 3 true (lsg.flatMap sgc), .int .i64 1] = some (.is 2 false (ints [0, 2])) := by
 refine zy1r (mapM2 zy66 (Eq.trans rfl rfl)) (by simp only [List.all_cons, List.all_nil, Bool.and_true, nr_isS]; rfl) (zy74 zy7f (imm_int.mono (by omega))) ?_
 exact k_pat (h := h) (xs := lsg) (v := 1) (by decide)
theorem bslc3p {a b c d e f : Int} : zycy 6 3 [.bool false, .str ⟨#[]⟩, .str ⟨#[]⟩, .bool false, .str ⟨#[]⟩, .str ⟨#[]⟩] [(0, pa (a : Rat) (b : Rat)), (1, pa (c : Rat) (d : Rat)), (2, pa (e : Rat) (f : Rat))] = some (.is 3 true (pcs [((a : Rat), (b : Rat)), ((c : Rat), (d : Rat)), ((e : Rat), (f : Rat))])) := Eq.trans rfl rfl
theorem bslc2s {a b c d : Int} : zycy 3 2 [.int .i64 0, .int .i64 0, .bool false] [(0, .agg [.int .i64 a, .int .i64 b, .bool false]), (1, .agg [.int .i64 c, .int .i64 d, .bool false])] = some (.is 2 true [.int .i64 a, .int .i64 b, .bool false, .int .i64 c, .int .i64 d, .bool false]) := Eq.trans rfl rfl
theorem bslc3s {a b c d e f : Int} : zycy 3 3 [.int .i64 0, .int .i64 0, .bool false] [(0, .agg [.int .i64 a, .int .i64 b, .bool false]), (1, .agg [.int .i64 c, .int .i64 d, .bool false]), (2, .agg [.int .i64 e, .int .i64 f, .bool false])] = some (.is 3 true [.int .i64 a, .int .i64 b, .bool false, .int .i64 c, .int .i64 d, .bool false, .int .i64 e, .int .i64 f, .bool false]) := Eq.trans rfl rfl
theorem bsl2i {a b : Int} : zycy 1 2 [.int .i64 0] [(0, .int .i64 a), (1, .int .i64 b)] = some (.is 2 true (ints [a, b])) := Eq.trans rfl rfl
theorem blds {a b : Int} : opBld [.int .i64 0, .int .i64 0, .bool false] [(0, 1, .int .i64 a), (1, 1, .int .i64 b)] = some (.agg [.int .i64 a, .int .i64 b, .bool false]) := Eq.trans rfl rfl
set_option maxHeartbeats 16000000 in
theorem zy26 : byVal (callW gp) h fid.zf0a [] = some (.bool true) := zy1m (fun _ h => by cases h) (by
 have o9 := fun h => k_3of (h := h) (z := 9) (by decide) (by decide)
 have o1 := fun h => k_3of (h := h) (z := 1) (by decide) (by decide)
 have a00 := fun h => k_at9 (h := h) (a := 0) (b := 0) (by decide) (by decide) (by decide) (by decide)
 have a40 := fun h => k_at9 (h := h) (a := 4) (b := 0) (by decide) (by decide) (by decide) (by decide)
 have a03 := fun h => k_at9 (h := h) (a := 0) (b := 3) (by decide) (by decide) (by decide) (by decide)
 have a20 := fun h => k_at9 (h := h) (a := 2) (b := 0) (by decide) (by decide) (by decide) (by decide)
 have a11 := fun h => k_at9 (h := h) (a := 1) (b := 1) (by decide) (by decide) (by decide) (by decide)
 have a13 := fun h => k_at9 (h := h) (a := 1) (b := 3) (by decide) (by decide) (by decide) (by decide)
 have b3 := bslc3p (a := 0) (b := 0) (c := 4) (d := 0) (e := 0) (f := 3)
 have l1 : ∀ h, byVal (callW gp) h fid.zf0j [.is 3 true (pcs [(((0 : Int) : Rat), ((0 : Int) : Rat)), (((4 : Int) : Rat), ((0 : Int) : Rat)), (((0 : Int) : Rat), ((3 : Int) : Rat))]), .is 2 true [.int .i64 0, .int .i64 1, .bool false, .int .i64 0, .int .i64 2, .bool false]] = some (.tup [ra ((9 : Int) : Rat), .int .i64 0]) := fun h => lv_least (h := h)
 have l2 := fun h => lv_apart (h := h)
 have l3 : ∀ h, byVal (callW gp) h fid.zf0b [.is 0 true []] = some (.tup [.agg [.bool false, .str ⟨#[]⟩, .str ⟨#[]⟩, .bool false, .str ⟨#[]⟩, .str ⟨#[]⟩], .agg [.bool false, .str ⟨#[]⟩, .str ⟨#[]⟩, .bool false, .str ⟨#[]⟩, .str ⟨#[]⟩], .int .i64 1]) := fun h => lv_box (h := h)
 have l4 : ∀ h, byVal (callW gp) h fid.plan_At [.is 3 true [.int .i64 3, .int .i64 1, .bool false, .int .i64 2, .int .i64 0, .bool false, .int .i64 1, .int .i64 2, .bool false], .int .i64 1] = some (.is 2 false (ints [0, 2])) := fun h => lv_pat (h := h)
 have sm : ∀ h, byVal (callW gp) h fid.zf0q [.is 2 false (ints [0, 2]), .is 2 true (ints [0, 2])] = some (.bool true) := fun h => k_sameT (h := h) (l := [0, 2]) (m := [0, 2]) (by decide) (by decide)
 rw [zf0a.eq]
 unfold zf0a.f
 simp (disch := first | exact dD | fail) only [Wd, W2d, W3d, Nat.reduceAdd, Nat.reduceMul, Nat.reduceSub, a00, a40, a03, a20, a11, a13, o9, o1, b3, bslc2s, bslc3s, blds, l1, l2, l3, l4, bsl2i, sm, eqa_r, decide_true])
end
end Go.Proofs.YtiblnpnfaadmcaaGreat.Am
