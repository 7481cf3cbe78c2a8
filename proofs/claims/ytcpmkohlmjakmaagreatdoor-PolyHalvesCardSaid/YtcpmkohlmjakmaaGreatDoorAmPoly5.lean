import Derived.Test.YtcpmkohlmjakmaaGreatDoorAmPoly4
/- Integrals over triangles: the program's. -/
set_option linter.unusedVariables false
set_option maxRecDepth 10000
set_option linter.unusedSimpArgs false
namespace Go.Proofs.YtcpmkohlmjakmaaGreatDoor.Am
open Go

abbrev z3 : List AV := [.bool false, .str ⟨#[]⟩, .str ⟨#[]⟩]
abbrev z9 : List AV := [.bool false, .str ⟨#[]⟩, .str ⟨#[]⟩, .bool false, .str ⟨#[]⟩, .str ⟨#[]⟩, .bool false, .str ⟨#[]⟩, .str ⟨#[]⟩]
abbrev z18 : List AV := [.bool false, .str ⟨#[]⟩, .str ⟨#[]⟩, .bool false, .str ⟨#[]⟩, .str ⟨#[]⟩, .bool false, .str ⟨#[]⟩, .str ⟨#[]⟩, .bool false, .str ⟨#[]⟩, .str ⟨#[]⟩, .bool false, .str ⟨#[]⟩, .str ⟨#[]⟩, .bool false, .str ⟨#[]⟩, .str ⟨#[]⟩]
/-- What is told where it cannot be told. -/
abbrev plE (e : Int) : AV := .tup [.agg z3, .agg z18, .int .i64 e]
theorem r6cells (t : R6) : r6c t = [.bool t.1.s, str t.1.m, str t.1.d, .bool t.2.1.s, str t.2.1.m, str t.2.1.d, .bool t.2.2.1.s, str t.2.2.1.m, str t.2.2.1.d, .bool t.2.2.2.1.s, str t.2.2.2.1.m, str t.2.2.2.1.d, .bool t.2.2.2.2.1.s, str t.2.2.2.2.1.m, str t.2.2.2.2.1.d, .bool t.2.2.2.2.2.s, str t.2.2.2.2.2.m, str t.2.2.2.2.2.d] := rfl
theorem ptcells (t : PT) : ptc t = [.bool t.1.s, str t.1.m, str t.1.d, .bool t.2.s, str t.2.m, str t.2.d] := rfl
theorem rc9' {a0 a1 a2 a3 a4 a5 a6 a7 a8 : AV} {l : List AV} : readCells (a0 :: a1 :: a2 :: a3 :: a4 :: a5 :: a6 :: a7 :: a8 :: l) (some 9) = some (.agg [a0, a1, a2, a3, a4, a5, a6, a7, a8]) := Eq.trans rfl rfl
section
variable {sz len : Nat} {k : IntKind} {cs : List AV}
theorem axp0 (h : 0 < len) : opAidx sz len (.ip cs) (.int k 0) = some (.ip cs) := (aidxI_n (i := 0) h).trans (by simp)
theorem axp1 (h : 1 < len) : opAidx sz len (.ip cs) (.int k 1) = some (.ip (cs.drop sz)) := (aidxI_n (i := 1) h).trans (by simp)
theorem axp2 (h : 2 < len) : opAidx sz len (.ip cs) (.int k 2) = some (.ip (cs.drop (2 * sz))) := aidxI_n (i := 2) h
theorem axp3 (h : 3 < len) : opAidx sz len (.ip cs) (.int k 3) = some (.ip (cs.drop (3 * sz))) := aidxI_n (i := 3) h
theorem axp4 (h : 4 < len) : opAidx sz len (.ip cs) (.int k 4) = some (.ip (cs.drop (4 * sz))) := aidxI_n (i := 4) h
theorem axp5 (h : 5 < len) : opAidx sz len (.ip cs) (.int k 5) = some (.ip (cs.drop (5 * sz))) := aidxI_n (i := 5) h
end
section
variable {h : Heap} {f : P6} {ax ay bx b_ cx cy : Rat} {t : R6} {a b c : PT}
theorem k_pasked3 {fl : Bool} (ha : a.ok) (hb : b.ok) (hc : c.ok) : byVal (callW gp) h fid.poly_asked [.is 6 fl [.bool a.1.s, str a.1.m, str a.1.d, .bool a.2.s, str a.2.m, str a.2.d, .bool b.1.s, str b.1.m, str b.1.d, .bool b.2.s, str b.2.m, str b.2.d, .bool c.1.s, str c.1.m, str c.1.d, .bool c.2.s, str c.2.m, str c.2.d]] = some (.int .i64 (askp [a, b, c])) := by
  have := k_pasked (h := h) (f := fl) (xs := pnums [a, b, c]) (fun x hx => by
    unfold pnums at hx
    simp only [List.flatMap_cons, List.flatMap_nil, List.cons_append, List.nil_append, List.mem_cons, List.not_mem_nil, or_false] at hx
    rcases hx with rfl | rfl | rfl | rfl | rfl | rfl
    · exact ha.1
    · exact ha.2
    · exact hb.1
    · exact hb.2
    · exact hc.1
    · exact hc.2) (by show 6 ≤ _; omega)
  exact this
theorem k_planeE1 (ht : t.ok) (he : ask6 t ≠ 0) : byVal (callW gp) h fid.poly_plane [.agg (r6c t), .agg (ptc a), .agg (ptc b), .agg (ptc c)] = some (plE (ask6 t)) := byVal_imm (imm_q4 imm_r6 imm_pt imm_pt imm_pt) (by
  have kc := fun h => k_pcheck (h := h) ht
  generalize ask6 t = e at *
  rw [poly_plane.eq]
  unfold poly_plane.f
  simp only [r6cells, ptcells] at kc ⊢
  simp (disch := first | exact dD | fail) only [Wd, W2d, W3d, Nat.reduceAdd, Nat.reduceMul, Nat.reduceSub, kc, cond_d, he]
  rfl)
theorem k_planeE2 (ht : t.ok) (ha : a.ok) (hb : b.ok) (hc : c.ok) (h0 : ask6 t = 0) (he : askp [a, b, c] ≠ 0) : byVal (callW gp) h fid.poly_plane [.agg (r6c t), .agg (ptc a), .agg (ptc b), .agg (ptc c)] = some (plE (askp [a, b, c])) := byVal_imm (imm_q4 imm_r6 imm_pt imm_pt imm_pt) (by
  have kc := fun h => k_pcheck (h := h) ht
  rw [h0] at kc
  have ka := fun h fl => k_pasked3 (h := h) (fl := fl) ha hb hc
  generalize askp [a, b, c] = e at *
  rw [poly_plane.eq]
  unfold poly_plane.f
  simp only [r6cells, ptcells] at kc ⊢
  simp (disch := first | exact dD | fail) only [Wd, W2d, W3d, Nat.reduceAdd, Nat.reduceMul, Nat.reduceSub, bslc_a6, kc, ka, cond_d, he]
  rfl)
theorem k_planeE3 (hf : f.Z 100) (t : Tz ax ay bx b_ cx cy 100) (h0 : area ax ay bx b_ cx cy = 0) : byVal (callW gp) h fid.poly_plane [sa f, pa ax ay, pa bx b_, pa cx cy] = some (plE 6) := byVal_imm (imm_q4 imm_sa imm_pa imm_pa imm_pa) (by
  have kc := fun h => k_pcheck (h := h) (rt6_ok f)
  rw [ask6_0 hf] at kc
  have ka := fun h fl => k_pasked6 (h := h) (fl := fl) t
  have kA := fun h => k_carea (h := h) t.h1 t.h2 t.h3 t.h4 t.h5 t.h6
  have hA : (area ax ay bx b_ cx cy).num.natAbs = 0 := Eq.mpr zero_num h0
  rw [poly_plane.eq]
  unfold poly_plane.f
  unfold sa
  simp only [cells6] at kc ⊢
  simp (disch := first | exact dD | fail) only [Wd, W2d, W3d, Nat.reduceAdd, Nat.reduceMul, Nat.reduceSub, bslc_a6, kc, ka, kA, nstr_eq0, hA]
  rfl)
/-! ### Where it cannot be told -/
theorem c_intE {e : Int} (hp : ∀ h, byVal (callW gp) h fid.poly_plane [.agg (r6c t), .agg (ptc a), .agg (ptc b), .agg (ptc c)] = some (plE e)) (he : e ≠ 0) : byVal (callW gp) h fid.poly_Integral [.agg (r6c t), .agg (ptc a), .agg (ptc b), .agg (ptc c)] = some (.tup [.agg z3, .int .i64 e]) := byVal_imm (imm_q4 imm_r6 imm_pt imm_pt imm_pt) (by
  rw [poly_Integral.eq]
  unfold poly_Integral.f
  simp only [r6cells, ptcells] at hp ⊢
  simp (disch := first | exact dD | fail) only [Wd, W2d, W3d, Nat.reduceAdd, Nat.reduceMul, Nat.reduceSub, hp, cond_d, he]
  rfl)
theorem c_loadE {e : Int} (hp : ∀ h, byVal (callW gp) h fid.poly_plane [.agg (r6c t), .agg (ptc a), .agg (ptc b), .agg (ptc c)] = some (plE e)) (he : e ≠ 0) : byVal (callW gp) h fid.poly_Loads [.agg (r6c t), .agg (ptc a), .agg (ptc b), .agg (ptc c)] = some (.tup [.agg z9, .int .i64 e]) := byVal_imm (imm_q4 imm_r6 imm_pt imm_pt imm_pt) (by
  rw [poly_Loads.eq]
  unfold poly_Loads.f
  simp only [r6cells, ptcells] at hp ⊢
  simp (disch := first | exact dD | fail) only [Wd, W2d, W3d, Nat.reduceAdd, Nat.reduceMul, Nat.reduceSub, hp, cond_d, he, rc9']
  rfl)
theorem c_sqE {e : Int} (hp : ∀ h, byVal (callW gp) h fid.poly_plane [.agg (r6c t), .agg (ptc a), .agg (ptc b), .agg (ptc c)] = some (plE e)) (he : e ≠ 0) : byVal (callW gp) h fid.poly_Square [.agg (r6c t), .agg (ptc a), .agg (ptc b), .agg (ptc c)] = some (.tup [.agg z3, .int .i64 e]) := byVal_imm (imm_q4 imm_r6 imm_pt imm_pt imm_pt) (by
  rw [poly_Square.eq]
  unfold poly_Square.f
  simp only [r6cells, ptcells] at hp ⊢
  simp (disch := first | exact dD | fail) only [Wd, W2d, W3d, Nat.reduceAdd, Nat.reduceMul, Nat.reduceSub, hp, cond_d, he]
  rfl)
end

theorem wI_ok : wI.ok := by unfold W6.ok W6.l wI; decide
theorem wI_c : wc wI = [.int .i64 0, .int .i64 0, .int .i64 0, .int .i64 1, .int .i64 1, .int .i64 1] := rfl
theorem wL0_ok : wL0.ok := by unfold W6.ok W6.l wL0; decide
theorem wL0_c : wc wL0 = [.int .i64 2, .int .i64 (-1), .int .i64 (-1), .int .i64 4, .int .i64 8, .int .i64 8] := rfl
theorem wL1_ok : wL1.ok := by unfold W6.ok W6.l wL1; decide
theorem wL1_c : wc wL1 = [.int .i64 (-1), .int .i64 2, .int .i64 (-1), .int .i64 8, .int .i64 4, .int .i64 8] := rfl
theorem wL2_ok : wL2.ok := by unfold W6.ok W6.l wL2; decide
theorem wL2_c : wc wL2 = [.int .i64 (-1), .int .i64 (-1), .int .i64 2, .int .i64 8, .int .i64 8, .int .i64 4] := rfl
theorem wS0_ok : wS0.ok := by unfold W6.ok W6.l wS0; decide
theorem wS0_c : wc wS0 = [.int .i64 6, .int .i64 (-1), .int .i64 (-1), .int .i64 (-4), .int .i64 0, .int .i64 0] := rfl
theorem wS1_ok : wS1.ok := by unfold W6.ok W6.l wS1; decide
theorem wS1_c : wc wS1 = [.int .i64 (-1), .int .i64 6, .int .i64 (-1), .int .i64 0, .int .i64 (-4), .int .i64 0] := rfl
theorem wS2_ok : wS2.ok := by unfold W6.ok W6.l wS2; decide
theorem wS2_c : wc wS2 = [.int .i64 (-1), .int .i64 (-1), .int .i64 6, .int .i64 0, .int .i64 0, .int .i64 (-4)] := rfl
theorem wS3_ok : wS3.ok := by unfold W6.ok W6.l wS3; decide
theorem wS3_c : wc wS3 = [.int .i64 (-4), .int .i64 0, .int .i64 0, .int .i64 32, .int .i64 16, .int .i64 16] := rfl
theorem wS4_ok : wS4.ok := by unfold W6.ok W6.l wS4; decide
theorem wS4_c : wc wS4 = [.int .i64 0, .int .i64 (-4), .int .i64 0, .int .i64 16, .int .i64 32, .int .i64 16] := rfl
theorem wS5_ok : wS5.ok := by unfold W6.ok W6.l wS5; decide
theorem wS5_c : wc wS5 = [.int .i64 0, .int .i64 0, .int .i64 (-4), .int .i64 16, .int .i64 16, .int .i64 32] := rfl
/-! ### Where it can -/
/-- What the sizes of a triangle's values are. -/
structure Szs (f : P6) (ax ay bx b_ cx cy : Rat) (D E : Nat) : Prop where
  v : Pz (sixQ f ax ay bx b_ cx cy) D 306
  a : Sz (arQ ax ay bx b_ cx cy) E 203
  d0 : 0 < D
  e0 : 0 < E
  dl : D < P256 1802
  el : E < P256 1201
theorem szs {f : P6} {ax ay bx b_ cx cy : Rat} (hf : f.Z 100) (t : Tz ax ay bx b_ cx cy 100) : ∃ D E, Szs f ax ay bx b_ cx cy D E := by
  obtain ⟨F, f0, fl, pz⟩ := pol_F hf
  obtain ⟨W, w0, wl, tw⟩ := tri_W t
  have wl2 := w2_lt wl
  have w02 : 0 < W * 2 := by omega
  have dl := pw_mul (pw_mul fl wl2) wl2
  have el := pw_mul (b := 2) (n := 1) (pw_mul wl wl) (by decide)
  exact ⟨F * (W * 2) * (W * 2), W * W * 2, Pz_six pz tw, Sz_ar tw, Nat.mul_pos (Nat.mul_pos f0 w02) w02, Nat.mul_pos (Nat.mul_pos w0 w0) (by omega), pw_cast dl rfl, pw_cast el rfl⟩
section
variable {h : Heap} {f : P6} {ax ay bx b_ cx cy : Rat}
theorem k_int (hf : f.Z 100) (t : Tz ax ay bx b_ cx cy 100) (h0 : area ax ay bx b_ cx cy ≠ 0) : byVal (callW gp) h fid.poly_Integral [sa f, pa ax ay, pa bx b_, pa cx cy] = some (.tup [ra (intQ (sixQ f ax ay bx b_ cx cy) (arQ ax ay bx b_ cx cy)), .int .i64 0]) := byVal_imm (imm_q4 imm_sa imm_pa imm_pa imm_pa) (by
  have kp := fun h => k_plane (h := h) hf t h0
  obtain ⟨D, E, s⟩ := szs hf t
  have kw := fun h => c_weighed (h := h) (by_ := 3) s.v wI_ok s.a s.d0 s.e0 s.dl s.el (by omega) (by omega) (by omega)
  clear s
  rw [wI_c] at kw
  unfold intQ
  generalize sixQ f ax ay bx b_ cx cy = v at *
  generalize arQ ax ay bx b_ cx cy = a at *
  generalize wedQ v wI a 3 = q at *
  rw [poly_Integral.eq]
  unfold poly_Integral.f
  unfold sa at *
  simp only [cells6] at kp kw ⊢
  simp (disch := first | exact dD | fail) only [Wd, W2d, W3d, Nat.reduceAdd, Nat.reduceMul, Nat.reduceSub, kp, kw])
def ld3 (l : Rat × Rat × Rat) : List AV := rtc (rt l.1) ++ rtc (rt l.2.1) ++ rtc (rt l.2.2)
theorem k_loads (hf : f.Z 100) (t : Tz ax ay bx b_ cx cy 100) (h0 : area ax ay bx b_ cx cy ≠ 0) : byVal (callW gp) h fid.poly_Loads [sa f, pa ax ay, pa bx b_, pa cx cy] = some (.tup [.agg (ld3 (loadQ (sixQ f ax ay bx b_ cx cy) (arQ ax ay bx b_ cx cy))), .int .i64 0]) := byVal_imm (imm_q4 imm_sa imm_pa imm_pa imm_pa) (by
  have kp := fun h => k_plane (h := h) hf t h0
  obtain ⟨D, E, s⟩ := szs hf t
  have kw0 := fun h => c_weighed (h := h) (by_ := 60) s.v wL0_ok s.a s.d0 s.e0 s.dl s.el (by omega) (by omega) (by omega)
  have kw1 := fun h => c_weighed (h := h) (by_ := 60) s.v wL1_ok s.a s.d0 s.e0 s.dl s.el (by omega) (by omega) (by omega)
  have kw2 := fun h => c_weighed (h := h) (by_ := 60) s.v wL2_ok s.a s.d0 s.e0 s.dl s.el (by omega) (by omega) (by omega)
  clear s
  rw [wL0_c] at kw0
  rw [wL1_c] at kw1
  rw [wL2_c] at kw2
  unfold loadQ ld3 rtc rt
  generalize sixQ f ax ay bx b_ cx cy = v at *
  generalize arQ ax ay bx b_ cx cy = a at *
  generalize wedQ v wL0 a 60 = q0 at *
  generalize wedQ v wL1 a 60 = q1 at *
  generalize wedQ v wL2 a 60 = q2 at *
  rw [poly_Loads.eq]
  unfold poly_Loads.f
  unfold sa at *
  simp only [cells6] at kp kw0 kw1 kw2 ⊢
  simp (disch := first | exact dD | fail) only [Wd, W2d, W3d, Nat.reduceAdd, Nat.reduceMul, Nat.reduceSub, kp]
  rw [poly_Loads.l0_eq]
  unfold gl0
  simp (disch := first | exact dD | fail) only [Wd, W2d, W3d, Nat.reduceAdd, Nat.reduceMul, Nat.reduceSub, lc7_0, lc7_1, lc7_2, lc7_3, axp0, ax0, kw0]
  rw [poly_Loads.l0_eq]
  unfold gl0
  simp (disch := first | exact dD | fail) only [Wd, W2d, W3d, Nat.reduceAdd, Nat.reduceMul, Nat.reduceSub, lc7_0, lc7_1, lc7_2, lc7_3, axp1, ax1, inc1, kw1]
  rw [poly_Loads.l0_eq]
  unfold gl0
  simp (disch := first | exact dD | fail) only [Wd, W2d, W3d, Nat.reduceAdd, Nat.reduceMul, Nat.reduceSub, lc7_0, lc7_1, lc7_2, lc7_3, axp2, ax2, inc2, kw2]
  rw [poly_Loads.l0_eq]
  simp (disch := first | exact dD | fail) only [Wd, W2d, W3d, Nat.reduceAdd, Nat.reduceMul, Nat.reduceSub, rc9']
  rfl)
theorem k_square (hf : f.Z 100) (t : Tz ax ay bx b_ cx cy 100) (h0 : area ax ay bx b_ cx cy ≠ 0) : byVal (callW gp) h fid.poly_Square [sa f, pa ax ay, pa bx b_, pa cx cy] = some (.tup [ra (sqQ (sixQ f ax ay bx b_ cx cy) (arQ ax ay bx b_ cx cy)), .int .i64 0]) := byVal_imm (imm_q4 imm_sa imm_pa imm_pa imm_pa) (by
  have kp := fun h => k_plane (h := h) hf t h0
  obtain ⟨D, E, s⟩ := szs hf t
  have kw0 := fun h => c_weighed (h := h) (by_ := 180) s.v wS0_ok s.a s.d0 s.e0 s.dl s.el (by omega) (by omega) (by omega)
  have kw1 := fun h => c_weighed (h := h) (by_ := 180) s.v wS1_ok s.a s.d0 s.e0 s.dl s.el (by omega) (by omega) (by omega)
  have kw2 := fun h => c_weighed (h := h) (by_ := 180) s.v wS2_ok s.a s.d0 s.e0 s.dl s.el (by omega) (by omega) (by omega)
  have kw3 := fun h => c_weighed (h := h) (by_ := 180) s.v wS3_ok s.a s.d0 s.e0 s.dl s.el (by omega) (by omega) (by omega)
  have kw4 := fun h => c_weighed (h := h) (by_ := 180) s.v wS4_ok s.a s.d0 s.e0 s.dl s.el (by omega) (by omega) (by omega)
  have kw5 := fun h => c_weighed (h := h) (by_ := 180) s.v wS5_ok s.a s.d0 s.e0 s.dl s.el (by omega) (by omega) (by omega)
  have wl : D * E * Int.natAbs 180 < P256 (1802 + 1201 + 1) := pw_mul (pw_mul s.dl s.el) (by decide)
  have w0 : 0 < D * E * Int.natAbs 180 := Nat.mul_pos (Nat.mul_pos s.d0 s.e0) (by decide)
  have pl := pw_mul s.dl wl
  have p0 := Nat.mul_pos s.d0 w0
  have zz : Sz ((0 : Int) : Rat) (D * (D * E * Int.natAbs 180)) 822 := Sz_zero
  have z8 : Rz ((0 : Int) : Rat) 8000 := zz.rz p0 pl (by omega)
  have w0' := Sz_wed s.v wS0_ok s.a (by_ := 180) (by omega)
  have v0' := s.v.z0.mul w0'
  have s0' := zz.add (v0'.up (show 306 + (306 + 7 + 203) ≤ 822 + 0 by omega))
  have w1' := Sz_wed s.v wS1_ok s.a (by_ := 180) (by omega)
  have v1' := s.v.z1.mul w1'
  have s1' := s0'.add (v1'.up (show 306 + (306 + 7 + 203) ≤ 822 + 1 by omega))
  have w2' := Sz_wed s.v wS2_ok s.a (by_ := 180) (by omega)
  have v2' := s.v.z2.mul w2'
  have s2' := s1'.add (v2'.up (show 306 + (306 + 7 + 203) ≤ 822 + 2 by omega))
  have w3' := Sz_wed s.v wS3_ok s.a (by_ := 180) (by omega)
  have v3' := s.v.z3.mul w3'
  have s3' := s2'.add (v3'.up (show 306 + (306 + 7 + 203) ≤ 822 + 3 by omega))
  have w4' := Sz_wed s.v wS4_ok s.a (by_ := 180) (by omega)
  have v4' := s.v.z4.mul w4'
  have s4' := s3'.add (v4'.up (show 306 + (306 + 7 + 203) ≤ 822 + 4 by omega))
  have w5' := Sz_wed s.v wS5_ok s.a (by_ := 180) (by omega)
  have v5' := s.v.z5.mul w5'
  have s5' := s4'.add (v5'.up (show 306 + (306 + 7 + 203) ≤ 822 + 5 by omega))
  have a0 := s.v.z0.rz s.d0 s.dl (n := 8000) (by omega)
  have b0 := w0'.rz w0 wl (n := 8000) (by omega)
  have c0 := v0'.rz p0 pl (n := 8000) (by omega)
  have d0 := s0'.rz p0 pl (n := 8000) (by omega)
  have a1 := s.v.z1.rz s.d0 s.dl (n := 8000) (by omega)
  have b1 := w1'.rz w0 wl (n := 8000) (by omega)
  have c1 := v1'.rz p0 pl (n := 8000) (by omega)
  have d1 := s1'.rz p0 pl (n := 8000) (by omega)
  have a2 := s.v.z2.rz s.d0 s.dl (n := 8000) (by omega)
  have b2 := w2'.rz w0 wl (n := 8000) (by omega)
  have c2 := v2'.rz p0 pl (n := 8000) (by omega)
  have d2 := s2'.rz p0 pl (n := 8000) (by omega)
  have a3 := s.v.z3.rz s.d0 s.dl (n := 8000) (by omega)
  have b3 := w3'.rz w0 wl (n := 8000) (by omega)
  have c3 := v3'.rz p0 pl (n := 8000) (by omega)
  have d3 := s3'.rz p0 pl (n := 8000) (by omega)
  have a4 := s.v.z4.rz s.d0 s.dl (n := 8000) (by omega)
  have b4 := w4'.rz w0 wl (n := 8000) (by omega)
  have c4 := v4'.rz p0 pl (n := 8000) (by omega)
  have d4 := s4'.rz p0 pl (n := 8000) (by omega)
  have a5 := s.v.z5.rz s.d0 s.dl (n := 8000) (by omega)
  have b5 := w5'.rz w0 wl (n := 8000) (by omega)
  have c5 := v5'.rz p0 pl (n := 8000) (by omega)
  clear s5' s4' s3' s2' s1' s0' v0' w0' v1' w1' v2' w2' v3' w3' v4' w4' v5' w5' zz pl wl w0 p0 s
  rw [wS0_c] at kw0
  rw [wS1_c] at kw1
  rw [wS2_c] at kw2
  rw [wS3_c] at kw3
  rw [wS4_c] at kw4
  rw [wS5_c] at kw5
  unfold sqQ
  generalize sixQ f ax ay bx b_ cx cy = v at *
  generalize arQ ax ay bx b_ cx cy = a at *
  generalize wedQ v wS0 a 180 = q0 at *
  generalize wedQ v wS1 a 180 = q1 at *
  generalize wedQ v wS2 a 180 = q2 at *
  generalize wedQ v wS3 a 180 = q3 at *
  generalize wedQ v wS4 a 180 = q4 at *
  generalize wedQ v wS5 a 180 = q5 at *
  rw [poly_Square.eq]
  unfold poly_Square.f
  unfold sa at *
  simp only [cells6] at kp kw0 kw1 kw2 kw3 kw4 kw5 ⊢
  simp (disch := first | exact dD | fail) only [Wd, W2d, W3d, Nat.reduceAdd, Nat.reduceMul, Nat.reduceSub, kp, k_rof]
  rw [poly_Square.l0_eq]
  unfold gl1
  simp (disch := first | exact dD | fail) only [Wd, W2d, W3d, Nat.reduceAdd, Nat.reduceMul, Nat.reduceSub, lc7_0, lc7_1, lc7_2, lc7_3, lc4, lc5, lc6, axp0, ix0, inc0, kw0, c_pprod, c_psum]
  rw [poly_Square.l0_eq]
  unfold gl1
  simp (disch := first | exact dD | fail) only [Wd, W2d, W3d, Nat.reduceAdd, Nat.reduceMul, Nat.reduceSub, lc7_0, lc7_1, lc7_2, lc7_3, lc4, lc5, lc6, axp1, ix1, inc1, kw1, c_pprod, c_psum]
  rw [poly_Square.l0_eq]
  unfold gl1
  simp (disch := first | exact dD | fail) only [Wd, W2d, W3d, Nat.reduceAdd, Nat.reduceMul, Nat.reduceSub, lc7_0, lc7_1, lc7_2, lc7_3, lc4, lc5, lc6, axp2, ix2, inc2, kw2, c_pprod, c_psum]
  rw [poly_Square.l0_eq]
  unfold gl1
  simp (disch := first | exact dD | fail) only [Wd, W2d, W3d, Nat.reduceAdd, Nat.reduceMul, Nat.reduceSub, lc7_0, lc7_1, lc7_2, lc7_3, lc4, lc5, lc6, axp3, ix3, inc3, kw3, c_pprod, c_psum]
  rw [poly_Square.l0_eq]
  unfold gl1
  simp (disch := first | exact dD | fail) only [Wd, W2d, W3d, Nat.reduceAdd, Nat.reduceMul, Nat.reduceSub, lc7_0, lc7_1, lc7_2, lc7_3, lc4, lc5, lc6, axp4, ix4, inc4, kw4, c_pprod, c_psum]
  rw [poly_Square.l0_eq]
  unfold gl1
  simp (disch := first | exact dD | fail) only [Wd, W2d, W3d, Nat.reduceAdd, Nat.reduceMul, Nat.reduceSub, lc7_0, lc7_1, lc7_2, lc7_3, lc4, lc5, lc6, axp5, ix5, inc5, kw5, c_pprod, c_psum]
  rw [poly_Square.l0_eq]
  simp (disch := first | exact dD | fail) only [Wd, W2d, W3d, Nat.reduceAdd, Nat.reduceMul, Nat.reduceSub])
end
end Go.Proofs.YtcpmkohlmjakmaaGreatDoor.Am