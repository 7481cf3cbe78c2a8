import Derived.Test.YtiblnpnfaadmcaaGreatAmPlan17
/- Section 09: PlanScaled. -/
set_option linter.unusedVariables false
set_option maxRecDepth 10000
set_option linter.unusedSimpArgs false
namespace Go.Proofs.YtiblnpnfaadmcaaGreat.Am
open Go

theorem lo_err1 {xs : List PT} {gs : List Sg} (hx : ∀ t ∈ xs, t.ok) (n1 : xs.length ≤ 40) (n2 : gs.length ≤ 60) (hE : firstE (xs.map askc) = 0) (h : xs.length < 2 ∨ ¬ EVs xs.length gs) : LO xs gs z3 1 := by
  by_cases h2 : xs.length < 2
  · exact ⟨⟨rfl, rfl⟩, z3_rd, fun h => k_least1 hx h2 n2 hE⟩
  have hb : ¬ EVs xs.length gs := by
    rcases h with h | h
    · exact absurd h h2
    · exact h
  have hb' : ∃ s ∈ gs, ¬ EV xs.length s := Classical.byContradiction fun h => hb fun s hs => Classical.byContradiction fun h' => h ⟨s, hs, h'⟩
  exact ⟨⟨rfl, rfl⟩, z3_rd, fun h => k_leastB hx (by omega) n1 n2 hE hb'⟩
theorem cp_step {H : Heap} {y : AV} {sz n : Nat} {cs new : List AV} {f : Bool} (h : CpR H y sz n cs) (hl : new.length = sz) (hn : n ≤ 1000) (hc : new.all AV.cell = true) : ∃ y' H', opApp H sz y (.is 1 f new) = some (y', H') ∧ CpR H' y' sz (n + 1) (cs ++ new) := by
  rcases h with ⟨rfl, rfl, rfl⟩ | ⟨id, rfl, hv, hn'⟩
  · exact ⟨_, _, app_s0 (m := 1) (by omega) (by omega) (by omega) hc, .inr ⟨H.length, rfl, live_app_self, by simp; omega⟩⟩
  · refine ⟨_, _, app_sr (m := 1) hv hn' (by omega) (by omega) (by omega) hc, .inr ⟨H.length, rfl, ?_, ?_⟩⟩
    · have : (H.set id none).length = H.length := by simp
      rw [← this]; exact live_app_self
    · rw [List.length_append, hn', Nat.add_mul]; omega
theorem pc_cells {x y : Rat} : (ptc (pc (x, y))).all AV.cell = true := rfl
theorem bslp {x y : Rat} : opBslc 6 1 [.bool false, .str ⟨#[]⟩, .str ⟨#[]⟩, .bool false, .str ⟨#[]⟩, .str ⟨#[]⟩] [(0, pa x y)] = some (.is 1 true (ptc (pc (x, y)))) := Eq.trans rfl rfl
theorem bldp {x y : Rat} : opBld [.bool false, .str ⟨#[]⟩, .str ⟨#[]⟩, .bool false, .str ⟨#[]⟩, .str ⟨#[]⟩] [(0, 3, ra x), (3, 3, ra y)] = some (pa x y) := Eq.trans rfl rfl
theorem pcs_app {l : List (Rat × Rat)} {x y : Rat} : pcs l ++ ptc (pc (x, y)) = pcs (l ++ [(x, y)]) := by
  unfold pcs
  rw [List.map_append, List.flatMap_append]
  simp
section
variable {ps : List (Rat × Rat)} {f : Bool} {k : Int} {y1 : AV}
theorem map_take_succ {i : Nat} {q : Rat} (hi : i < ps.length) : (ps.take (i + 1)).map (scP q) = (ps.take i).map (scP q) ++ [(px ps i * q, py ps i * q)] := by
  rw [List.take_add_one, List.map_append]
  congr 1
  rw [List.getElem?_eq_getElem hi]
  unfold px py scP
  simp [List.getD, List.getElem?_eq_getElem hi]
set_option maxHeartbeats 8000000 in
theorem scl_l0 (hz : PZ ps) (hn : ps.length ≤ 1000) (k1 : -9223372036854775808 ≤ k) (k2 : k ≤ 9223372036854775807) {R : Option AV} (hR : ∀ H y, CpR H y 6 ps.length (pcs (ps.map (scP (k : Rat)))) → zf08.l0 (.is ps.length f (pcs ps)) y1 (.int .i64 k) y (.int .i64 (ps.length : Int)) H = R) : ∀ (n i : Nat) (H : Heap) (y : AV), i + n = ps.length → CpR H y 6 i (pcs ((ps.take i).map (scP (k : Rat)))) → zf08.l0 (.is ps.length f (pcs ps)) y1 (.int .i64 k) y (.int .i64 (i : Int)) H = R := by
  intro n
  induction n with
  | zero =>
    intro i H y hk hc
    obtain rfl : i = ps.length := by omega
    rw [List.take_length] at hc
    exact hR H y hc
  | succ n ih =>
    intro i H y hk hc
    have hi : i < ps.length := by omega
    have lk : opBin .lss (.int .i64 (i : Int)) (.int .i64 (ps.length : Int)) = some (.bool true) := lssT (by omega)
    have sx := sidxN (sz := 6) (f := f) (cs := pcs ps) hi
    have ea := pcs_at (ps := ps) hi
    obtain ⟨z1, z2⟩ := hz i hi
    have ko := fun h => k_3of (h := h) k1 k2
    have zk : Rz (k : Rat) 8 := Rz_int k1 k2
    have m1 := fun h => k_3mul (h := h) (z1.mono (m := 20000) (by omega)) (zk.mono (m := 20000) (by omega))
    have m2 := fun h => k_3mul (h := h) (z2.mono (m := 20000) (by omega)) (zk.mono (m := 20000) (by omega))
    obtain ⟨y', H', ap, hc'⟩ := cp_step (f := true) hc (new := ptc (pc (px ps i * (k : Rat), py ps i * (k : Rat)))) rfl (by omega) pc_cells
    rw [pcs_app, ← map_take_succ hi] at hc'
    have g := ih (i + 1) H' y' (by omega) hc'
    generalize px ps i = x at *
    generalize py ps i = y0 at *
    have rx : readCells ((pcs ps).drop (i * 6)) (some 3) = some (ra x) := by rw [ea]; exact Eq.trans rfl rfl
    have ry : readCells (((pcs ps).drop (i * 6)).drop 3) (some 3) = some (ra y0) := by rw [ea]; exact Eq.trans rfl rfl
    have fa0 : ∀ cs, opFaddr 0 (.ip cs) = some (.ip cs) := fun _ => rfl
    have fa3 : ∀ cs, opFaddr 3 (.ip cs) = some (.ip (cs.drop 3)) := fun _ => rfl
    have lip : ∀ h cs, opLoad h (some 3) (.ip cs) = readCells cs (some 3) := fun _ _ => rfl
    have ad : opBin .add (.int .i64 (i : Int)) (.int .i64 1) = some (.int .i64 ((i + 1 : Nat) : Int)) := i_add1 (by omega)
    rw [zf08.l0_eq]
    simp only [bind_s, len_is, lk, cond_t, sx, fa0, fa3, lip, rx, ry, ko, m1, m2, bldp, bslp, ap, ad]
    exact g
end
theorem firstE_sc {ps : List (Rat × Rat)} {q : Rat} (hz : PZ (ps.map (scP q))) : firstE (((ps.map (scP q)).map pc).map askc) = 0 := firstE_all fun t ht => by
  obtain ⟨p, hp, rfl⟩ := List.mem_map.1 ht
  obtain ⟨i, hi, rfl⟩ := List.getElem_of_mem hp
  obtain ⟨z1, z2⟩ := hz i hi
  have e : (ps.map (scP q)).getD i (0, 0) = (ps.map (scP q))[i] := by simp [List.getD, List.getElem?_eq_getElem hi]
  unfold px at z1
  unfold py at z2
  rw [e] at z1 z2
  exact askc_rat (z1.mono (by omega)) (z2.mono (by omega))
theorem neqI {a b : Int} (h : a = b) : opBin .neq (.int .i64 a) (.int .i64 b) = some (.bool false) := by
  rw [bin_neq]; exact congrArg (fun b => some (AV.bool b)) (decide_eq_false (by omega))
set_option maxHeartbeats 8000000 in
theorem planScaled_cv (xs : List PT) (gs : List Sg) (k : Int) (hx : ∀ t ∈ xs, t.ok) (_ : -9223372036854775808 ≤ k ∧ k ≤ 9223372036854775807) : cv gp fid.zf08 [.is xs.length false (xs.flatMap ptc), .is gs.length false (gs.flatMap sgc), .int .i64 k] = some (.bool true) := by
  have kl := fun h => c_live9 (h := h)
  have hsm : ∀ h, byVal (callW gp) h fid.zf09 [.is xs.length false (xs.flatMap ptc), .int .i64 12] = some (.bool (decide (smlP xs 12))) := fun h => c_small9 (xs := xs) (H := h) (x := .is xs.length false (xs.flatMap ptc)) (m := 12) (by decide) frz_isP
  rw [zf08.eq]
  unfold zf08.f
  by_cases hs : smlP xs 12
  rotate_left
  · rw [decide_eq_false hs] at hsm
    simp only [bind_s, hsm, notF, guard_ft, kl]
    rfl
  rw [decide_eq_true hs] at hsm
  by_cases hg : gs.length ≤ 12
  rotate_left
  · have c1 := gtrT (a := (gs.length : Int)) (b := 12) (by omega)
    simp only [bind_s, hsm, notT, guard_ff, len_is, c1, guard_ft, kl]
    rfl
  have c1 := gtrF (a := (gs.length : Int)) (b := 12) (by omega)
  by_cases hk1 : k < 1
  · have c2 := lssT hk1
    simp only [bind_s, hsm, notT, guard_ff, len_is, c1, c2, guard_ft, kl]
    rfl
  have c2 := lssF hk1
  by_cases hk2 : 1000 < k
  · have c3 := gtrT hk2
    simp only [bind_s, hsm, notT, guard_ff, len_is, c1, c2, c3, guard_ft, kl]
    rfl
  have c3 := gtrF (a := k) (b := 1000) (by omega)
  obtain ⟨n1, hf⟩ := hs
  have ka := fun h => k_5asked (h := h) (f := false) hx (by omega)
  by_cases hE : firstE (xs.map askc) = 0
  rotate_left
  · have nq := neqT9 hE
    simp only [bind_s, hsm, notT, guard_ff, len_is, c1, c2, c3, ka, nq, cond_t, kl]
    rfl
  rw [hE] at ka
  simp only [bind_s, hsm, notT, guard_ff, len_is, c1, c2, c3, ka, neqF9, cond_f]
  obtain ⟨ps, rfl, hps⟩ := to_ps xs hx hf (firstE_mem hE)
  rw [List.length_map] at n1
  have hz := pz_of hps
  have zk : Rz (k : Rat) 8 := Rz_int (by omega) (by omega)
  have hz' : PZ (ps.map (scP (k : Rat))) := fun i hi => by
    rw [sc_px, sc_py]
    rw [List.length_map] at hi
    have e : ps.getD i (0, 0) = ps[i] := by simp [List.getD, List.getElem?_eq_getElem hi]
    obtain ⟨a, b⟩ := hps _ (List.getElem_mem hi)
    unfold px py
    rw [e]
    exact ⟨(a.mul zk).mono (by omega), (b.mul zk).mono (by omega)⟩
  have lm : (ps.map pc).length = ps.length := List.length_map ..
  have lm' : ((ps.map (scP (k : Rat))).map pc).length = ps.length := by rw [List.length_map, List.length_map]
  have s2 : ∀ (H : Heap) v, CellsOK v 3 → opStore (H ++ [some [.bool false, .str ⟨#[]⟩, .str ⟨#[]⟩]]) 3 (.rp H.length 0) (.agg v) = some (H ++ [some v]) := fun H v hv => st_app3 (h := H) (z := z3) (v := v) (n := 3) rfl hv
  have lk : opBin .lss (.int .i64 (ps.length : Int)) (.int .i64 (ps.length : Int)) = some (.bool false) := lssF (by omega)
  have key := scl_l0 (f := false) (k := k) (y1 := .is gs.length false (gs.flatMap sgc)) (R := some (.bool true)) hz (by omega) (by omega) (by omega) (fun H y hc => ?_) ps.length 0 [] (.is 0 true []) (by omega) (.inl ⟨rfl, rfl, rfl⟩)
  · unfold pcs at key
    rw [lm]
    exact key
  have own : ∀ (v : List AV) (w : List AV) (e : Int), LO ((ps.map (scP (k : Rat))).map pc) gs w e → flatV (.tup [.agg w, .int .i64 e]) = true → byVal (callW gp) (H ++ [some v]) fid.zf0j [y, .is gs.length false (gs.flatMap sgc)] = some (.tup [.agg w, .int .i64 e]) := fun v w e lo hfl => by
    have hc' := hc.app [some v]
    have e1 : freeze (H ++ [some v]) y = some (.is ((ps.map (scP (k : Rat))).map pc).length false (((ps.map (scP (k : Rat))).map pc).flatMap ptc)) := by
      rw [lm']
      exact hc'.frz (imm_pcs _)
    exact byVal_own (mapM2 e1 frz_isS) (imm_L2p imm_isP imm_isS) (lo.k _) hfl
  rw [zf08.l0_eq]
  by_cases h : (ps.map pc).length < 2 ∨ ¬ EVs (ps.map pc).length gs
  · have q1 := lo_err1 hx (by omega) (by omega) hE h
    rw [lm, ← lm'] at h
    have q2 := lo_err1 (gs := gs) (xs := (ps.map (scP (k : Rat))).map pc) pc_ok (by omega) (by omega) (firstE_sc hz') h
    have k1 := q1.k
    rw [lm] at k1
    have k1 : ∀ h, byVal (callW gp) h fid.zf0j [.is ps.length false (pcs ps), .is gs.length false (gs.flatMap sgc)] = _ := k1
    have k2 := own z3 _ _ q2 rfl
    have p1 := s2 H _ q1.c
    have p2 := s2 (H ++ [some z3]) _ q2.c
    have ld1 : opLoad (H ++ [some z3] ++ [some z3]) (some 3) (.rp (List.length H) 0) = some (.agg z3) := by
      rw [ld_rp, live_app_old live_app_self]; exact Eq.trans rfl rfl
    have ld2 : opLoad (H ++ [some z3] ++ [some z3]) (some 3) (.rp (List.length (H ++ [some z3])) 0) = some (.agg z3) := by
      rw [ld_rp, live_app_self]; exact Eq.trans rfl rfl
    have ng := neqI (a := 1) rfl
    have nh := neqT9 (z := 1) (by decide)
    simp only [bind_s, len_is, lk, cond_f, k1, ext0, ext1, p1, k2, p2, ng, nh, cond_t, ld1, ld2, bldz9, eqa_z3, guard_tt, kl]
    rfl
  · have h2 : ¬ (ps.map pc).length < 2 := fun g => h (.inl g)
    have hb : EVs (ps.map pc).length gs := Classical.byContradiction fun g => h (.inr g)
    clear h
    obtain ⟨ss, rfl, hss⟩ := to_ss gs hb
    rw [lm] at hss h2
    rw [List.length_map] at hg
    have hv := sv_of hss
    have hv' : SV (ps.map (scP (k : Rat))).length ss := by rw [List.length_map]; exact hv
    have q1 := lo_ok hz hv (by omega) (by omega) (by omega)
    have q2 := lo_ok hz' hv' (by rw [List.length_map]; omega) (by rw [List.length_map]; omega) (by omega)
    have kp : (0 : Rat) < (k : Rat) := by
      have : (0 : Int) < k := by omega
      exact_mod_cast this
    rw [least_scaled kp (by omega)] at q2
    have k1 := q1.k
    rw [lm] at k1
    have k1 : ∀ h, byVal (callW gp) h fid.zf0j [.is ps.length false (pcs ps), .is (ss.map sq_).length false ((ss.map sq_).flatMap sgc)] = _ := k1
    have zl := least_z hz hv (by omega)
    have k2 := own (rcl (leastQ ps ss)) _ _ q2 rfl
    have ko := fun h => k_3of (h := h) (z := k) (by omega) (by omega)
    have ks := fun h => k_3sq (h := h) (zk.mono (m := 20000) (by omega))
    have km := fun h => k_3mul (h := h) (zl.mono (m := 20000) (by omega)) ((zk.mul zk).mono (m := 20000) (by omega))
    have ec : (k : Rat) * (k : Rat) * leastQ ps ss = leastQ ps ss * ((k : Rat) * (k : Rat)) := Rat.mul_comm ..
    rw [ec] at q2 k2
    generalize leastQ ps ss = M at *
    generalize M * ((k : Rat) * (k : Rat)) = M2 at *
    have p1 := s2 H _ q1.c
    have p2 := s2 (H ++ [some (rcl M)]) _ q2.c
    have ld1 : opLoad (H ++ [some (rcl M)] ++ [some (rcl M2)]) (some 3) (.rp (List.length H) 0) = some (ra M) := by
      rw [ld_rp, live_app_old live_app_self]; exact Eq.trans rfl rfl
    have ld2 : opLoad (H ++ [some (rcl M)] ++ [some (rcl M2)]) (some 3) (.rp (List.length (H ++ [some (rcl M)])) 0) = some (ra M2) := by
      rw [ld_rp, live_app_self]; exact Eq.trans rfl rfl
    simp only [bind_s, len_is, lk, cond_f, k1, ext0, ext1, p1, k2, p2, neqF9, ld1, ld2, ko, ks, km, eqa_r, decide_true, guard_tt, kl]
    rfl
end Go.Proofs.YtiblnpnfaadmcaaGreat.Am
