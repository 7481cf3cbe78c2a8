import Derived.Test.YtiblnpnfaadmcaaGreatAmPlan16
/- Section 09: PlanFewer's law. -/
set_option linter.unusedVariables false
set_option maxRecDepth 10000
set_option linter.unusedSimpArgs false
namespace Go.Proofs.YtiblnpnfaadmcaaGreat.Am
open Go

section
variable {ps : List (Rat × Rat)} {ss : List Sq}
theorem sv_mem {n : Nat} {s : Sq} (h : SV n ss) (hs : s ∈ ss) : s.1 < n ∧ s.2.1 < n := by
  obtain ⟨i, hi, rfl⟩ := List.getElem_of_mem hs
  have e : sat ss i = ss[i] := by unfold sat; simp [List.getD, List.getElem?_eq_getElem hi]
  have := h i hi
  rw [e] at this
  exact this
theorem nil_find (h2 : 2 ≤ ps.length) : (List.range' 0 ps.length).any (fun i => (List.range' 0 i).any fun k => decide (dF ps i k = leastQ ps [])) = true := by
  obtain ⟨i, k, hki, hi, e⟩ := dst_nil.1 (least_ok (ss := []) h2).2.1
  refine List.any_eq_true.2 ⟨i, List.mem_range'.2 ⟨i, hi, by omega⟩, List.any_eq_true.2 ⟨k, List.mem_range'.2 ⟨k, hki, by omega⟩, decide_eq_true e.symm⟩⟩
theorem nil_min (h2 : 2 ≤ ps.length) : ∀ i k, k < i → i < ps.length → leastQ ps [] ≤ dF ps i k := fun i k h1 h3 => (least_ok (ss := []) h2).2.2 _ (dst_nil.2 ⟨i, k, h1, h3, rfl⟩)
theorem least_z (hz : PZ ps) (hsv : SV ps.length ss) (h2 : 2 ≤ ps.length) : Rz (leastQ ps ss) 1500 := by
  have h := (least_ok (ss := ss) h2).2.1
  generalize leastQ ps ss = m at *
  cases h with
  | far i k hk hi => exact far_rd hz hi (by omega)
  | near i s hi hs h =>
    obtain ⟨v1, v2⟩ := sv_mem hsv hs
    obtain ⟨z1, z2⟩ := hz _ v1
    obtain ⟨z3', z4⟩ := hz _ v2
    obtain ⟨z5, z6'⟩ := hz _ hi
    exact near_z z1 z2 z3' z4 z5 z6'
  | apart i k hk hi h1 h2 =>
    obtain ⟨v1, v2⟩ := hsv i hi
    obtain ⟨w1, w2⟩ := hsv k (by omega)
    obtain ⟨z1, z2⟩ := hz _ v1
    obtain ⟨z3', z4⟩ := hz _ v2
    obtain ⟨z5, z6'⟩ := hz _ w1
    obtain ⟨z7, z8⟩ := hz _ w2
    exact apart_z z1 z2 z3' z4 z5 z6' z7 z8
end
theorem LO.nil {xs : List PT} {v : List AV} {e : Int} (h : LO xs [] v e) (H : Heap) : byVal (callW gp) H fid.zf0j [.is xs.length false (xs.flatMap ptc), .is 0 true []] = some (.tup [.agg v, .int .i64 e]) :=
  byVal_via (mapM2 frz_isP (frz_isS (xs := []))) (by simp only [List.all_cons, List.all_nil, Bool.and_true, nr_isP]; rfl) (imm_L2p imm_isP (imm_isS (gs := []))) (h.k H)
theorem bldz9 : opBld [.bool false, .str ⟨#[]⟩, .str ⟨#[]⟩] [] = some (.agg z3) := bldz
theorem order_le {h : Heap} {a b : Rat} (ha : Rz a 1500) (hb : Rz b 1500) : byVal (callW gp) h fid.zf0e [ra a, ra b] = some (.int .i64 (cmpQ a b)) := k_3order (ha.mono (by omega)) (hb.mono (by omega))
theorem gtr_le {a b : Rat} (h : a ≤ b) : opBin .gtr (.int .i64 (cmpQ a b)) (.int .i64 0) = some (.bool false) := gtrF (cmpQ_le.2 h)
set_option maxHeartbeats 8000000 in
theorem planFewer_cv (xs : List PT) (gs : List Sg) (hx : ∀ t ∈ xs, t.ok) : cv gp fid.zf06 [.is xs.length false (xs.flatMap ptc), .is gs.length false (gs.flatMap sgc)] = some (.bool true) := by
  have kl := fun h => c_live9 (h := h)
  have hsm : ∀ h, byVal (callW gp) h fid.zf09 [.is xs.length false (xs.flatMap ptc), .int .i64 12] = some (.bool (decide (smlP xs 12))) := fun h => c_small9 (xs := xs) (H := h) (x := .is xs.length false (xs.flatMap ptc)) (m := 12) (by decide) frz_isP
  rw [zf06.eq]
  unfold zf06.f
  by_cases hs : smlP xs 12
  rotate_left
  · rw [decide_eq_false hs] at hsm
    simp only [bind_s, hsm, notF, guard_ft, kl]
    rfl
  rw [decide_eq_true hs] at hsm
  by_cases hg : gs.length ≤ 12
  rotate_left
  · have c1 := gtrT (a := (gs.length : Int)) (b := 12) (by omega)
    simp only [bind_s, hsm, notT, guard_ff, len_is, c1, guard_ft, kl]
    rfl
  have c1 := gtrF (a := (gs.length : Int)) (b := 12) (by omega)
  by_cases hg0 : gs.length = 0
  · have c2 : opBin .eql (.int .i64 (gs.length : Int)) (.int .i64 0) = some (.bool true) := by rw [eql0, decide_eq_true (by omega)]
    simp only [bind_s, hsm, notT, guard_ff, len_is, c1, c2, cond_t, kl]
    rfl
  have c2 : opBin .eql (.int .i64 (gs.length : Int)) (.int .i64 0) = some (.bool false) := by rw [eql0, decide_eq_false (by omega)]
  obtain ⟨n1, hf⟩ := hs
  have ht := slc_tl (xs := gs) (by omega)
  have htl : gs.tail.length ≤ 60 := by rw [List.length_tail]; omega
  have s1 : ∀ v, CellsOK v 3 → opStore [some [.bool false, .str ⟨#[]⟩, .str ⟨#[]⟩]] 3 (.rp 0 0) (.agg v) = some [some v] := fun v hv => st_app3 (h := []) (z := z3) (v := v) (n := 3) rfl hv
  have s2 : ∀ (H : Heap) v, CellsOK v 3 → opStore (H ++ [some [.bool false, .str ⟨#[]⟩, .str ⟨#[]⟩]]) 3 (.rp H.length 0) (.agg v) = some (H ++ [some v]) := fun H v hv => st_app3 (h := H) (z := z3) (v := v) (n := 3) rfl hv
  by_cases h : firstE (xs.map askc) ≠ 0 ∨ xs.length < 2 ∨ ¬ EVs xs.length gs
  · obtain ⟨e, he, k1⟩ := lo_err hx (by omega) (by omega) h
    obtain ⟨v2, e2, k2⟩ := lo_any (gs := gs.tail) hx hf (by omega) htl
    obtain ⟨v3, e3, k3⟩ := lo_any (gs := []) hx hf (by omega) (by simp)
    have p1 := s1 _ k1.c
    have p2 := s2 [some z3] _ k2.c
    have p3 := s2 ([some z3] ++ [some v2]) _ k3.c
    have nq := neqT9 he
    have ld : opLoad ([some z3] ++ [some v2] ++ [some v3]) (some 3) (.rp 0 0) = some (.agg z3) := Eq.trans rfl rfl
    simp only [bind_s, hsm, notT, guard_ff, len_is, c1, c2, cond_f, k1.k, ext0, ext1, p1, ht, k2.k, p2, k3.nil, p3, nq, cond_t, ld, bldz9, eqa_z3, guard_tt, kl]
    rfl
  · have hE : firstE (xs.map askc) = 0 := Classical.byContradiction fun g => h (.inl g)
    have h2 : ¬ xs.length < 2 := fun g => h (.inr (.inl g))
    have hb : EVs xs.length gs := Classical.byContradiction fun g => h (.inr (.inr g))
    clear h
    obtain ⟨ps, rfl, hps⟩ := to_ps xs hx hf (firstE_mem hE)
    obtain ⟨ss, rfl, hss⟩ := to_ss gs hb
    rw [List.length_map] at hss h2 n1 hg hg0
    have hz := pz_of hps
    have hv := sv_of hss
    have hvt : SV ps.length ss.tail := fun i hi => by
      rw [sat_tail]
      exact hv _ (by rw [List.length_tail] at hi; omega)
    have hvn : SV ps.length [] := fun i hi => absurd hi (Nat.not_lt_zero i)
    have k1 := lo_ok hz hv (by omega) (by omega) (by omega)
    have k2 := lo_ok hz hvt (by omega) (by omega) (by rw [List.length_tail]; omega)
    have k3 := lo_ok hz hvn (by omega) (by omega) (by simp)
    rw [← List.map_tail] at ht
    have z1 := least_z hz hv (by omega)
    have z2 := least_z hz hvt (by omega)
    have z3' := least_z hz hvn (by omega)
    have g1 := gtr_le (least_tail (ps := ps) (ss := ss) (by omega))
    have g2 := gtr_le (least_nil (ps := ps) (ss := ss.tail) (by omega))
    have o1 := fun h => order_le (h := h) z1 z2
    have o2 := fun h => order_le (h := h) z2 z3'
    have gl := fw_l0 (f := false) (cid := 2) (c := leastQ ps []) hz (by omega) (z3'.mono (by omega)) (nil_min (by omega)) ps.length 0 ([some (rcl (leastQ ps ss))] ++ [some (rcl (leastQ ps ss.tail))] ++ [some (rcl (leastQ ps []))]) false (by omega) rfl (by rw [Bool.false_or]; exact nil_find (by omega))
    generalize leastQ ps ss = A at *
    generalize leastQ ps ss.tail = B at *
    generalize leastQ ps [] = C at *
    have p1 := s1 _ k1.c
    have p2 := s2 [some (rcl A)] _ k2.c
    have p3 := s2 ([some (rcl A)] ++ [some (rcl B)]) _ k3.c
    have l1 : opLoad ([some (rcl A)] ++ [some (rcl B)] ++ [some (rcl C)]) (some 3) (.rp 0 0) = some (ra A) := Eq.trans rfl rfl
    have l2 : opLoad ([some (rcl A)] ++ [some (rcl B)] ++ [some (rcl C)]) (some 3) (.rp (List.length [some (rcl A)]) 0) = some (ra B) := Eq.trans rfl rfl
    have l3 : opLoad ([some (rcl A)] ++ [some (rcl B)] ++ [some (rcl C)]) (some 3) (.rp (List.length ([some (rcl A)] ++ [some (rcl B)])) 0) = some (ra C) := Eq.trans rfl rfl
    have k1' := k1.k
    have k2' := k2.k
    have k3' := fun H => k3.nil H
    simp only [bind_s, hsm, notT, guard_ff, len_is, c1, c2, cond_f, k1', ext0, ext1, p1, ht, k2', p2, k3', p3, neqF9, l1, l2, l3, o1, o2, g1, g2]
    unfold pcs at gl
    rw [← List.length_map (f := pc)] at gl
    exact gl
end Go.Proofs.YtiblnpnfaadmcaaGreat.Am
