import Derived.Test.YtiblnpnfaadmcaaGreatAmPlan20
/- Section 09: PlanBoxes. -/
set_option linter.unusedVariables false
set_option maxRecDepth 10000
set_option linter.unusedSimpArgs false
namespace Go.Proofs.YtiblnpnfaadmcaaGreat.Am
open Go

def LX (ps : List (Rat × Rat)) : Rat := fo loS (px ps) 0 ps.length (px ps 0)
def LY (ps : List (Rat × Rat)) : Rat := fo loS (py ps) 0 ps.length (py ps 0)
def HX (ps : List (Rat × Rat)) : Rat := fo hiS (px ps) 0 ps.length (px ps 0)
def HY (ps : List (Rat × Rat)) : Rat := fo hiS (py ps) 0 ps.length (py ps 0)
theorem fo_first {op : Rat → Rat → Rat} {g : Nat → Rat} {n : Nat} (h : op (g 0) (g 0) = g 0) (hn : 0 < n) : fo op g 1 (n - 1) (g 0) = fo op g 0 n (g 0) := by
  obtain ⟨m, rfl⟩ : ∃ m, n = m + 1 := ⟨n - 1, by omega⟩
  rw [fo_s, h]
  rfl
theorem sep2 {R : Type} {x : Option (List AV)} {c d : List AV} {A : Option R} : sepK [.rp 0 0, .rp (List.length [x]) 0] [.ip c, .ip d] A = A := (sepK_yes rfl).trans rfl
section
variable {h : Heap} {ps : List (Rat × Rat)}
set_option maxHeartbeats 8000000 in
theorem k_pbox (hz : PZ ps) (h0 : 0 < ps.length) (hn : ps.length ≤ 400) : byVal (callW gp) h fid.zf0b [.is ps.length false (pcs ps)] = some (.tup [pa (LX ps) (LY ps), pa (HX ps) (HY ps), .int .i64 0]) := byVal_imm (imm_one imm_isP) (by
  have hask : firstE ((ps.map pc).map askc) = 0 := firstE_all fun t ht => by
    obtain ⟨p, hp, rfl⟩ := List.mem_map.1 ht
    obtain ⟨i, hi, rfl⟩ := List.getElem_of_mem hp
    obtain ⟨z1, z2⟩ := hz i hi
    have e : ps.getD i (0, 0) = ps[i] := by simp [List.getD, List.getElem?_eq_getElem hi]
    unfold px at z1
    unfold py at z2
    rw [e] at z1 z2
    exact askc_rat (z1.mono (by omega)) (z2.mono (by omega))
  have ka := fun h f => k_pasked (h := h) (f := f) (xs := ps.map pc) pc_ok (by rw [List.length_map]; omega)
  rw [hask, List.length_map] at ka
  have ka : ∀ h f, byVal (callW gp) h fid.zf0x [.is ps.length f (pcs ps)] = some (.int .i64 0) := ka
  have c1 : opBin .gtr (.int .i64 (ps.length : Int)) (.int .i64 400) = some (.bool false) := gtrF (by omega)
  have c2 : opBin .eql (.int .i64 (ps.length : Int)) (.int .i64 0) = some (.bool false) := by rw [eql0, decide_eq_false (by omega)]
  have s1 : opSidx 6 (.is ps.length false (pcs ps)) (.int .i64 0) = some (.ip ((pcs ps).drop (0 * 6))) := sidxN h0
  have r1 := pcs_rd h0
  obtain ⟨z1, z2⟩ := hz 0 h0
  have lip : ∀ h cs, opLoad h (some 6) (.ip cs) = readCells cs (some 6) := fun _ _ => rfl
  have e : BX [some (pcl (px ps 0) (py ps 0)), some (pcl (px ps 0) (py ps 0))] 0 1 (px ps 0) (py ps 0) (px ps 0) (py ps 0) := ⟨rfl, rfl, by decide, z1, z2, z1, z2, fun j h1 h2 h3 => by omega⟩
  have g := pbox_l3 (f := false) hz (by omega) ps.length 0 _ _ _ _ _ (by omega) e
  rw [zf0b.eq]
  unfold zf0b.f
  have t1 : ∀ x y, opStore ([some [.bool false, .str ⟨#[]⟩, .str ⟨#[]⟩, .bool false, .str ⟨#[]⟩, .str ⟨#[]⟩]] ++ [some [.bool false, .str ⟨#[]⟩, .str ⟨#[]⟩, .bool false, .str ⟨#[]⟩, .str ⟨#[]⟩]]) 6 (.rp 0 0) (pa x y) = some [some (pcl x y), some z6] := fun _ _ => Eq.trans rfl rfl
  have t2 : ∀ x y u v, opStore [some (pcl x y), some z6] 6 (.rp (List.length [some [AV.bool false, .str ⟨#[]⟩, .str ⟨#[]⟩, .bool false, .str ⟨#[]⟩, .str ⟨#[]⟩]]) 0) (pa u v) = some [some (pcl x y), some (pcl u v)] := fun _ _ _ _ => Eq.trans rfl rfl
  simp only [bind_s, len_is, c1, cond_f, ka, neqF9, c2, s1, lip, r1, t1, t2, sep2]
  exact g)
set_option maxHeartbeats 8000000 in
theorem k_rbox (hz : PZ ps) (h0 : 0 < ps.length) (hn : ps.length ≤ 400) : byVal (callW gp) h fid.zf0d [.is ps.length false (pcs ps)] = some (.tup [pa (LX ps) (LY ps), pa (HX ps) (HY ps)]) := byVal_imm (imm_one imm_isP) (by
  have s1 : opSidx 6 (.is ps.length false (pcs ps)) (.int .i64 0) = some (.ip ((pcs ps).drop (0 * 6))) := sidxN h0
  have r1 := pcs_rd h0
  obtain ⟨z1, z2⟩ := hz 0 h0
  have lip : ∀ h cs, opLoad h (some 6) (.ip cs) = readCells cs (some 6) := fun _ _ => rfl
  have e : BX [some z6, some z6, some (pcl (px ps 0) (py ps 0)), some (pcl (px ps 0) (py ps 0))] 2 3 (px ps 0) (py ps 0) (px ps 0) (py ps 0) := ⟨rfl, rfl, by decide, z1, z2, z1, z2, fun j h1 h2 h3 => by
    match j, h1 with
    | 0, _ => rfl
    | 1, _ => rfl⟩
  have g := rbox_l0 (f := false) hz (by omega) (ps.length - 1) 1 _ _ _ _ _ (by omega) e (by decide) (by decide)
  rw [fo_first loS_self h0, fo_first loS_self h0, fo_first hiS_self h0, fo_first hiS_self h0] at g
  rw [zf0d.eq]
  unfold zf0d.f
  have t1 : ∀ x y, opStore (([some [.bool false, .str ⟨#[]⟩, .str ⟨#[]⟩, .bool false, .str ⟨#[]⟩, .str ⟨#[]⟩]] ++ [some [.bool false, .str ⟨#[]⟩, .str ⟨#[]⟩, .bool false, .str ⟨#[]⟩, .str ⟨#[]⟩]]) ++ [some [.bool false, .str ⟨#[]⟩, .str ⟨#[]⟩, .bool false, .str ⟨#[]⟩, .str ⟨#[]⟩]]) 6 (.rp (List.length ([some [AV.bool false, .str ⟨#[]⟩, .str ⟨#[]⟩, .bool false, .str ⟨#[]⟩, .str ⟨#[]⟩]] ++ [some [AV.bool false, .str ⟨#[]⟩, .str ⟨#[]⟩, .bool false, .str ⟨#[]⟩, .str ⟨#[]⟩]])) 0) (pa x y) = some [some z6, some z6, some (pcl x y)] := fun _ _ => Eq.trans rfl rfl
  have t2 : ∀ x y u v, opStore ([some z6, some z6, some (pcl x y)] ++ [some [.bool false, .str ⟨#[]⟩, .str ⟨#[]⟩, .bool false, .str ⟨#[]⟩, .str ⟨#[]⟩]]) 6 (.rp (List.length [some z6, some z6, some (pcl x y)]) 0) (pa u v) = some [some z6, some z6, some (pcl x y), some (pcl u v)] := fun _ _ _ _ => Eq.trans rfl rfl
  simp only [bind_s, s1, lip, r1, t1, t2]
  exact g)
theorem lx_z (hz : PZ ps) (h0 : 0 < ps.length) : Rz (LX ps) 40 ∧ Rz (LY ps) 40 ∧ Rz (HX ps) 40 ∧ Rz (HY ps) 40 :=
  ⟨fo_z (fun _ _ => loS_z) _ _ _ (hz 0 h0).1 fun k _ h => (hz k (by omega)).1, fo_z (fun _ _ => loS_z) _ _ _ (hz 0 h0).2 fun k _ h => (hz k (by omega)).2, fo_z (fun _ _ => hiS_z) _ _ _ (hz 0 h0).1 fun k _ h => (hz k (by omega)).1, fo_z (fun _ _ => hiS_z) _ _ _ (hz 0 h0).2 fun k _ h => (hz k (by omega)).2⟩
theorem lx_le {i : Nat} (hi : i < ps.length) : LX ps ≤ px ps i ∧ LY ps ≤ py ps i ∧ px ps i ≤ HX ps ∧ py ps i ≤ HY ps :=
  ⟨(loF_le _ _ _).2 i (by omega) (by omega), (loF_le _ _ _).2 i (by omega) (by omega), (hiF_le _ _ _).2 i (by omega) (by omega), (hiF_le _ _ _).2 i (by omega) (by omega)⟩
set_option maxHeartbeats 8000000 in
theorem bx_l0 (hz : PZ ps) (hn : ps.length ≤ 1000) {H : Heap} {a b c d : Nat} {f : Bool} (z1 : Rz (LX ps) 40) (z2 : Rz (LY ps) 40) (z3' : Rz (HX ps) 40) (z4 : Rz (HY ps) 40) (l1 : live H a = some (pcl (LX ps) (LY ps))) (l2 : live H b = some (pcl (HX ps) (HY ps))) (l3 : live H c = some (pcl (LX ps) (LY ps))) (l4 : live H d = some (pcl (HX ps) (HY ps))) : ∀ (n i : Nat), i + n = ps.length →
    zf03.l0 (.is ps.length f (pcs ps)) (.rp a 0) (.rp b 0) (.int .i64 0) (.rp c 0) (.rp d 0) (.int .i64 (i : Int)) H = some (.bool true) := by
  intro n
  induction n with
  | zero =>
    intro i hi
    have lk : opBin .lss (.int .i64 (i : Int)) (.int .i64 (ps.length : Int)) = some (.bool false) := lssF (by omega)
    have kl := fun h => c_live9 (h := h)
    have m1 := ld6 l1
    have m2 := ld6 l2
    have m3 := ld6 l3
    have m4 := ld6 l4
    have e1 : (LX ps = LX ps ∧ LY ps = LY ps) = True := by simp
    have e2 : (HX ps = HX ps ∧ HY ps = HY ps) = True := by simp
    rw [zf03.l0_eq]
    simp only [bind_s, len_is, lk, cond_f, eqlT9, guard_tt, m1, m2, m3, m4, eqa_p, and_self, decide_true, kl]
    rfl
  | succ n ih =>
    intro i hi
    have hi' : i < ps.length := by omega
    have lk : opBin .lss (.int .i64 (i : Int)) (.int .i64 (ps.length : Int)) = some (.bool true) := lssT (by omega)
    have s1 := sidxN (sz := 6) (f := f) (cs := pcs ps) hi'
    have ea := pcs_at (ps := ps) hi'
    have rx : readCells ((pcs ps).drop (i * 6)) (some 3) = some (ra (px ps i)) := by rw [ea]; exact Eq.trans rfl rfl
    have ry : readCells (((pcs ps).drop (i * 6)).drop 3) (some 3) = some (ra (py ps i)) := by rw [ea]; exact Eq.trans rfl rfl
    have fa0 : ∀ cs, opFaddr 0 (.ip cs) = some (.ip cs) := fun _ => rfl
    have fa3 : ∀ cs, opFaddr 3 (.ip cs) = some (.ip (cs.drop 3)) := fun _ => rfl
    have fr0 : ∀ d, opFaddr 0 (.rp d 0) = some (.rp d 0) := fun _ => rfl
    have fr3 : ∀ d, opFaddr 3 (.rp d 0) = some (.rp d 3) := fun _ => rfl
    have lip : ∀ h cs, opLoad h (some 3) (.ip cs) = readCells cs (some 3) := fun _ _ => rfl
    obtain ⟨w1, w2⟩ := hz i hi'
    obtain ⟨q1, q2, q3, q4⟩ := lx_le hi'
    have m1 := ld6a l1
    have m2 := ld6b l1
    have m3 := ld6a l2
    have m4 := ld6b l2
    have o1 := fun h => k_3order (h := h) (z1.mono (m := 20000) (by omega)) (w1.mono (m := 20000) (by omega))
    have o2 := fun h => k_3order (h := h) (z2.mono (m := 20000) (by omega)) (w2.mono (m := 20000) (by omega))
    have o3 := fun h => k_3order (h := h) (z3'.mono (m := 20000) (by omega)) (w1.mono (m := 20000) (by omega))
    have o4 := fun h => k_3order (h := h) (z4.mono (m := 20000) (by omega)) (w2.mono (m := 20000) (by omega))
    have p1 := gtrN (x := LX ps) (y := px ps i) (by grind)
    have p2 := gtrN (x := LY ps) (y := py ps i) (by grind)
    have p3 := lssN (x := HX ps) (y := px ps i) (by grind)
    have p4 := lssN (x := HY ps) (y := py ps i) (by grind)
    have g := ih (i + 1) (by omega)
    have ad : opBin .add (.int .i64 (i : Int)) (.int .i64 1) = some (.int .i64 ((i + 1 : Nat) : Int)) := i_add1 (by omega)
    rw [zf03.l0_eq]
    simp only [bind_s, len_is, lk, cond_t, s1, fa0, fa3, fr0, fr3, lip, rx, ry, m1, m2, m3, m4, o1, o2, o3, o4, p1, p2, p3, p4, guard_ff, cond_f, ad]
    exact g
end
theorem eqa_z69 : opEqa false [.b, .s, .s, .b, .s, .s] (.agg z6) (.agg z6) = some (.bool true) := by kernel_rfl
theorem bx_err {y0 : AV} {H : Heap} {e : Int} (he : e ≠ 0) (h0 : live H 0 = some z6) (h1 : live H 1 = some z6) : zf03.j0 y0 (.rp 0 0) (.rp 1 0) (.int .i64 e) (.int .i64 e) H = some (.bool true) := by
  have kl := fun h => c_live9 (h := h)
  have nq := neqT9 he
  have l0 : opLoad H (some 6) (.rp 0 0) = some (.agg z6) := by rw [ld_rp, h0]; exact z6_rd
  have l1 : opLoad H (some 6) (.rp 1 0) = some (.agg z6) := by rw [ld_rp, h1]; exact z6_rd
  have bl : opBld [.bool false, .str ⟨#[]⟩, .str ⟨#[]⟩, .bool false, .str ⟨#[]⟩, .str ⟨#[]⟩] [] = some (.agg z6) := Eq.trans rfl rfl
  unfold zf03.j0
  simp only [bind_s, nq, cond_t, eqlT9, guard_tt, l0, l1, bl, eqa_z69, kl]
  rfl
set_option maxHeartbeats 8000000 in
theorem planBoxes_cv (xs : List PT) (hx : ∀ t ∈ xs, t.ok) : cv gp fid.zf03 [.is xs.length false (xs.flatMap ptc)] = some (.bool true) := by
  have kl := fun h => c_live9 (h := h)
  have hsm : ∀ h, byVal (callW gp) h fid.zf09 [.is xs.length false (xs.flatMap ptc), .int .i64 50] = some (.bool (decide (smlP xs 50))) := fun h => c_small9 (xs := xs) (H := h) (x := .is xs.length false (xs.flatMap ptc)) (m := 50) (by decide) frz_isP
  rw [zf03.eq]
  unfold zf03.f
  by_cases hs : smlP xs 50
  rotate_left
  · rw [decide_eq_false hs] at hsm
    simp only [bind_s, hsm, notF, cond_t, kl]
    rfl
  rw [decide_eq_true hs] at hsm
  obtain ⟨n1, hf⟩ := hs
  have ka := fun h => k_5asked (h := h) (f := false) hx (by omega)
  have tz1 : opStore ([some [.bool false, .str ⟨#[]⟩, .str ⟨#[]⟩, .bool false, .str ⟨#[]⟩, .str ⟨#[]⟩]] ++ [some [.bool false, .str ⟨#[]⟩, .str ⟨#[]⟩, .bool false, .str ⟨#[]⟩, .str ⟨#[]⟩]]) 6 (.rp 0 0) (.agg z6) = some [some z6, some z6] := Eq.trans rfl rfl
  have tz2 : opStore [some z6, some z6] 6 (.rp (List.length [some [AV.bool false, .str ⟨#[]⟩, .str ⟨#[]⟩, .bool false, .str ⟨#[]⟩, .str ⟨#[]⟩]]) 0) (.agg z6) = some [some z6, some z6] := Eq.trans rfl rfl
  by_cases hE : firstE (xs.map askc) = 0
  rotate_left
  · have k1 := fun h => k_boxE (h := h) hx (by omega) hE
    have q : opBin .eql (.int .i64 (firstE (xs.map askc))) (.int .i64 0) = some (.bool false) := by rw [eql0, decide_eq_false hE]
    simp only [bind_s, hsm, notT, cond_f, k1, ext0, ext1, ext2, tz1, tz2, ka, q, guard_tf]
    exact bx_err hE rfl rfl
  rw [hE] at ka
  by_cases h0 : xs.length = 0
  · obtain rfl := List.length_eq_zero_iff.1 h0
    have k1 : ∀ h, byVal (callW gp) h fid.zf0b [.is ([] : List PT).length false (([] : List PT).flatMap ptc)] = _ := fun h => k_box0 (h := h)
    have q : opBin .eql (.int .i64 (([] : List PT).length : Int)) (.int .i64 0) = some (.bool true) := rfl
    simp only [bind_s, hsm, notT, cond_f, k1, ext0, ext1, ext2, tz1, tz2, ka, eqlT9, guard_tt, len_is, q, cond_t]
    exact bx_err (by decide) rfl rfl
  · obtain ⟨ps, rfl, hps⟩ := to_ps xs hx hf (firstE_mem hE)
    rw [List.length_map] at n1 h0
    have hz := pz_of hps
    have lm : (ps.map pc).length = ps.length := List.length_map ..
    have k1 := fun h => k_pbox (h := h) hz (by omega) (by omega)
    unfold pcs at k1
    have k2 := fun h => k_rbox (h := h) hz (by omega) (by omega)
    unfold pcs at k2
    obtain ⟨z1, z2, z3', z4⟩ := lx_z hz (by omega)
    have q : opBin .eql (.int .i64 (ps.length : Int)) (.int .i64 0) = some (.bool false) := by rw [eql0, decide_eq_false (by omega)]
    have g := bx_l0 (f := false) (H := [some (pcl (LX ps) (LY ps)), some (pcl (HX ps) (HY ps)), some (pcl (LX ps) (LY ps)), some (pcl (HX ps) (HY ps))]) (a := 0) (b := 1) (c := 2) (d := 3) hz (by omega) z1 z2 z3' z4 rfl rfl rfl rfl ps.length 0 (by omega)
    unfold pcs at g
    have t1 : ∀ x y, opStore ([some [.bool false, .str ⟨#[]⟩, .str ⟨#[]⟩, .bool false, .str ⟨#[]⟩, .str ⟨#[]⟩]] ++ [some [.bool false, .str ⟨#[]⟩, .str ⟨#[]⟩, .bool false, .str ⟨#[]⟩, .str ⟨#[]⟩]]) 6 (.rp 0 0) (pa x y) = some [some (pcl x y), some z6] := fun _ _ => Eq.trans rfl rfl
    have t2 : ∀ x y u v, opStore [some (pcl x y), some z6] 6 (.rp (List.length [some [AV.bool false, .str ⟨#[]⟩, .str ⟨#[]⟩, .bool false, .str ⟨#[]⟩, .str ⟨#[]⟩]]) 0) (pa u v) = some [some (pcl x y), some (pcl u v)] := fun _ _ _ _ => Eq.trans rfl rfl
    have t3 : ∀ (A B : List AV) x y, opStore (([some A, some B] ++ [some [.bool false, .str ⟨#[]⟩, .str ⟨#[]⟩, .bool false, .str ⟨#[]⟩, .str ⟨#[]⟩]]) ++ [some [.bool false, .str ⟨#[]⟩, .str ⟨#[]⟩, .bool false, .str ⟨#[]⟩, .str ⟨#[]⟩]]) 6 (.rp (List.length [some A, some B]) 0) (pa x y) = some [some A, some B, some (pcl x y), some z6] := fun _ _ _ _ => Eq.trans rfl rfl
    have t4 : ∀ (A B : List AV) x y u v, opStore [some A, some B, some (pcl x y), some z6] 6 (.rp (List.length ([some A, some B] ++ [some [AV.bool false, .str ⟨#[]⟩, .str ⟨#[]⟩, .bool false, .str ⟨#[]⟩, .str ⟨#[]⟩]])) 0) (pa u v) = some [some A, some B, some (pcl x y), some (pcl u v)] := fun _ _ _ _ _ _ => Eq.trans rfl rfl
    rw [lm] at hsm ka ⊢
    simp only [bind_s, hsm, notT, cond_f, k1, ext0, ext1, ext2, t1, t2, ka, eqlT9, guard_tt, len_is, q]
    unfold zf03.j0
    simp only [bind_s, neqF9, cond_f, k2, ext0, ext1, t3, t4]
    exact g
end Go.Proofs.YtiblnpnfaadmcaaGreat.Am
