import Derived.Test.YtojfiboeghonoaaGreatAmLaws12c
import Derived.Test.YtojfiboeghonoaaGreatAmRatsIn
/- Section 12: linear functions. -/
set_option linter.unusedVariables false
set_option maxRecDepth 10000
set_option linter.unusedSimpArgs false
namespace Go.Proofs.YtojfiboeghonoaaGreat.Am
open Go

theorem rcs_len : ∀ l : List Rat, (rcs l).length = l.length * 3
  | [] => rfl
  | r :: l => by
    have e : rcs (r :: l) = rcl r ++ rcs l := rfl
    rw [e, List.length_append, rcs_len l]
    show 3 + l.length * 3 = (l.length + 1) * 3
    omega
theorem rcs_app (l : List Rat) (r : Rat) : rcs (l ++ [r]) = rcs l ++ rcl r := by unfold rcs; rw [List.map_append, List.flatMap_append]; rfl
def RowR (H : Heap) (y : AV) (l : List Rat) : Prop := (y = .is 0 true [] ∧ l = []) ∨ ∃ id, y = .rs 3 id 0 l.length ∧ live H id = some (rcs l) ∧ l ≠ []
def FarR (y : AV) (id : Nat) : Prop := ∀ n, y ≠ .rs 3 id 0 n
theorem bslr {r : Rat} : opBslc 3 1 [.bool false, .str ⟨#[]⟩, .str ⟨#[]⟩] [(0, ra r)] = some (.is 1 true (rcl r)) := Eq.trans rfl rfl
theorem RowR.app {H : Heap} {y : AV} {l : List Rat} {r : Rat} (hr : RowR H y l) (hn : l.length ≤ 1000000) : ∃ y' H', opApp H 3 y (.is 1 true (rcl r)) = some (y', H') ∧ RowR H' y' (l ++ [r]) ∧ H.length ≤ H'.length ∧ ∀ id, id < H.length → FarR y id → live H' id = live H id ∧ FarR y' id := by
  rcases hr with ⟨rfl, rfl⟩ | ⟨id, rfl, hl, hne⟩
  · refine ⟨_, _, app_s0 (m := 1) (by simp) (by omega) (by omega) rfl, .inr ⟨H.length, rfl, live_app_self, by simp⟩, by simp, fun j hj hf => ⟨live_app_ne hj, fun n e => ?_⟩⟩
    cases e; exact absurd hj (by omega)
  · have hid := live_lt hl
    have ap := app_sr (h := H) (sz := 3) (id := id) (n := l.length) (m := 1) (f := true) (cs := rcl r) hl (rcs_len l) (by simp) (by omega) (by omega) rfl
    refine ⟨_, _, ap, .inr ⟨H.length, by simp, ?_, by simp⟩, by simp, fun j hj hf => ⟨?_, fun n e => ?_⟩⟩
    · rw [rcs_app]
      have : (H.set id none).length = H.length := by simp
      rw [← this]; exact live_app_self
    · have hji : j ≠ id := fun e => hf _ (by rw [e])
      rw [live_app_ne (by simpa using hj)]
      unfold live
      rw [List.getElem?_set_ne (Ne.symm hji)]
    · cases e; omega
theorem RowR.frz {H : Heap} {y : AV} {l : List Rat} (hr : RowR H y l) : freeze H y = some (.is l.length false (rcs l)) := by
  rcases hr with ⟨rfl, rfl⟩ | ⟨id, rfl, hl, hne⟩
  · rfl
  · have e : freeze H (.rs 3 id 0 l.length) = (live H id).bind fun cs => if 0 + l.length * 3 ≤ cs.length then (((cs.drop 0).take (l.length * 3)).mapM (freezeN 11 H)).map (.is l.length false) else none := rfl
    rw [e, hl, Option.bind_some, if_pos (by rw [rcs_len]; omega), List.drop_zero, List.take_of_length_le (by rw [rcs_len]; omega), imm_mapM (imm_rcs1 l) (by omega)]
    rfl
theorem RowR.keep {H H' : Heap} {y : AV} {l : List Rat} (hr : RowR H y l) (h : ∀ id, (∃ n, y = .rs 3 id 0 n) → id < H.length → live H' id = live H id) : RowR H' y l := by
  rcases hr with ⟨rfl, rfl⟩ | ⟨id, rfl, hl, hne⟩
  · exact .inl ⟨rfl, rfl⟩
  · exact .inr ⟨id, rfl, by rw [h id ⟨_, rfl⟩ (live_lt hl)]; exact hl, hne⟩
theorem RowR.up {H : Heap} {y : AV} {l : List Rat} (hr : RowR H y l) (x : Option (List AV)) : RowR (H ++ [x]) y l := by
  rcases hr with ⟨rfl, rfl⟩ | ⟨id, rfl, hl, hne⟩
  · exact .inl ⟨rfl, rfl⟩
  · exact .inr ⟨id, rfl, live_app_old hl, hne⟩
theorem rowR_nil {H : Heap} : RowR H (.is 0 true []) [] := .inl ⟨rfl, rfl⟩
theorem farR_nil {id : Nat} : FarR (.is 0 true []) id := fun n e => by cases e
theorem RowR.far {H : Heap} {y : AV} {l : List Rat} (hr : RowR H y l) (id : Nat) : FarR y id ∨ (∃ n, y = .rs 3 id 0 n) ∧ id < H.length := by
  rcases hr with ⟨rfl, rfl⟩ | ⟨j, rfl, hl, hne⟩
  · exact .inl farR_nil
  · by_cases h : j = id
    · subst h; exact .inr ⟨⟨_, rfl⟩, live_lt hl⟩
    · exact .inl fun n e => by cases e; exact h rfl
def Dis (y z : AV) : Prop := ∀ id, FarR y id ∨ FarR z id
theorem byVal_own {h : Heap} {f : Nat} {args xs : List AV} {v : AV} (ha : args.mapM (freeze h) = some xs) (hx : ∀ x ∈ xs, Imm 12 x) (hb : byVal (callW gp) h f xs = some v) (hf : flatV v = true) : byVal (callW gp) h f args = some v := by
  rw [byVal_cv] at hb
  have h1 : xs.mapM (freeze h) = some xs := imm_mapM hx (Nat.le_refl _) h
  have h2 : xs.all noRef = true := imm_all hx (Nat.le_refl _)
  rw [h1] at hb
  simp only [Option.bind_some, h2, Bool.true_or, if_true] at hb
  refine byVal_flat ha ?_ hf
  cases hc : cv gp f xs with
  | none => rw [hc] at hb; cases hb
  | some w => rw [hc] at hb; exact hb
theorem lin_id {ax ay bx b_ cx cy x y f0 f1 f2 : Rat} (hW : area ax ay bx b_ cx cy ≠ 0) : 0 + area x y bx b_ cx cy / area ax ay bx b_ cx cy * (f0 + (f1 * ax + f2 * ay)) + area x y cx cy ax ay / area ax ay bx b_ cx cy * (f0 + (f1 * bx + f2 * b_)) + area x y ax ay bx b_ / area ax ay bx b_ cx cy * (f0 + (f1 * cx + f2 * cy)) = f0 + (f1 * x + f2 * y) := by
  have e : area x y bx b_ cx cy * (f0 + (f1 * ax + f2 * ay)) + area x y cx cy ax ay * (f0 + (f1 * bx + f2 * b_)) + area x y ax ay bx b_ * (f0 + (f1 * cx + f2 * cy)) = area ax ay bx b_ cx cy * (f0 + (f1 * x + f2 * y)) := by unfold area; grind
  have hI : area ax ay bx b_ cx cy * (area ax ay bx b_ cx cy)⁻¹ = 1 := Rat.mul_inv_cancel _ hW
  simp only [Rat.div_def]
  generalize area x y bx b_ cx cy = P at *
  generalize area x y cx cy ax ay = Q at *
  generalize area x y ax ay bx b_ = R at *
  generalize area ax ay bx b_ cx cy = W at *
  generalize W⁻¹ = I at *
  generalize f0 + (f1 * x + f2 * y) = L at *
  generalize f0 + (f1 * ax + f2 * ay) = A at *
  generalize f0 + (f1 * bx + f2 * b_) = B at *
  generalize f0 + (f1 * cx + f2 * cy) = C at *
  have : 0 + P * I * A + Q * I * B + R * I * C = (P * A + Q * B + R * C) * I := by grind
  rw [this, e]
  have : W * L * I = W * I * L := by grind
  rw [this, hI, Rat.one_mul]
def lin (f0 f1 f2 : Rat) (p : Rat × Rat) : Rat := f0 + (f1 * p.1 + f2 * p.2)
theorem uat_lin {q : Mq} {f0 f1 f2 : Rat} {a : Int} (h : InR q.ps.length a) : uat (q.ps.map (lin f0 f1 f2)) a = f0 + (f1 * ipx q.ps a + f2 * ipy q.ps a) := by
  obtain ⟨h0, h1⟩ := h
  have hi : a.toNat < q.ps.length := by omega
  unfold uat ipx ipy px py
  simp only [List.getD, List.getElem?_map, List.getElem?_eq_getElem hi]
  rfl
theorem valQ_lin {q : Mq} {i : Nat} {x y f0 f1 f2 : Rat} (hq : q.ok) (hi : i < q.ts.length) : valQ q (q.ps.map (lin f0 f1 f2)) i x y = f0 + (f1 * x + f2 * y) := by
  have e0 : co (tat q.ts i) 0 = (tat q.ts i).1 := rfl
  have e1 : co (tat q.ts i) 1 = (tat q.ts i).2.1 := rfl
  have e2 : co (tat q.ts i) 2 = (tat q.ts i).2.2 := rfl
  obtain ⟨⟨ha, hb, hc⟩, hA⟩ := hq.tr i hi
  have wn := area_ne hq hi
  unfold valQ shQ
  simp only [show (0 + 1) % 3 = 1 from rfl, show (0 + 2) % 3 = 2 from rfl, show (1 + 1) % 3 = 2 from rfl, show (1 + 2) % 3 = 0 from rfl, show (2 + 1) % 3 = 0 from rfl, show (2 + 2) % 3 = 1 from rfl, e0, e1, e2, uat_lin ha, uat_lin hb, uat_lin hc]
  exact lin_id wn
theorem ones_lin : ∀ {ps : List (Rat × Rat)}, ps.map (lin 1 0 0) = List.replicate ps.length 1
  | [] => rfl
  | p :: ps => by
    rw [List.map_cons, ones_lin, List.length_cons, List.replicate_succ]
    congr 1
    show 1 + (0 * p.1 + 0 * p.2) = 1
    grind
theorem Rz_one1 : Rz (1 : Rat) 1 := ⟨by show (nb 1).length ≤ 1; rw [nb_one]; simp, by show (nb 1).length ≤ 1; rw [nb_one]; simp⟩
theorem Rz_zero1 : Rz (0 : Rat) 1 := ⟨by show (nb 0).length ≤ 1; rw [nb_zero]; simp, by show (nb 1).length ≤ 1; rw [nb_one]; simp⟩
theorem lin_z {f0 f1 f2 x y : Rat} (h0 : Rz f0 40) (h1 : Rz f1 40) (h2 : Rz f2 40) (hx : Rz x 40) (hy : Rz y 40) : Rz (f0 + (f1 * x + f2 * y)) 300 := (h0.add ((h1.mul hx).add (h2.mul hy))).mono (by omega)
theorem lin_us {ps : List (Rat × Rat)} {f0 f1 f2 : Rat} (h : PsZ ps 40) (h0 : Rz f0 40) (h1 : Rz f1 40) (h2 : Rz f2 40) : UsZ (ps.map (lin f0 f1 f2)) 300 := fun r hr => by
  obtain ⟨p, hp, rfl⟩ := List.mem_map.1 hr
  exact lin_z h0 h1 h2 (h p hp).1 (h p hp).2
section
variable {h : Heap} {f0 f1 f2 x y : Rat}
abbrev uf (f0 f1 f2 : Rat) : List AV := u3c (rt f0, rt f1, rt f2)
theorem uf_0 : readCells (uf f0 f1 f2) (some 3) = some (ra f0) := Eq.trans rfl rfl
theorem uf_1 : readCells (List.drop 3 (uf f0 f1 f2)) (some 3) = some (ra f1) := Eq.trans rfl rfl
theorem uf_2 : readCells (List.drop 6 (uf f0 f1 f2)) (some 3) = some (ra f2) := Eq.trans rfl rfl
theorem uf_rc : readCells (uf f0 f1 f2) (some 9) = some (.agg (uf f0 f1 f2)) := Eq.trans rfl rfl
set_option maxHeartbeats 4000000 in
theorem k_plane (h0 : Rz f0 40) (h1 : Rz f1 40) (h2 : Rz f2 40) (hx : Rz x 40) (hy : Rz y 40) : byVal (callW gp) h fid.zf0r [.agg (uf f0 f1 f2), pa x y] = some (ra (f0 + (f1 * x + f2 * y))) := byVal_imm (imm_L2' imm_u3 imm_pa) (by
  have fa : ∀ k id off, opFaddr k (.rp id off) = some (.rp id (off + k)) := fun _ _ _ => rfl
  have a0' : ∀ id o, opAidx 3 3 (.rp id o) (.int .i64 0) = some (.rp id (o + 0)) := fun id o => aixR (i := 0) (by omega)
  have a1' : ∀ id o, opAidx 3 3 (.rp id o) (.int .i64 1) = some (.rp id (o + 3)) := fun id o => aixR (i := 1) (by omega)
  have a2' : ∀ id o, opAidx 3 3 (.rp id o) (.int .i64 2) = some (.rp id (o + 6)) := fun id o => aixR (i := 2) (by omega)
  have k1 := fun h => k_3mul (h := h) (h1.mono (by omega)) (hx.mono (by omega))
  have k2 := fun h => k_3mul (h := h) (h2.mono (by omega)) (hy.mono (by omega))
  have k3 := fun h => k_3sum (h := h) ((h1.mul hx).mono (by omega)) ((h2.mul hy).mono (by omega))
  have k4 := fun h => k_3sum (h := h) (h0.mono (by omega)) (((h1.mul hx).add (h2.mul hy)).mono (by omega))
  rw [zf0r.eq]
  unfold zf0r.f
  simp (disch := first | exact dD | fail) only [Wd, W2d, W3d, Nat.reduceAdd, Nat.reduceMul, Nat.reduceSub, fa, a0', a1', a2', uf_0, uf_1, uf_2, k1, k2, k3, k4])
end
end Go.Proofs.YtojfiboeghonoaaGreat.Am

/- Section 12: linear functions are told as they are. -/
set_option linter.unusedVariables false
set_option maxRecDepth 10000
set_option linter.unusedSimpArgs false
namespace Go.Proofs.YtojfiboeghonoaaGreat.Am
open Go

section
variable {q : Mq} {f0 f1 f2 : Rat} {p : PT}
set_option maxHeartbeats 8000000 in
theorem lin_end (hq : q.ok) {H : Heap} {y7 y8 : AV} {us vs : List Rat} {v w : List AV} {b c : Bool} {e : Int} (h0 : live H 0 = some (msc q.ms)) (h1 : live H 1 = some (uf f0 f1 f2)) (h2 : live H 2 = some (ptc p)) (r7 : RowR H y7 us) (r8 : RowR H y8 vs)
    (kv : ∀ h, byVal (callW gp) h fid.zf0m [.agg (msc q.ms), .is us.length false (rcs us), .agg (ptc p)] = some (.tup [.agg v, .bool b, .int .i64 e])) (kw : ∀ h, byVal (callW gp) h fid.zf0m [.agg (msc q.ms), .is vs.length false (rcs vs), .agg (ptc p)] = some (.tup [.agg w, .bool c, .int .i64 e]))
    (fv : flatV (.tup [.agg v, .bool b, .int .i64 e]) = true) (fw : flatV (.tup [.agg w, .bool c, .int .i64 e]) = true) (cv' : CellsOK v 3) (cw' : CellsOK w 3)
    (hj : ∀ (H2 : Heap) (i j : Nat), live H2 1 = some (uf f0 f1 f2) → live H2 2 = some (ptc p) → live H2 i = some v → live H2 j = some w → zf08.j0 (.rp 1 0) (.rp 2 0) (.rp i 0) (.bool b) (.int .i64 e) (.rp j 0) (.bool c) (.int .i64 e) (.bool (decide (e ≠ 0))) H2 = some (.bool true)) {n : Nat} (hn : n = q.ps.length) :
    zf08.l0 (.rp 0 0) (.rp 1 0) (.rp 2 0) y7 y8 (.int .i64 (n : Int)) H = some (.bool true) := by
  have fa : ∀ k id off, opFaddr k (.rp id off) = some (.rp id (off + k)) := fun _ _ _ => rfl
  have r6 : readCells (ptc p) (some 6) = some (.agg (ptc p)) := Eq.trans rfl rfl
  have lk : opBin .lss (.int .i64 (n : Int)) (.int .i64 (q.ps.length : Int)) = some (.bool false) := lssF (by omega)
  have st1 := st_app3 (h := H) (z := [.bool false, .str ⟨#[]⟩, .str ⟨#[]⟩]) (v := v) (n := 3) rfl cv'
  have st2 := st_app3 (h := H ++ [some v]) (z := [.bool false, .str ⟨#[]⟩, .str ⟨#[]⟩]) (v := w) (n := 3) rfl cw'
  have kv1 : byVal (callW gp) H fid.zf0m [.agg (msc q.ms), y7, .agg (ptc p)] = _ := byVal_own (mapM3 (imm_ms.frz (by omega) _) r7.frz (imm_pt.frz (by omega) _)) (imm_L3' imm_ms imm_rcs imm_pt) (kv H) fv
  have kw1 : byVal (callW gp) (H ++ [some v]) fid.zf0m [.agg (msc q.ms), y8, .agg (ptc p)] = _ := byVal_own (mapM3 (imm_ms.frz (by omega) _) (r8.up _).frz (imm_pt.frz (by omega) _)) (imm_L3' imm_ms imm_rcs imm_pt) (kw _) fw
  have g0 := fun x => live_app_old (x := x) h0
  have g2 := fun x => live_app_old (x := x) h2
  have hj := hj (H ++ [some v] ++ [some w]) H.length (H ++ [some v]).length (live_app_old (live_app_old h1)) (live_app_old (live_app_old h2)) (live_app_old live_app_self) live_app_self
  have nq : opBin .neq (.int .i64 e) (.int .i64 0) = some (.bool (decide (e ≠ 0))) := bin_neq
  rw [zf08.l0_eq]
  generalize hd : decide (e ≠ 0) = d at *
  cases d
  · simp (disch := first | exact dD | fail) only [Wd, W2d, W3d, Nat.reduceAdd, Nat.reduceMul, Nat.reduceSub, fa, h0, h2, mq_0, lk, ms_rc, r6, kv1, kw1, st1, st2, g0, g2, nq]
    simp only [List.append_assoc, List.cons_append, List.nil_append, List.length_append, List.length_cons, List.length_nil, Nat.zero_add] at hj ⊢
    exact hj
  · simp (disch := first | exact dD | fail) only [Wd, W2d, W3d, Nat.reduceAdd, Nat.reduceMul, Nat.reduceSub, fa, h0, h2, mq_0, lk, ms_rc, r6, kv1, kw1, st1, st2, g0, g2, nq]
    simp only [List.append_assoc, List.cons_append, List.nil_append, List.length_append, List.length_cons, List.length_nil, Nat.zero_add] at hj ⊢
    exact hj
set_option maxHeartbeats 8000000 in
theorem lin_l0 (hq : q.ok) (z0 : Rz f0 40) (z1 : Rz f1 40) (z2 : Rz f2 40) (hE : ∀ (H : Heap) (y7 y8 : AV), live H 0 = some (msc q.ms) → live H 1 = some (uf f0 f1 f2) → live H 2 = some (ptc p) → RowR H y7 (q.ps.map (lin f0 f1 f2)) → RowR H y8 (List.replicate q.ps.length 1) → zf08.l0 (.rp 0 0) (.rp 1 0) (.rp 2 0) y7 y8 (.int .i64 (q.ps.length : Int)) H = some (.bool true)) :
    ∀ (m i : Nat) (H : Heap) (y7 y8 : AV), i + m = q.ps.length → live H 0 = some (msc q.ms) → live H 1 = some (uf f0 f1 f2) → live H 2 = some (ptc p) → RowR H y7 ((q.ps.take i).map (lin f0 f1 f2)) → RowR H y8 (List.replicate i 1) → Dis y7 y8 → (∀ k, k < 3 → FarR y7 k ∧ FarR y8 k) → zf08.l0 (.rp 0 0) (.rp 1 0) (.rp 2 0) y7 y8 (.int .i64 (i : Int)) H = some (.bool true) := by
  have fa : ∀ k id off, opFaddr k (.rp id off) = some (.rp id (off + k)) := fun _ _ _ => rfl
  have n1 := hq.n1
  intro m
  induction m with
  | zero =>
    intro i H y7 y8 him h0 h1 h2 r7 r8 hd hf
    obtain rfl : i = q.ps.length := by omega
    rw [List.take_length] at r7
    exact hE H y7 y8 h0 h1 h2 r7 r8
  | succ m ih =>
    intro i H y7 y8 him h0 h1 h2 r7 r8 hd hf
    have hi : i < q.ps.length := by omega
    have hzp := hq.zp
    have zi := hzp.x hi
    have lk : opBin .lss (.int .i64 (i : Int)) (.int .i64 (q.ps.length : Int)) = some (.bool true) := lssT (by omega)
    have ea := pcs_at (ps := q.ps) (i := i) hi
    have sa := sidxN (sz := 6) (f := false) (cs := pcs q.ps) hi
    have kp := fun h => k_plane (h := h) z0 z1 z2 zi.1 zi.2
    obtain ⟨y7', H1, a1, r7', l1, o1⟩ := r7.app (r := f0 + (f1 * px q.ps i + f2 * py q.ps i)) (by simp; omega)
    have r8a : RowR H1 y8 (List.replicate i 1) := r8.keep fun id hid hl => (o1 id hl (by
      rcases hd id with h | h
      · exact h
      · obtain ⟨n, e⟩ := hid; exact absurd e (h n))).1
    obtain ⟨y8', H2, a2, r8', l2, o2⟩ := r8a.app (r := 1) (by simp; omega)
    have hl3 : ∀ k, k < 3 → k < H.length := fun k hk => by
      have := live_lt h2
      omega
    have p1 : ∀ k, k < 3 → live H2 k = live H k ∧ FarR y7' k ∧ FarR y8' k := fun k hk => by
      have q1 := o1 k (hl3 k hk) (hf k hk).1
      have q2 := o2 k (by have := hl3 k hk; omega) (hf k hk).2
      exact ⟨by rw [q2.1, q1.1], q1.2, q2.2⟩
    have hd1 : Dis y7' y8 := fun id => by
      rcases r8.far id with h | ⟨⟨n, e⟩, hl⟩
      · exact .inr h
      · refine .inl (o1 id hl ?_).2
        rcases hd id with h | h
        · exact h
        · exact absurd e (h n)
    have hd2 : Dis y7' y8' := fun id => by
      rcases r7'.far id with h | ⟨⟨n, e⟩, hl⟩
      · exact .inl h
      · refine .inr (o2 id hl ?_).2
        rcases hd1 id with h | h
        · exact absurd e (h n)
        · exact h
    have r7b : RowR H2 y7' ((q.ps.take i).map (lin f0 f1 f2) ++ [f0 + (f1 * px q.ps i + f2 * py q.ps i)]) := r7'.keep fun id hid hl => (o2 id hl (by
      rcases hd1 id with h | h
      · obtain ⟨n, e⟩ := hid; exact absurd e (h n)
      · exact h)).1
    have ep : (q.ps.take i).map (lin f0 f1 f2) ++ [f0 + (f1 * px q.ps i + f2 * py q.ps i)] = (q.ps.take (i + 1)).map (lin f0 f1 f2) := by
      have e : q.ps.getD i (0, 0) = q.ps[i] := by simp [List.getD, List.getElem?_eq_getElem hi]
      rw [List.take_succ_eq_append_getElem hi, List.map_append]
      unfold px py
      rw [e]
      rfl
    rw [ep] at r7b
    rw [← List.replicate_succ'] at r8'
    have g := ih (i + 1) H2 y7' y8' (by omega) (by rw [(p1 0 (by omega)).1]; exact h0) (by rw [(p1 1 (by omega)).1]; exact h1) (by rw [(p1 2 (by omega)).1]; exact h2) r7b r8' hd2 fun k hk => (p1 k hk).2
    have k1 := fun h => k_3of (h := h) (z := 1) (by decide) (by decide)
    have k1 : ∀ h, byVal (callW gp) h fid.gussetref03_Of [.int .i64 1] = some (ra (1 : Rat)) := k1
    rw [zf08.l0_eq]
    have b1 := bslr (r := f0 + (f1 * px q.ps i + f2 * py q.ps i))
    have b2 := bslr (r := 1)
    unfold px py at *
    generalize (q.ps.getD i (0, 0)).1 = x at *
    generalize (q.ps.getD i (0, 0)).2 = y at *
    generalize f0 + (f1 * x + f2 * y) = L at *
    simp (disch := first | exact dD | fail) only [Wd, W2d, W3d, Nat.reduceAdd, Nat.reduceMul, Nat.reduceSub, fa, h0, h1, h2, mq_0, lk, uf_rc, sa, ea, kp, b1, a1, k1, b2, a2]
    exact g
theorem lin_j0E {H : Heap} {y4 y5 y10 y11 y13 y14 : AV} {e : Int} (he : e ≠ 0) : zf08.j0 y4 y5 y10 y11 (.int .i64 e) y13 y14 (.int .i64 e) (.bool (decide (e ≠ 0))) H = some (.bool true) := by
  have kl := fun h => c_live12 (h := h)
  rw [decide_eq_true he]
  unfold zf08.j0
  simp (disch := first | exact dD | fail) only [Wd, W2d, W3d, Nat.reduceAdd, Nat.reduceMul, Nat.reduceSub, eqlTF, decide_true, kl]
theorem lin_j0N {H : Heap} {y4 y5 : AV} {i j : Nat} (hi : live H i = some (rcl 0)) (hj : live H j = some (rcl 0)) : zf08.j0 y4 y5 (.rp i 0) (.bool false) (.int .i64 0) (.rp j 0) (.bool false) (.int .i64 0) (.bool (decide ((0 : Int) ≠ 0))) H = some (.bool true) := by
  have kl := fun h => c_live12 (h := h)
  have k0 := fun h => k_3of (h := h) (z := 0) (by decide) (by decide)
  have k0 : ∀ h, byVal (callW gp) h fid.gussetref03_Of [.int .i64 0] = some (ra (0 : Rat)) := k0
  have d0 : decide ((0 : Int) ≠ 0) = false := rfl
  rw [d0]
  unfold zf08.j0
  simp (disch := first | exact dD | fail) only [Wd, W2d, W3d, Nat.reduceAdd, Nat.reduceMul, Nat.reduceSub, notT, notF, hi, hj, rcl_rd, k0, eqa_rr, kl]
set_option maxHeartbeats 4000000 in
theorem lin_j0S (z0 : Rz f0 40) (z1 : Rz f1 40) (z2 : Rz f2 40) {x y : Rat} (hx : Rz x 40) (hy : Rz y 40) {H : Heap} {i j : Nat} (h1 : live H 1 = some (uf f0 f1 f2)) (h2 : live H 2 = some (ptc (pc (x, y)))) (hi : live H i = some (rcl (f0 + (f1 * x + f2 * y)))) (hj : live H j = some (rcl 1)) : zf08.j0 (.rp 1 0) (.rp 2 0) (.rp i 0) (.bool true) (.int .i64 0) (.rp j 0) (.bool true) (.int .i64 0) (.bool (decide ((0 : Int) ≠ 0))) H = some (.bool true) := by
  have kl := fun h => c_live12 (h := h)
  have k1 := fun h => k_3of (h := h) (z := 1) (by decide) (by decide)
  have k1 : ∀ h, byVal (callW gp) h fid.gussetref03_Of [.int .i64 1] = some (ra (1 : Rat)) := k1
  have r6 : readCells (ptc (pc (x, y))) (some 6) = some (pa x y) := Eq.trans rfl rfl
  have kp := fun h => k_plane (h := h) z0 z1 z2 hx hy
  have d0 : decide ((0 : Int) ≠ 0) = false := rfl
  rw [d0]
  unfold zf08.j0
  generalize f0 + (f1 * x + f2 * y) = L at *
  simp (disch := first | exact dD | fail) only [Wd, W2d, W3d, Nat.reduceAdd, Nat.reduceMul, Nat.reduceSub, notT, notF, h1, h2, hi, hj, rcl_rd, r6, uf_rc, kp, k1, eqa_rr, kl]
end
section
theorem cells3 {r : Rat} : CellsOK (rcl r) 3 := ⟨rfl, rfl⟩
theorem lin_go {q : Mq} {f0 f1 f2 : Rat} {p : PT} (hq : q.ok) (z0 : Rz f0 40) (z1 : Rz f1 40) (z2 : Rz f2 40) (hp : p.ok) (h1 : sh1 p.1) (h2 : sh1 p.2) : zf08.l0 (.rp 0 0) (.rp 1 0) (.rp 2 0) (.is 0 true []) (.is 0 true []) (.int .i64 ((0 : Nat) : Int)) [some (msc q.ms), some (uf f0 f1 f2), some (ptc p)] = some (.bool true) := by
  have lu : (q.ps.map (lin f0 f1 f2)).length = q.ps.length := by simp
  have lo : (List.replicate q.ps.length (1 : Rat)).length = q.ps.length := by simp
  have hu1 := lin_us hq.zp z0 z1 z2
  have hu2 := lin_us hq.zp (Rz_one1.mono (m := 40) (by omega)) (Rz_zero1.mono (m := 40) (by omega)) (Rz_zero1.mono (m := 40) (by omega))
  rw [ones_lin] at hu2
  refine lin_l0 hq z0 z1 z2 (fun H y7 y8 g0 g1 g2 r7 r8 => ?_) q.ps.length 0 [some (msc q.ms), some (uf f0 f1 f2), some (ptc p)] (.is 0 true []) (.is 0 true []) (by omega) rfl rfl rfl rowR_nil rowR_nil (fun id => .inl farR_nil) (fun k _ => ⟨farR_nil, farR_nil⟩)
  by_cases ha : askc p = 0
  rotate_left
  · exact lin_end hq g0 g1 g2 r7 r8 (fun h => k_lValueP (h := h) hq hp lu hu1 ha) (fun h => k_lValueP (h := h) hq hp lo hu2 ha) rfl rfl ⟨rfl, rfl⟩ ⟨rfl, rfl⟩ (fun H2 i j _ _ _ _ => lin_j0E ha) rfl
  obtain ⟨⟨x, y⟩, rfl, hx, hy⟩ := pt_rat40 hp ⟨h1, h2⟩ ha
  have kv : ∀ h, byVal (callW gp) h fid.zf0m [.agg (msc q.ms), .is (q.ps.map (lin f0 f1 f2)).length false (rcs (q.ps.map (lin f0 f1 f2))), .agg (ptc (pc (x, y)))] = _ := fun h => k_lValue (h := h) hq hx hy lu hu1
  have kw : ∀ h, byVal (callW gp) h fid.zf0m [.agg (msc q.ms), .is (List.replicate q.ps.length (1 : Rat)).length false (rcs (List.replicate q.ps.length 1)), .agg (ptc (pc (x, y)))] = _ := fun h => k_lValue (h := h) hq hx hy lo hu2
  cases hat : atI q.ps q.ts x y q.ts.length 0 with
  | none =>
    rw [hat] at kv kw
    exact lin_end hq g0 g1 g2 r7 r8 kv kw rfl rfl cells3 cells3 (fun H2 i j _ _ hi hj => lin_j0N hi hj) rfl
  | some t =>
    rw [hat] at kv kw
    obtain ⟨_, ht, _⟩ := atI_some hat
    have ht : t < q.ts.length := by omega
    have ev := valQ_lin (x := x) (y := y) (f0 := f0) (f1 := f1) (f2 := f2) hq ht
    have ew := valQ_lin (x := x) (y := y) (f0 := 1) (f1 := 0) (f2 := 0) hq ht
    rw [ones_lin] at ew
    have eo : (1 : Rat) + (0 * x + 0 * y) = 1 := by grind
    rw [eo] at ew
    have v1 : ∀ (us : List Rat), valR q us x y (some t) = .tup [ra (valQ q us t x y), .bool true, .int .i64 0] := fun _ => rfl
    rw [v1, ev] at kv
    rw [v1, ew] at kw
    exact lin_end hq g0 g1 g2 r7 r8 kv kw rfl rfl cells3 cells3 (fun H2 i j g1 g2 hi hj => lin_j0S z0 z1 z2 hx hy g1 g2 hi hj) rfl
theorem u3c_len (f : U3) : (u3c f).length = 9 := by simp [u3c, rtc_len]
theorem u3c_fl (f : U3) : u3c f = [f.1, f.2.1, f.2.2].flatMap rtc := by simp [u3c]
theorem fz_u3 {H : Heap} {f : U3} (h : live H 1 = some (u3c f)) : freeze H (.rs 3 1 0 3) = some (.is 3 false ([f.1, f.2.1, f.2.2].flatMap rtc)) := by
  have e : freeze H (.rs 3 1 0 3) = (live H 1).bind fun cs => if 0 + 3 * 3 ≤ cs.length then (((cs.drop 0).take (3 * 3)).mapM (freezeN 11 H)).map (.is 3 false) else none := rfl
  rw [e, h, Option.bind_some, if_pos (by rw [u3c_len]; omega), List.drop_zero, List.take_of_length_le (by rw [u3c_len]; omega), u3c_fl, imm_mapM (imm_flat imm_rtc _) (by omega)]
  rfl
theorem k_num3 {H : Heap} {f : U3} (h1 : live H 1 = some (u3c f)) (o1 : f.1.ok) (o2 : f.2.1.ok) (o3 : f.2.2.ok) : byVal (callW gp) H fid.zf0n [.rs 3 1 0 3] = some (.int .i64 (firstE ([f.1, f.2.1, f.2.2].map RT.chk))) := by
  have fz := fz_u3 h1
  exact byVal_own (mapM1 fz) (imm_L1 imm_rts) (k_rNum (h := H) (xs := [f.1, f.2.1, f.2.2]) (fun t ht => by
    simp only [List.mem_cons, List.not_mem_nil, or_false] at ht
    rcases ht with rfl | rfl | rfl <;> assumption) (by simp)) rfl
set_option maxHeartbeats 16000000 in
theorem locateLinear_cv (m : Ms) (f : U3) (p : PT) (hm : ∀ p ∈ m.pts, p.ok) (hf : f.ok) (hp : p.ok) : cv gp fid.zf08 [.agg (msc m), .agg (u3c f), .agg (ptc p)] = some (.bool true) := by
  have fa : ∀ k id off, opFaddr k (.rp id off) = some (.rp id (off + k)) := fun _ _ _ => rfl
  have kl := fun h => c_live12 (h := h)
  obtain ⟨b, ks, hb⟩ := k_small12 hm
  have k1 := fun h => c_short12 (h := h) (t := p.1)
  have k2 := fun h => c_short12 (h := h) (t := p.2)
  have k3 := fun h => c_short12 (h := h) (t := f.1)
  have k4 := fun h => c_short12 (h := h) (t := f.2.1)
  have k5 := fun h => c_short12 (h := h) (t := f.2.2)
  have r1 : readCells (ptc p) (some 3) = some (.agg (rtc p.1)) := Eq.trans rfl rfl
  have r2 : readCells (List.drop 3 (ptc p)) (some 3) = some (.agg (rtc p.2)) := Eq.trans rfl rfl
  have r3 : readCells (u3c f) (some 3) = some (.agg (rtc f.1)) := Eq.trans rfl rfl
  have r4 : readCells (List.drop 3 (u3c f)) (some 3) = some (.agg (rtc f.2.1)) := Eq.trans rfl rfl
  have r5 : readCells (List.drop 6 (u3c f)) (some 3) = some (.agg (rtc f.2.2)) := Eq.trans rfl rfl
  have a0' : ∀ id o, opAidx 3 3 (.rp id o) (.int .i64 0) = some (.rp id (o + 0)) := fun id o => aixR (i := 0) (by omega)
  have a1' : ∀ id o, opAidx 3 3 (.rp id o) (.int .i64 1) = some (.rp id (o + 3)) := fun id o => aixR (i := 1) (by omega)
  have a2' : ∀ id o, opAidx 3 3 (.rp id o) (.int .i64 2) = some (.rp id (o + 6)) := fun id o => aixR (i := 2) (by omega)
  rw [zf08.eq]
  unfold zf08.f
  cases b with
  | false => simp (disch := first | exact dD | fail) only [Wd, W2d, W3d, Nat.reduceAdd, Nat.reduceMul, Nat.reduceSub, ms_rc, ks, notT, notF, kl]
  | true =>
    obtain ⟨q, hq, rfl⟩ := hb rfl
    by_cases h1 : sh1 p.1
    rotate_left
    · rw [decide_eq_false h1] at k1
      simp (disch := first | exact dD | fail) only [Wd, W2d, W3d, Nat.reduceAdd, Nat.reduceMul, Nat.reduceSub, ms_rc, ks, notT, notF, fa, r1, k1, kl]
    rw [decide_eq_true h1] at k1
    by_cases h2 : sh1 p.2
    rotate_left
    · rw [decide_eq_false h2] at k2
      simp (disch := first | exact dD | fail) only [Wd, W2d, W3d, Nat.reduceAdd, Nat.reduceMul, Nat.reduceSub, ms_rc, ks, notT, notF, fa, r1, r2, k1, k2, kl]
    rw [decide_eq_true h2] at k2
    by_cases h3 : sh1 f.1
    rotate_left
    · rw [decide_eq_false h3] at k3
      simp (disch := first | exact dD | fail) only [Wd, W2d, W3d, Nat.reduceAdd, Nat.reduceMul, Nat.reduceSub, ms_rc, ks, notT, notF, fa, r1, r2, r3, a0', k1, k2, k3, kl]
    rw [decide_eq_true h3] at k3
    by_cases h4 : sh1 f.2.1
    rotate_left
    · rw [decide_eq_false h4] at k4
      simp (disch := first | exact dD | fail) only [Wd, W2d, W3d, Nat.reduceAdd, Nat.reduceMul, Nat.reduceSub, ms_rc, ks, notT, notF, fa, r1, r2, r3, r4, a0', a1', k1, k2, k3, k4, kl]
    rw [decide_eq_true h4] at k4
    by_cases h5 : sh1 f.2.2
    rotate_left
    · rw [decide_eq_false h5] at k5
      simp (disch := first | exact dD | fail) only [Wd, W2d, W3d, Nat.reduceAdd, Nat.reduceMul, Nat.reduceSub, ms_rc, ks, notT, notF, fa, r1, r2, r3, r4, r5, a0', a1', a2', k1, k2, k3, k4, k5, kl]
    rw [decide_eq_true h5] at k5
    obtain ⟨o1, o2, o3⟩ := hf
    have ar : opArrs [some (msc q.ms), some (u3c f), some (ptc p)] 3 3 (.rp 1 0) = some (.rs 3 1 0 3) := arrs_rp5 (cs := u3c f) rfl (by rw [u3c_len]; omega)
    have kn := k_num3 (H := [some (msc q.ms), some (u3c f), some (ptc p)]) rfl o1 o2 o3
    by_cases hne : firstE ([f.1, f.2.1, f.2.2].map RT.chk) = 0
    rotate_left
    · have nq := neqT hne
      simp (disch := first | exact dD | fail) only [Wd, W2d, W3d, Nat.reduceAdd, Nat.reduceMul, Nat.reduceSub, ms_rc, ks, notT, notF, fa, r1, r2, r3, r4, r5, a0', a1', a2', k1, k2, k3, k4, k5, ar, kn, nq, kl]
    obtain ⟨us, e3, hus⟩ := rts_rat40 (l := [f.1, f.2.1, f.2.2]) (fun t ht => by
      simp only [List.mem_cons, List.not_mem_nil, or_false] at ht
      rcases ht with rfl | rfl | rfl <;> assumption) (fun t ht => by
      simp only [List.mem_cons, List.not_mem_nil, or_false] at ht
      rcases ht with rfl | rfl | rfl <;> assumption) hne
    rw [hne] at kn
    simp (disch := first | exact dD | fail) only [Wd, W2d, W3d, Nat.reduceAdd, Nat.reduceMul, Nat.reduceSub, ms_rc, ks, notT, notF, fa, r1, r2, r3, r4, r5, a0', a1', a2', k1, k2, k3, k4, k5, ar, kn, neqF, kl]
    rcases us with _ | ⟨f0, _ | ⟨f1, _ | ⟨f2, _ | ⟨f3, us⟩⟩⟩⟩
    · exact absurd (congrArg List.length e3) (by simp)
    · exact absurd (congrArg List.length e3) (by simp)
    · exact absurd (congrArg List.length e3) (by simp)
    · simp only [List.map_cons, List.map_nil, List.cons.injEq, and_true] at e3
      obtain ⟨e0, e1, e2⟩ := e3
      obtain ⟨fa0, fa1, fa2⟩ := f
      simp only [] at e0 e1 e2
      subst e0; subst e1; subst e2
      exact lin_go hq (hus f0 (by simp)) (hus f1 (by simp)) (hus f2 (by simp)) hp h1 h2
    · exact absurd (congrArg List.length e3) (by simp)
end
end Go.Proofs.YtojfiboeghonoaaGreat.Am
