import Derived.Test.YtiblnpnfaadmcaaGreatAmPlan10
/- Section 09: PlanEnds, PlanApart. -/
set_option linter.unusedVariables false
set_option maxRecDepth 10000
set_option linter.unusedSimpArgs false
namespace Go.Proofs.YtiblnpnfaadmcaaGreat.Am
open Go

theorem arrs_rp {H : Heap} {sz len id off : Nat} (hl : (live H id).map (fun cs => decide (off + len * sz ≤ cs.length)) = some true) : zyce H sz len (.rp id off) = some (.rs sz id off len) := by
 show ((live H id).bind fun cs => if off + len * sz ≤ cs.length then some (AV.rs sz id off len) else none) = _
 cases hv : live H id with
 | none => rw [hv] at hl; cases hl
 | some cs =>
  rw [hv] at hl
  simp only [Option.map_some, Option.some.injEq, decide_eq_true_eq] at hl
  rw [Option.bind_some, if_pos hl]
theorem zy0f {sz len id o i : Nat} {k : IntKind} (h : i < len) : zycb sz len (.rp id o) (.int k (i : Int)) = some (.rp id (o + i * sz)) := by
 show (if 0 ≤ (i : Int) ∧ (i : Int) < len then some (AV.rp id (o + (i : Int).toNat * sz)) else none) = _
 rw [if_pos ⟨by omega, by omega⟩, Int.toNat_natCast]
abbrev T4 := PT × PT × PT × PT
def T4.ok (t : T4) : Prop := t.1.ok ∧ t.2.1.ok ∧ t.2.2.1.ok ∧ t.2.2.2.ok
def t4c (t : T4) : List AV := ptc t.1 ++ ptc t.2.1 ++ ptc t.2.2.1 ++ ptc t.2.2.2
section
variable {h : Heap} {ax ay bx b_ cx cy dx dy : Rat}
theorem c_asked9 {xs : List PT} {H : Heap} {x : AV} (hb : ∀ t ∈ xs, t.ok) (hn : xs.length ≤ 1000) (hx : zy5t H x = some (.is xs.length false (xs.flatMap ptc))) : byVal (callW gp) H fid.zf0c [x] = some (.int .i64 (zy5n (xs.map askc))) := by
 have hc : cv gp fid.zf0c [.is xs.length false (xs.flatMap ptc)] = some (.int .i64 (zy5n (xs.map askc))) := by
  rw [zf0c.eq]
  unfold zf0c.f
  exact asked5_l0 hb (by omega) xs.length 0 (by omega)
 exact zy1n (mapM1 hx) hc rfl
set_option maxHeartbeats 8000000 in
theorem k_r9apart (h1 : Rz ax 40) (h2 : Rz ay 40) (h3 : Rz bx 40) (h4 : Rz b_ 40) (h5 : Rz cx 40) (h6 : Rz cy 40) (h7 : Rz dx 40) (h8 : Rz dy 40) : byVal (callW gp) h fid.zf0h [pa ax ay, pa bx b_, pa cx cy, pa dx dy] = some (ra (zy0k ax ay bx b_ cx cy dx dy)) := zy1o (zy6x zy7c zy7c zy7c zy7c) (by
 have m : ∀ {r : Rat}, Rz r 40 → Rz r 100 := fun h => h.mono (by omega)
 have w : ∀ {r : Rat}, Rz r 40 → Rz r 2000 := fun h => h.mono (by omega)
 have km := fun h => k_5meet (h := h) (w h1) (w h2) (w h3) (w h4) (w h5) (w h6) (w h7) (w h8)
 rw [zf0h.eq]
 unfold zf0h.f
 by_cases hm : meetQ ax ay bx b_ cx cy dx dy ≠ 0
 ·have e : zy0k ax ay bx b_ cx cy dx dy = 0 := by unfold zy0k; rw [if_pos hm]
  rw [e]
  have nq := neqT9 hm
  have o0 : ∀ h, byVal (callW gp) h fid.gussetref03_Of [.int .i64 0] = some (ra 0) := fun h => k_3of (z := 0) (by decide) (by decide)
  simp (disch := first | exact dD | fail) only [Wd, W2d, W3d, Nat.reduceAdd, Nat.reduceMul, Nat.reduceSub, km, nq, o0]
 ·have e : zy0k ax ay bx b_ cx cy dx dy = minQ (minQ (nearQ ax ay bx b_ cx cy) (nearQ ax ay bx b_ dx dy)) (minQ (nearQ cx cy dx dy ax ay) (nearQ cx cy dx dy bx b_)) := by unfold zy0k; rw [if_neg hm]
  rw [e]
  have nq : opBin .neq (.int .i64 (meetQ ax ay bx b_ cx cy dx dy)) (.int .i64 0) = some (.bool false) := by rw [zy14]; exact congrArg (fun b => some (AV.bool b)) (decide_eq_false hm)
  have k1 := fun h => zy8i (h := h) (m h1) (m h2) (m h3) (m h4) (m h5) (m h6)
  have k2 := fun h => zy8i (h := h) (m h1) (m h2) (m h3) (m h4) (m h7) (m h8)
  have k3 := fun h => zy8i (h := h) (m h5) (m h6) (m h7) (m h8) (m h1) (m h2)
  have k4 := fun h => zy8i (h := h) (m h5) (m h6) (m h7) (m h8) (m h3) (m h4)
  simp only [← near_eq] at k1 k2 k3 k4
  have n1 : Rz (nearQ ax ay bx b_ cx cy) 1500 := zybl h1 h2 h3 h4 h5 h6
  have n2 : Rz (nearQ ax ay bx b_ dx dy) 1500 := zybl h1 h2 h3 h4 h7 h8
  have n3 : Rz (nearQ cx cy dx dy ax ay) 1500 := zybl h5 h6 h7 h8 h1 h2
  have n4 : Rz (nearQ cx cy dx dy bx b_) 1500 := zybl h5 h6 h7 h8 h3 h4
  generalize nearQ ax ay bx b_ cx cy = d1 at *
  generalize nearQ ax ay bx b_ dx dy = d2 at *
  generalize nearQ cx cy dx dy ax ay = d3 at *
  generalize nearQ cx cy dx dy bx b_ = d4 at *
  have y1 : Rz (minQ d1 d2) 1500 := by unfold minQ; split <;> assumption
  have y2 : Rz (minQ d3 d4) 1500 := by unfold minQ; split <;> assumption
  have l1 := fun h => zy8h (h := h) (n1.mono (by omega)) (n2.mono (by omega))
  have l2 := fun h => zy8h (h := h) (n3.mono (by omega)) (n4.mono (by omega))
  have l3 := fun h => zy8h (h := h) (y1.mono (by omega)) (y2.mono (by omega))
  simp (disch := first | exact dD | fail) only [Wd, W2d, W3d, Nat.reduceAdd, Nat.reduceMul, Nat.reduceSub, km, nq, k1, k2, k3, k4, l1, l2, l3])
theorem few4_iff {a b c d : PT} (h : fewP [a, b, c, d]) : sh2 a ∧ sh2 b ∧ sh2 c ∧ sh2 d := ⟨h a (by simp), h b (by simp), h c (by simp), h d (by simp)⟩
theorem firstE4z {a b c d : PT} (h : zy5n ([a, b, c, d].map askc) = 0) : askc a = 0 ∧ askc b = 0 ∧ askc c = 0 ∧ askc d = 0 := by
 simp only [List.map_cons, List.map_nil, zy5n] at h
 by_cases h1 : askc a = 0 <;> by_cases h2 : askc b = 0 <;> by_cases h3 : askc c = 0 <;> by_cases h4 : askc d = 0 <;> simp [h1, h2, h3, h4] at h ⊢
theorem sign_dec {q : Rat} : (if q.num < 0 then (-1 : Int) else if q.num = 0 then 0 else 1) = 0 ↔ q = 0 := by
 have hq : q.num = 0 ↔ q = 0 := Rat.num_eq_zero
 rw [← hq]
 split
 ·omega
 ·split <;> omega
theorem eql0 {z : Int} : opBin .eql (.int .i64 z) (.int .i64 0) = some (.bool (decide (z = 0))) := by
 simp only [opBin, zy7k]
 by_cases h : z = 0 <;> simp [h]
theorem neq0 {z : Int} : opBin .neq (.int .i64 z) (.int .i64 0) = some (.bool (decide (z ≠ 0))) := by
 rw [zy14]
theorem beq_ss {b : Bool} : opBeq false (.bool b) (.bool b) = some (.bool true) := by cases b <;> rfl
theorem eqa_z39 : opEqa false [.b, .s, .s] (.agg z3) (.agg [.bool false, .str ⟨#[]⟩, .str ⟨#[]⟩]) = some (.bool true) := by kernel_rfl
theorem eqlT9 {a : Int} : opBin .eql (.int .i64 a) (.int .i64 a) = some (.bool true) := by
 simp only [opBin, zy7k]
 simp
theorem st_app39 {H : Heap} : zyd8 (H ++ [some [.bool false, .str ⟨#[]⟩, .str ⟨#[]⟩]]) 3 (.rp H.length 0) (.agg z3) = some (H ++ [some z3]) := zyg3 (h := H) (z := z3) (v := z3) (n := 3) rfl ⟨rfl, rfl⟩
set_option maxHeartbeats 16000000 in
theorem zydq (t : T4) (ht : t.ok) : cv gp fid.zf04 [.agg (t4c t)] = some (.bool true) := by
 obtain ⟨a, b, c, d⟩ := t
 obtain ⟨ha, hb, hc, hd⟩ := ht
 simp only at ha hb hc hd
 have fl : [a, b, c, d].flatMap ptc = t4c (a, b, c, d) := by simp [t4c]
 have hs : ∀ T, byVal (callW gp) (some (t4c (a, b, c, d)) :: T) fid.zf09 [.rs 6 0 0 4, .int .i64 4] = some (.bool (decide (smlP [a, b, c, d] 4))) := fun T => c_small9 (xs := [a, b, c, d]) (H := some (t4c (a, b, c, d)) :: T) (x := .rs 6 0 0 4) (m := 4) (by decide) (by rw [fl]; rfl)
 have kl := fun h => c_live9 (h := h)
 have a0 : ∀ o, zycb 6 4 (.rp 0 o) (.int .i64 0) = some (.rp 0 (o + 0 * 6)) := fun o => zy0f (i := 0) (by decide)
 have a1 : ∀ o, zycb 6 4 (.rp 0 o) (.int .i64 1) = some (.rp 0 (o + 1 * 6)) := fun o => zy0f (i := 1) (by decide)
 have a2 : ∀ o, zycb 6 4 (.rp 0 o) (.int .i64 2) = some (.rp 0 (o + 2 * 6)) := fun o => zy0f (i := 2) (by decide)
 have a3 : ∀ o, zycb 6 4 (.rp 0 o) (.int .i64 3) = some (.rp 0 (o + 3 * 6)) := fun o => zy0f (i := 3) (by decide)
 have ar : ∀ T, zyce (some (t4c (a, b, c, d)) :: T) 6 4 (.rp 0 0) = some (.rs 6 0 0 4) := fun T => arrs_rp rfl
 have b0 : opBox [] (.agg (t4c (a, b, c, d))) = some (.rp 0 0, [some (t4c (a, b, c, d))]) := rfl
 have dr0 : zye7 (t4c (a, b, c, d)) (some 6) = some (.agg (ptc a)) := Eq.trans rfl rfl
 have dr1 : zye7 ((t4c (a, b, c, d)).drop 6) (some 6) = some (.agg (ptc b)) := Eq.trans rfl rfl
 have dr2 : zye7 ((t4c (a, b, c, d)).drop 12) (some 6) = some (.agg (ptc c)) := Eq.trans rfl rfl
 have dr3 : zye7 ((t4c (a, b, c, d)).drop 18) (some 6) = some (.agg (ptc d)) := Eq.trans rfl rfl
 rw [zf04.eq]
 unfold zf04.f
 have hl : smlP [a, b, c, d] 4 ↔ fewP [a, b, c, d] := ⟨fun h => h.2, fun h => ⟨by simp, h⟩⟩
 by_cases hf : fewP [a, b, c, d]
 rotate_left
 ·rw [decide_eq_false (fun h => hf (hl.1 h))] at hs
  generalize t4c (a, b, c, d) = C at *
  rw [b0]
  simp (maxSteps := 4000000) (disch := first | exact dD | fail) only [Wd, W2d, W3d, Nat.reduceAdd, Nat.reduceMul, Nat.reduceSub, ar, hs, notT, notF, kl]
 rw [decide_eq_true (hl.2 hf)] at hs
 obtain ⟨sa, sb, sc, sd⟩ := few4_iff hf
 have ok : ∀ t ∈ [a, b, c, d], t.ok := fun t ht => by
  simp only [List.mem_cons, List.not_mem_nil, or_false] at ht
  rcases ht with rfl | rfl | rfl | rfl <;> assumption
 have ka := fun T => c_asked9 (xs := [a, b, c, d]) (H := some (t4c (a, b, c, d)) :: T) (x := .rs 6 0 0 4) ok (by simp) (by rw [fl]; rfl)
 by_cases hE : zy5n ([a, b, c, d].map askc) = 0
 rotate_left
 ·have kp := fun h => k_pApartE (h := h) ha hb hc hd hE
  have nq := neqT9 hE
  generalize zy5n ([a, b, c, d].map askc) = e at *
  generalize t4c (a, b, c, d) = C at *
  have st := st_app39 (H := [some C])
  rw [b0]
  simp (disch := first | exact dD | fail) only [Wd, W2d, W3d, Nat.reduceAdd, Nat.reduceMul, Nat.reduceSub, ar, hs, notT, notF, kl, a0, a1, a2, a3, dr0, dr1, dr2, dr3, kp, ka, nq, eqlT9, eqa_z39, Nat.zero_mul, Nat.one_mul, Nat.reduceMul]
 ·rw [hE] at ka
  obtain ⟨z1, z2, z3', z4⟩ := firstE4z hE
  obtain ⟨ax, ay, rfl, h1, h2⟩ := pt_rat ha sa z1
  obtain ⟨bx, b_, rfl, h3, h4⟩ := pt_rat hb sb z2
  obtain ⟨cx, cy, rfl, h5, h6⟩ := pt_rat hc sc z3'
  obtain ⟨dx, dy, rfl, h7, h8⟩ := pt_rat hd sd z4
  have m : ∀ {r : Rat}, Rz r 30 → Rz r 40 := fun h => h.mono (by omega)
  have w : ∀ {r : Rat}, Rz r 30 → Rz r 2000 := fun h => h.mono (by omega)
  have k1 : ∀ h, byVal (callW gp) h fid.zf0f [.agg (ptc (rt ax, rt ay)), .agg (ptc (rt bx, rt b_)), .agg (ptc (rt cx, rt cy)), .agg (ptc (rt dx, rt dy))] = _ := fun h => zy8t (h := h) (m h1) (m h2) (m h3) (m h4) (m h5) (m h6) (m h7) (m h8)
  have k2 : ∀ h, byVal (callW gp) h fid.zf0f [.agg (ptc (rt dx, rt dy)), .agg (ptc (rt cx, rt cy)), .agg (ptc (rt ax, rt ay)), .agg (ptc (rt bx, rt b_))] = _ := fun h => zy8t (h := h) (m h7) (m h8) (m h5) (m h6) (m h1) (m h2) (m h3) (m h4)
  have k3 : ∀ h, byVal (callW gp) h fid.zf0h [.agg (ptc (rt ax, rt ay)), .agg (ptc (rt bx, rt b_)), .agg (ptc (rt cx, rt cy)), .agg (ptc (rt dx, rt dy))] = _ := fun h => k_r9apart (h := h) (m h1) (m h2) (m h3) (m h4) (m h5) (m h6) (m h7) (m h8)
  have k4 : ∀ h, byVal (callW gp) h fid.zf0g [.agg (ptc (rt ax, rt ay)), .agg (ptc (rt bx, rt b_)), .agg (ptc (rt cx, rt cy)), .agg (ptc (rt dx, rt dy))] = _ := fun h => k_5meet (h := h) (w h1) (w h2) (w h3) (w h4) (w h5) (w h6) (w h7) (w h8)
  rw [zy0l] at k2
  have ks := fun h => zy8b (h := h) (q := zy0k ax ay bx b_ cx cy dx dy)
  have sd := @sign_dec (zy0k ax ay bx b_ cx cy dx dy)
  rw [zy0m] at sd
  have dd : decide ((if (zy0k ax ay bx b_ cx cy dx dy).num < 0 then (-1 : Int) else if (zy0k ax ay bx b_ cx cy dx dy).num = 0 then 0 else 1) = 0) = decide (meetQ ax ay bx b_ cx cy dx dy ≠ 0) := decide_eq_decide.2 sd
  generalize (if (zy0k ax ay bx b_ cx cy dx dy).num < 0 then (-1 : Int) else if (zy0k ax ay bx b_ cx cy dx dy).num = 0 then 0 else 1) = sg at *
  generalize zy0k ax ay bx b_ cx cy dx dy = M at *
  generalize meetQ ax ay bx b_ cx cy dx dy = mm at *
  have ek : opBin .eql (.int .i64 sg) (.int .i64 0) = some (.bool (decide (mm ≠ 0))) := by rw [eql0, dd]
  have nk := neq0 (z := mm)
  generalize decide (mm ≠ 0) = bb at *
  generalize t4c ((rt ax, rt ay), (rt bx, rt b_), (rt cx, rt cy), (rt dx, rt dy)) = C at *
  generalize ptc (rt ax, rt ay) = Ca at *
  generalize ptc (rt bx, rt b_) = Cb at *
  generalize ptc (rt cx, rt cy) = Cc at *
  generalize ptc (rt dx, rt dy) = Cd at *
  rw [b0]
  simp (disch := first | exact dD | fail) only [Wd, W2d, W3d, Nat.reduceAdd, Nat.reduceMul, Nat.reduceSub, ar, hs, notT, notF, kl, a0, a1, a2, a3, dr0, dr1, dr2, dr3, k1, k2, k3, k4, ks, ek, nk, beq_ss, ka, neqF9, eqlT9, eqa_r, decide_true, Nat.zero_mul, Nat.one_mul, Nat.reduceMul]
  cases bb <;> rfl
end
end Go.Proofs.YtiblnpnfaadmcaaGreat.Am
