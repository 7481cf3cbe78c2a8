import Derived.Test.YtechbfodaallkaaGreatAmWell10
/- The law of section 10 that more than there may be is refused. -/
set_option linter.unusedVariables false
set_option maxRecDepth 10000
set_option linter.unusedSimpArgs false
namespace Go.Proofs.YtechbfodaallkaaGreat.Am
open Go

def rt00 : RT := ⟨false, [], []⟩
def pt00 : PT := (rt00, rt00)
def sg00 : Sg := ⟨0, 0, false⟩
/-- So many points, segments and holes of nothing. -/
def PG (a b c : Nat) : Pl := ⟨List.replicate a pt00, List.replicate b sg00, List.replicate c pt00, F0, F0⟩
theorem pt00_ok : pt00.ok := ⟨⟨fun _ h => absurd h List.not_mem_nil, fun _ h => absurd h List.not_mem_nil⟩, ⟨fun _ h => absurd h List.not_mem_nil, fun _ h => absurd h List.not_mem_nil⟩⟩
theorem PG_ok {a b c : Nat} (h1 : a ≤ 60) (h2 : b ≤ 80) (h3 : c ≤ 20) : (PG a b c).ok := ⟨fun t ht => by rw [List.eq_of_mem_replicate ht]; exact pt00_ok, fun t ht => by rw [List.eq_of_mem_replicate ht]; exact pt00_ok, F0_ok, F0_ok, by show (List.replicate a pt00).length ≤ _; rw [List.length_replicate]; omega, by show (List.replicate b sg00).length ≤ _; rw [List.length_replicate]; omega, by show (List.replicate c pt00).length ≤ _; rw [List.length_replicate]; omega⟩
theorem askc00 : askc pt00 = 1 := by
  unfold askc pt00 rt00
  rw [if_neg (by decide)]
  have e : rchk false [] [] = 1 := by
    unfold rchk
    rw [if_neg (by decide), if_neg (fun h => h.2.2.2.1 rfl)]
  unfold pchk RT.chk
  simp only [e]
  rfl
theorem firstE_rep {n : Nat} : firstE ((List.replicate n pt00).map askc) = if 0 < n then 1 else 0 := by
  cases n with
  | zero => rfl
  | succ n =>
    rw [List.replicate_succ, List.map_cons, firstE, askc00, if_neg (by decide), if_pos (by omega)]
theorem PG_given {a b c : Nat} : (givenF (PG a b c)).1 = if 40 < a ∨ 60 < b ∨ 10 < c then 5 else if 0 < a ∨ 0 < b ∨ 0 < c then 1 else 0 := by
  unfold givenF
  have e1 : (PG a b c).pts.length = a := List.length_replicate
  have e2 : (PG a b c).segs.length = b := List.length_replicate
  have e3 : (PG a b c).holes.length = c := List.length_replicate
  have f1 : firstE ((PG a b c).pts.map askc) = if 0 < a then 1 else 0 := firstE_rep
  have f3 : firstE ((PG a b c).holes.map askc) = if 0 < c then 1 else 0 := firstE_rep
  rw [e1, e2, e3, f1, f3]
  by_cases q : 40 < a ∨ 60 < b ∨ 10 < c
  · rw [if_pos q, if_pos q]
  rw [if_neg q, if_neg q]
  by_cases p1 : 0 < a
  · rw [if_pos p1, if_pos (by decide), if_pos (.inl p1)]
  rw [if_neg p1, if_neg (by decide)]
  by_cases p3 : 0 < c
  · rw [if_pos p3, if_pos (by decide), if_pos (.inr (.inr p3))]
  rw [if_neg p3, if_neg (by decide), if_neg (fun hh => hh.elim (fun h => h F0_ask) (fun h => h F0_ask))]
  by_cases p2 : 0 < b
  · rw [if_pos (.inr (.inl p2))]
    obtain ⟨b, rfl⟩ : ∃ b', b = b' + 1 := ⟨b - 1, by omega⟩
    have hb : badS a (sgAt (PG a (b + 1) c).segs 0) = true := by
      have : sgAt (PG a (b + 1) c).segs 0 = sg00 := by
        show (List.replicate (b + 1) sg00).getD 0 ⟨0, 0, false⟩ = _
        rw [List.replicate_succ]; rfl
      rw [this]
      unfold badS sg00
      simp
    rw [scan, if_pos hb]
  · rw [if_neg (by omega)]
    obtain rfl : b = 0 := by omega
    rfl
def Q0 : Pq := ⟨[], [], [], F0, F0⟩
theorem Q0_ok : Q0.ok := ⟨(fun _ h => absurd h List.not_mem_nil), (fun _ h => absurd h List.not_mem_nil), (fun _ h => absurd h List.not_mem_nil), F0_ok, F0_ok, by decide, by decide, by decide⟩
theorem Q0_pl : Q0.pl = PG 0 0 0 := rfl
theorem Q0_first : firstQ Q0 = (0, 0, 0) := rfl
theorem zeros_pt : ∀ n, zeros [.bool false, .str ⟨#[]⟩, .str ⟨#[]⟩, .bool false, .str ⟨#[]⟩, .str ⟨#[]⟩] n = (List.replicate n pt00).flatMap ptc
  | 0 => rfl
  | n + 1 => by rw [zeros, zeros_pt n, List.replicate_succ, List.flatMap_cons]; rfl
theorem zeros_sg : ∀ n, zeros [.int .i64 0, .int .i64 0, .bool false] n = (List.replicate n sg00).flatMap sgc
  | 0 => rfl
  | n + 1 => by rw [zeros, zeros_sg n, List.replicate_succ, List.flatMap_cons]; rfl
theorem frz_row {α : Type} {f : α → List AV} {sz id n k : Nat} {H : Heap} {xs : List α} (hf : ∀ x, (f x).length = sz) (hi : ∀ x, ∀ c ∈ f x, Imm 1 c) (hn : xs.length = n) (hl : live H id = some (xs.flatMap f)) : freezeN (k + 2) H (.rs sz id 0 n) = some (.is n false (xs.flatMap f)) := by
  have hlen := len_flatMap hf xs
  rw [fz_rs, hl, Option.bind_some, if_pos (by rw [hlen, hn]; omega), List.drop_zero, List.take_of_length_le (by rw [hlen, hn]; omega), imm_mapM (imm_flat hi xs) (by omega)]
  rfl
theorem mks_n {h : Heap} {sz n : Nat} {z : List AV} (hn : n ≤ 100) : opMks h sz z (.int .i64 (n : Int)) (.int .i64 (n : Int)) = some (.rs sz h.length 0 n, h ++ [some (zeros z n)]) := by
  show (if 0 ≤ (n : Int) ∧ (n : Int) ≤ (n : Int) ∧ (n : Int) ≤ 4294967296 then some (AV.rs sz h.length 0 (n : Int).toNat, h ++ [some (zeros z (n : Int).toNat)]) else none) = _
  rw [if_pos ⟨by omega, by omega, by omega⟩, Int.toNat_natCast]
theorem great_check {a b c : Nat} (h1 : a ≤ 60) (h2 : b ≤ 80) (h3 : c ≤ 20) {x0 x1 x2 x3 x4 x5 x6 : Option (List AV)} : byVal (callW gp) [x0, x1, x2, x3, x4, x5, x6, some ((List.replicate a pt00).flatMap ptc), some ((List.replicate b sg00).flatMap sgc), some ((List.replicate c pt00).flatMap ptc)] fid.well_Check [.agg [.rs 6 7 0 a, .rs 3 8 0 b, .rs 6 9 0 c, .bool (decide ((R0).num < 0)), str (nb ((R0).num.natAbs)), str (nb (R0).den), .bool (decide ((R0).num < 0)), str (nb ((R0).num.natAbs)), str (nb (R0).den), .bool (decide ((R0).num < 0)), str (nb ((R0).num.natAbs)), str (nb (R0).den), .bool (decide ((R0).num < 0)), str (nb ((R0).num.natAbs)), str (nb (R0).den), .bool (decide ((R0).num < 0)), str (nb ((R0).num.natAbs)), str (nb (R0).den), .bool (decide ((R0).num < 0)), str (nb ((R0).num.natAbs)), str (nb (R0).den), .bool (decide ((R0).num < 0)), str (nb ((R0).num.natAbs)), str (nb (R0).den), .bool (decide ((R0).num < 0)), str (nb ((R0).num.natAbs)), str (nb (R0).den), .bool (decide ((R0).num < 0)), str (nb ((R0).num.natAbs)), str (nb (R0).den), .bool (decide ((R0).num < 0)), str (nb ((R0).num.natAbs)), str (nb (R0).den), .bool (decide ((R0).num < 0)), str (nb ((R0).num.natAbs)), str (nb (R0).den), .bool (decide ((R0).num < 0)), str (nb ((R0).num.natAbs)), str (nb (R0).den)]] = some (.int .i64 (if 40 < a ∨ 60 < b ∨ 10 < c then 5 else if 0 < a ∨ 0 < b ∨ 0 < c then 1 else 0)) := by
  have hx : freeze [x0, x1, x2, x3, x4, x5, x6, some ((List.replicate a pt00).flatMap ptc), some ((List.replicate b sg00).flatMap sgc), some ((List.replicate c pt00).flatMap ptc)] (.agg [.rs 6 7 0 a, .rs 3 8 0 b, .rs 6 9 0 c, .bool (decide ((R0).num < 0)), str (nb ((R0).num.natAbs)), str (nb (R0).den), .bool (decide ((R0).num < 0)), str (nb ((R0).num.natAbs)), str (nb (R0).den), .bool (decide ((R0).num < 0)), str (nb ((R0).num.natAbs)), str (nb (R0).den), .bool (decide ((R0).num < 0)), str (nb ((R0).num.natAbs)), str (nb (R0).den), .bool (decide ((R0).num < 0)), str (nb ((R0).num.natAbs)), str (nb (R0).den), .bool (decide ((R0).num < 0)), str (nb ((R0).num.natAbs)), str (nb (R0).den), .bool (decide ((R0).num < 0)), str (nb ((R0).num.natAbs)), str (nb (R0).den), .bool (decide ((R0).num < 0)), str (nb ((R0).num.natAbs)), str (nb (R0).den), .bool (decide ((R0).num < 0)), str (nb ((R0).num.natAbs)), str (nb (R0).den), .bool (decide ((R0).num < 0)), str (nb ((R0).num.natAbs)), str (nb (R0).den), .bool (decide ((R0).num < 0)), str (nb ((R0).num.natAbs)), str (nb (R0).den), .bool (decide ((R0).num < 0)), str (nb ((R0).num.natAbs)), str (nb (R0).den)]) = some (.agg (plc (PG a b c))) := by
    show ((AV.rs 6 7 0 a :: AV.rs 3 8 0 b :: AV.rs 6 9 0 c :: (r6c F0 ++ r6c F0)).mapM (freezeN 11 _)).map _ = _
    have r1 := frz_row (k := 9) (id := 7) (n := a) (H := [x0, x1, x2, x3, x4, x5, x6, some ((List.replicate a pt00).flatMap ptc), some ((List.replicate b sg00).flatMap sgc), some ((List.replicate c pt00).flatMap ptc)]) ptc_len imm_ptc List.length_replicate rfl
    have r2 := frz_row (k := 9) (id := 8) (n := b) (H := [x0, x1, x2, x3, x4, x5, x6, some ((List.replicate a pt00).flatMap ptc), some ((List.replicate b sg00).flatMap sgc), some ((List.replicate c pt00).flatMap ptc)]) sgc_len imm_sgc List.length_replicate rfl
    have r3 := frz_row (k := 9) (id := 9) (n := c) (H := [x0, x1, x2, x3, x4, x5, x6, some ((List.replicate a pt00).flatMap ptc), some ((List.replicate b sg00).flatMap sgc), some ((List.replicate c pt00).flatMap ptc)]) ptc_len imm_ptc List.length_replicate rfl
    have r4 : (r6c F0 ++ r6c F0).mapM (freezeN 11 [x0, x1, x2, x3, x4, x5, x6, some ((List.replicate a pt00).flatMap ptc), some ((List.replicate b sg00).flatMap sgc), some ((List.replicate c pt00).flatMap ptc)]) = some (r6c F0 ++ r6c F0) := imm_mapM (d := 1) (fun c hc => (List.mem_append.1 hc).elim (imm_flat imm_rtc _ c) (imm_flat imm_rtc _ c)) (by omega) _
    rw [List.mapM_cons, r1, List.mapM_cons, r2, List.mapM_cons, r3, r4]
    unfold plc PG
    simp only [List.length_replicate]
    rfl
  by_cases hz : (givenF (PG a b c)).1 = 0
  · rw [PG_given] at hz
    have ha : a = 0 ∧ b = 0 ∧ c = 0 := by
      by_cases q : 40 < a ∨ 60 < b ∨ 10 < c
      · rw [if_pos q] at hz; cases hz
      · rw [if_neg q] at hz
        by_cases q2 : 0 < a ∨ 0 < b ∨ 0 < c
        · rw [if_pos q2] at hz; cases hz
        · omega
    obtain ⟨rfl, rfl, rfl⟩ := ha
    rw [← Q0_pl] at hx
    have hg : givenF Q0.pl = (0, 0, 0) := given_ok Q0_ok (by decide) (by decide) (by decide) F0_ask F0_ask
    have h := c_checkQ Q0_ok hg hx
    rw [Q0_first] at h
    exact h
  · have h := c_checkE (PG_ok h1 h2 h3) hz hx
    rw [PG_given] at h
    exact h
set_option maxHeartbeats 8000000 in
theorem wellGreat_nat {a b c : Nat} (h1 : a ≤ 60) (h2 : b ≤ 80) (h3 : c ≤ 20) : cv gp fid.gussetlaw10_WellGreat [.int .i64 (a : Int), .int .i64 (b : Int), .int .i64 (c : Int)] = some (.bool true) := by
  rw [gussetlaw10_WellGreat.eq]
  unfold gussetlaw10_WellGreat.f
  have k := fun x0 x1 x2 x3 x4 x5 x6 => great_check (a := a) (b := b) (c := c) h1 h2 h3 (x0 := x0) (x1 := x1) (x2 := x2) (x3 := x3) (x4 := x4) (x5 := x5) (x6 := x6)
  have m1 := fun h => mks_n (h := h) (n := a) (sz := 6) (z := [.bool false, .str ⟨#[]⟩, .str ⟨#[]⟩, .bool false, .str ⟨#[]⟩, .str ⟨#[]⟩]) (by omega)
  have m2 := fun h => mks_n (h := h) (n := b) (sz := 3) (z := [.int .i64 0, .int .i64 0, .bool false]) (by omega)
  have m3 := fun h => mks_n (h := h) (n := c) (sz := 6) (z := [.bool false, .str ⟨#[]⟩, .str ⟨#[]⟩, .bool false, .str ⟨#[]⟩, .str ⟨#[]⟩]) (by omega)
  simp only [zeros_pt] at m1 m3
  simp only [zeros_sg] at m2
  unfold gussetlaw10_WellGreat.j0 gussetlaw10_WellGreat.j1
  by_cases q1 : 40 < a
  · rw [if_pos (.inl q1)] at k
    simp (maxSteps := 1000000) (disch := first | exact dD | fail) only [Wd, W2d, W3d, Nat.reduceAdd, Nat.reduceMul, Nat.reduceSub, squareA, rc39x, m1, m2, m3, k, live10_by]
  by_cases q2 : 60 < b
  · rw [if_pos (.inr (.inl q2))] at k
    simp (maxSteps := 1000000) (disch := first | exact dD | fail) only [Wd, W2d, W3d, Nat.reduceAdd, Nat.reduceMul, Nat.reduceSub, squareA, rc39x, m1, m2, m3, k, live10_by]
  by_cases q3 : 10 < c
  · rw [if_pos (.inr (.inr q3))] at k
    have d3 : decide ((10 : Int) < c) = true := decide_eq_true (by omega)
    simp (maxSteps := 1000000) (disch := first | exact dD | fail) only [Wd, W2d, W3d, Nat.reduceAdd, Nat.reduceMul, Nat.reduceSub, squareA, rc39x, m1, m2, m3, k, live10_by, d3]
  have d3 : decide ((10 : Int) < c) = false := decide_eq_false (by omega)
  rw [if_neg (by omega)] at k
  by_cases p1 : 0 < a
  · rw [if_pos (.inl p1)] at k
    simp (maxSteps := 1000000) (disch := first | exact dD | fail) only [Wd, W2d, W3d, Nat.reduceAdd, Nat.reduceMul, Nat.reduceSub, squareA, rc39x, m1, m2, m3, k, live10_by, d3]
  by_cases p3 : 0 < c
  · rw [if_pos (.inr (.inr p3))] at k
    simp (maxSteps := 1000000) (disch := first | exact dD | fail) only [Wd, W2d, W3d, Nat.reduceAdd, Nat.reduceMul, Nat.reduceSub, squareA, rc39x, m1, m2, m3, k, live10_by, d3]
  by_cases p2 : 0 < b
  · rw [if_pos (.inr (.inl p2))] at k
    have d2 : decide ((0 : Int) < b) = true := decide_eq_true (by omega)
    simp (maxSteps := 1000000) (disch := first | exact dD | fail) only [Wd, W2d, W3d, Nat.reduceAdd, Nat.reduceMul, Nat.reduceSub, squareA, rc39x, m1, m2, m3, k, live10_by, d3, d2]
  · rw [if_neg (by omega)] at k
    have d2 : decide ((0 : Int) < b) = false := decide_eq_false (by omega)
    simp (maxSteps := 1000000) (disch := first | exact dD | fail) only [Wd, W2d, W3d, Nat.reduceAdd, Nat.reduceMul, Nat.reduceSub, squareA, rc39x, m1, m2, m3, k, live10_by, d3, d2]
theorem wellGreat_cv (a b c : Int) (p0 : -9223372036854775808 ≤ a ∧ a ≤ 9223372036854775807) (p1 : -9223372036854775808 ≤ b ∧ b ≤ 9223372036854775807) (p2 : -9223372036854775808 ≤ c ∧ c ≤ 9223372036854775807) : cv gp fid.gussetlaw10_WellGreat [.int .i64 a, .int .i64 b, .int .i64 c] = some (.bool true) := by
  by_cases hb : 0 ≤ a ∧ a ≤ 60 ∧ 0 ≤ b ∧ b ≤ 80 ∧ 0 ≤ c ∧ c ≤ 20
  · obtain ⟨a0, a1, b0, b1, c0, c1⟩ := hb
    have ea : a = (a.toNat : Int) := by omega
    have eb : b = (b.toNat : Int) := by omega
    have ec : c = (c.toNat : Int) := by omega
    rw [ea, eb, ec]
    exact wellGreat_nat (by omega) (by omega) (by omega)
  · rw [gussetlaw10_WellGreat.eq]
    unfold gussetlaw10_WellGreat.f
    by_cases q1 : a < 0
    · simp (maxSteps := 1000000) (disch := first | exact dD | fail) only [Wd, W2d, W3d, Nat.reduceAdd, Nat.reduceMul, Nat.reduceSub, live10_by]
    by_cases q2 : b < 0
    · simp (maxSteps := 1000000) (disch := first | exact dD | fail) only [Wd, W2d, W3d, Nat.reduceAdd, Nat.reduceMul, Nat.reduceSub, live10_by]
    by_cases q3 : c < 0
    · simp (maxSteps := 1000000) (disch := first | exact dD | fail) only [Wd, W2d, W3d, Nat.reduceAdd, Nat.reduceMul, Nat.reduceSub, live10_by]
    by_cases q4 : 60 < a
    · simp (maxSteps := 1000000) (disch := first | exact dD | fail) only [Wd, W2d, W3d, Nat.reduceAdd, Nat.reduceMul, Nat.reduceSub, live10_by]
    by_cases q5 : 80 < b
    · simp (maxSteps := 1000000) (disch := first | exact dD | fail) only [Wd, W2d, W3d, Nat.reduceAdd, Nat.reduceMul, Nat.reduceSub, live10_by]
    have q6 : 20 < c := by omega
    simp (maxSteps := 1000000) (disch := first | exact dD | fail) only [Wd, W2d, W3d, Nat.reduceAdd, Nat.reduceMul, Nat.reduceSub, live10_by]
end Go.Proofs.YtechbfodaallkaaGreat.Am