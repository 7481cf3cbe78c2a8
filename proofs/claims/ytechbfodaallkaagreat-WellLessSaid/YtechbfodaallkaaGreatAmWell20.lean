import Derived.Test.YtechbfodaallkaaGreatAmWell19
import Derived.Test.YtechbfodaallkaaGreatAmWell17
/- The law of section 10 on plans with a segment less, a hole less, turned round: the walk. -/
set_option linter.unusedVariables false
set_option maxRecDepth 10000
set_option linter.unusedSimpArgs false
namespace Go.Proofs.YtechbfodaallkaaGreat.Am
open Go

abbrev Z39 : List AV := [.is 0 true [], .is 0 true [], .is 0 true [], .bool false, .str ⟨#[]⟩, .str ⟨#[]⟩, .bool false, .str ⟨#[]⟩, .str ⟨#[]⟩, .bool false, .str ⟨#[]⟩, .str ⟨#[]⟩, .bool false, .str ⟨#[]⟩, .str ⟨#[]⟩, .bool false, .str ⟨#[]⟩, .str ⟨#[]⟩, .bool false, .str ⟨#[]⟩, .str ⟨#[]⟩, .bool false, .str ⟨#[]⟩, .str ⟨#[]⟩, .bool false, .str ⟨#[]⟩, .str ⟨#[]⟩, .bool false, .str ⟨#[]⟩, .str ⟨#[]⟩, .bool false, .str ⟨#[]⟩, .str ⟨#[]⟩, .bool false, .str ⟨#[]⟩, .str ⟨#[]⟩, .bool false, .str ⟨#[]⟩, .str ⟨#[]⟩]
/-- Where a copy stands. -/
structure Cpl (q : Pq) (L P S O J : Nat) : Prop where
  lp : L ≤ P
  ps : P ≤ S
  so : S ≤ O
  oj : O ≤ J
  d1 : q.ps.length ≠ 0 → P < S
  d2 : q.ss.length ≠ 0 → S < O
  d3 : q.hs.length ≠ 0 → O < J
theorem less_copy {q : Pq} (hq : q.ok) (H : Heap) : ∃ C v K P S O, callW gp fid.gussetref08_Copy [.agg (plc q.pl)] H = some (.agg v, C) ∧ opStore (C ++ [some Z39]) 39 (.rp C.length 0) (.agg v) = some K ∧ Cpd q K C.length P S O (cpR 6 P q.ps.length) (cpR 3 S q.ss.length) (cpR 6 O q.hs.length) ∧ Cpl q H.length P S O C.length ∧ H.length < K.length ∧ ∀ id, id < H.length → live K id = live H id := by
  have hp : q.pl.ok := Pq.plok hq
  have b1 := cpB1_len (q := q)
  have b2 := cpB2_len (q := q)
  have b3 := cpB3_len (q := q)
  have el : (H ++ cpH q.pl H.length).length = H.length + 3 + (cpB1 q.pl).length + (cpB2 q.pl).length + (cpB3 q.pl).length := by
    rw [List.length_append]; unfold cpH; simp only [List.length_cons, List.length_append]; omega
  refine ⟨H ++ cpH q.pl H.length, cpy q.pl H.length, H ++ cpH q.pl H.length ++ [some (cpy q.pl H.length)], H.length + 3, H.length + 3 + (cpB1 q.pl).length, H.length + 3 + (cpB1 q.pl).length + (cpB2 q.pl).length, c_copyG hp H, st_app1 rfl (cpv_ok cpR_cell cpR_cell cpR_cell), cpd_copy, ?_, by simp, fun id hid => by rw [List.append_assoc]; simp [live, List.getElem?_append_left hid]⟩
  rw [el]
  refine ⟨by omega, by omega, by omega, by omega, fun h => ?_, fun h => ?_, fun h => ?_⟩
  · rw [if_neg h] at b1; omega
  · rw [if_neg h] at b2; omega
  · rw [if_neg h] at b3; omega
section
variable {q : Pq}
theorem less_j1 {H : Heap} {J1 J2 J3 : Nat} (g1 : Good H J1) (g2 : Good H J2) (g3 : Good H J3) : gussetlaw10_WellLess.j1 (.rp J1 0) (.rp J2 0) (.rp J3 0) H = some (.bool true) := by
  obtain ⟨v1, l1, r1, k1⟩ := g1.2 H fun _ _ => rfl
  obtain ⟨v2, l2, r2, k2⟩ := g2.2 H fun _ _ => rfl
  obtain ⟨v3, l3, r3, k3⟩ := g3.2 H fun _ _ => rfl
  have lv := live10_by (h := H)
  unfold gussetlaw10_WellLess.j1
  simp (disch := first | exact dD | fail) only [Wd, W2d, W3d, Nat.reduceAdd, Nat.reduceMul, Nat.reduceSub, l1, l2, l3, r1, r2, r3, k1, k2, k3, eqli, lv]
theorem cells_cut {α : Type} {f : α → List AV} {sz n : Nat} (hf : ∀ x, (f x).length = sz) (xs : List α) : ((xs.flatMap f).drop (n * sz)).take ((xs.length - n) * sz) = (xs.drop n).flatMap f := by
  rw [drop_flatMap hf, List.take_of_length_le (by rw [len_flatMap hf, List.length_drop]; exact Nat.le_refl _)]
/-- The rows of a hole less. -/
theorem less_hole (hq : q.ok) (hf : Fine q) (hg : givenF q.pl = (0, 0, 0)) (hs : q.ss.length ≠ 0) {H : Heap} {J1 J2 : Nat} (h0 : live H 0 = some (plc q.pl)) (g1 : Good H J1) (g2 : Good H J2) {c1 c3 : AV} {S : Nat} (hJ : live H J2 = some (cpv q.pl c1 (cpR 3 S q.ss.length) c3)) :
    gussetlaw10_WellLess.l0 (.rp 0 0) (.rp J1 0) (.rp J2 0) (.int .i64 (q.ss.length : Int)) H = some (.bool true) := by
  have n2 := hq.n2
  have n3 := hq.n3
  have fa : ∀ k id off, opFaddr k (.rp id off) = some (.rp id (off + k)) := fun _ _ _ => rfl
  have cL := len_cpR (sz := 3) (id := S) (n := q.ss.length)
  have k1 := @cpv_1 q.pl
  obtain ⟨C, v, K, P, S', O, cc, st, cd, cl, hl, ha⟩ := less_copy hq H
  have G1 := g1.mono (Nat.le_of_lt hl) ha
  have G2 := g2.mono (Nat.le_of_lt hl) ha
  have vj := cd.j
  have k2 := @cpv_2 q.pl
  have cH := len_cpR (sz := 6) (id := O) (n := q.hs.length)
  have f1 := fun H' ha' => frz_cpr (f := ptc) (xs := q.ps.map pc) (H' := H') ptc_len imm_ptc (by rw [List.length_map]; exact cd.p) ha'
  have f2 := fun H' ha' => frz_cpr (f := sgc) (xs := q.ss.map sq_) (H' := H') sgc_len imm_sgc (by rw [List.length_map]; exact cd.s) ha'
  have f3 := fun H' ha' => frz_cpr (f := ptc) (xs := q.hs.map pc) (H' := H') ptc_len imm_ptc (by rw [List.length_map]; exact cd.o) ha'
  rw [List.length_map] at f1 f2 f3
  rw [gussetlaw10_WellLess.l0_eq]
  by_cases hh : q.hs.length = 0
  · have g3 : Good K C.length := by
      refine good_of (p := q.pl) (q := q) (ss := q.ss) (hs := q.hs) hq hg hf vj ?_ ?_ ?_
      · rw [List.length_map]; exact f1
      · rw [List.length_map]; exact f2
      · rw [List.length_map]; exact f3
    have e0 : opBin .gtr (.int .i64 (q.hs.length : Int)) (.int .i64 0) = some (.bool false) := by rw [hh]; rfl
    have jj := less_j1 G1 G2 g3
    simp (disch := first | exact dD | fail) only [Wd, W2d, W3d, Nat.reduceAdd, Nat.reduceMul, Nat.reduceSub, fa, hJ, k1, cL, h0, rc39, cc, st, vj, k2, cH, e0]
    exact jj
  · have eR : cpR 6 O q.hs.length = .rs 6 O 0 q.hs.length := if_neg hh
    have e0 : opBin .gtr (.int .i64 (q.hs.length : Int)) (.int .i64 0) = some (.bool true) := by
      show some (AV.bool (decide ((q.hs.length : Int) > 0))) = _
      rw [decide_eq_true (by omega)]
    have sl : opSlc 6 (.rs 6 O 0 q.hs.length) (some (.int .i64 1)) none none = some (.rs 6 O 6 (q.hs.length - 1)) := slc_rsl (a := 1) (by omega) (by omega)
    have d3 := cl.d3 hh
    have ss := fun h id => cpv_s2 (p := q.pl) (h := h) (id := id) (a := cpR 6 P q.ps.length) (b := cpR 3 S' q.ss.length) (c := .rs 6 O 0 q.hs.length) (r := .rs 6 O 6 (q.hs.length - 1)) rfl
    rw [eR] at cH vj
    obtain ⟨o1, o2⟩ := cd.o hh
    have hsub : q.hs.tail.Sublist q.hs := List.tail_sublist q.hs
    have lK : ∀ id, id ≠ C.length → live (K.set C.length (some (cpv q.pl (cpR 6 P q.ps.length) (cpR 3 S' q.ss.length) (.rs 6 O 6 (q.hs.length - 1))))) id = live K id := fun id hid => live_set_ne (Ne.symm hid)
    have hlt := live_lt vj
    have c1 := cl.lp
    have c2 := cl.ps
    have c3 := cl.so
    have g3 : Good (K.set C.length (some (cpv q.pl (cpR 6 P q.ps.length) (cpR 3 S' q.ss.length) (.rs 6 O 6 (q.hs.length - 1))))) C.length := by
      have okq : (⟨q.ps, q.ss, q.hs.tail, q.F, q.G⟩ : Pq).ok := sub_ok hq hq.sg hsub hq.n2
      refine good_of (p := q.pl) (q := q) (ss := q.ss) (hs := q.hs.tail) okq (less_given okq hg (Nat.le_refl _) hsub.length_le) (fine_sub hf (List.Sublist.refl _) hsub) (live_set_self vj) ?_ ?_ ?_
      · intro H' ha'
        rw [List.length_map]
        refine frz_cpr (f := ptc) (xs := q.ps.map pc) (H := K.set C.length _) ptc_len imm_ptc (fun h => ?_) ha' |> fun e => by rw [List.length_map] at e; exact e
        rw [List.length_map] at h
        have := cl.d1 h
        exact ⟨by rw [List.length_set]; exact (cd.p h).1, by rw [lK _ (by omega)]; exact (cd.p h).2⟩
      · intro H' ha'
        rw [List.length_map]
        refine frz_cpr (f := sgc) (xs := q.ss.map sq_) (H := K.set C.length _) sgc_len imm_sgc (fun h => ?_) ha' |> fun e => by rw [List.length_map] at e; exact e
        rw [List.length_map] at h
        have := cl.d2 h
        exact ⟨by rw [List.length_set]; exact (cd.s h).1, by rw [lK _ (by omega)]; exact (cd.s h).2⟩
      · intro H' ha'
        have e : live H' O = some (pcs q.hs) := by rw [ha' O (by rw [List.length_set]; exact o1), lK _ (by omega)]; exact o2
        have el : (pcs q.hs).length = q.hs.length * 6 := pcs_len _
        have et : ((pcs q.hs).drop 6).take ((q.hs.length - 1) * 6) = pcs q.hs.tail := by
          have := cells_cut (n := 1) ptc_len (q.hs.map pc)
          rw [List.length_map, Nat.one_mul, ← List.map_drop, List.drop_one] at this
          exact this
        rw [List.length_map, List.length_tail, fz_rs, e, Option.bind_some, if_pos (by rw [el]; omega), et]
        unfold pcs
        rw [imm_mapM (imm_flat imm_ptc _) (by omega)]
        rfl
    have jj := less_j1 (g1.mono (by rw [List.length_set]; omega) fun id hid => by rw [lK id (by omega)]; exact ha id hid) (g2.mono (by rw [List.length_set]; omega) fun id hid => by rw [lK id (by omega)]; exact ha id hid) g3
    simp (disch := first | exact dD | fail) only [Wd, W2d, W3d, Nat.reduceAdd, Nat.reduceMul, Nat.reduceSub, fa, hJ, k1, cL, h0, rc39, cc, st, vj, k2, cH, e0, sl, ss]
    exact jj
/-- A row of which the first are turned round. -/
def rowU (ss : List Sq) (i : Nat) : List Sq := (ss.reverse.map swS).take i ++ ss.drop i
theorem scs_app (a b : List Sq) : scs (a ++ b) = scs a ++ scs b := by simp [scs]
theorem scs_cons (a : Sq) (b : List Sq) : scs (a :: b) = sgc (sq_ a) ++ scs b := by simp [scs]
theorem scs_len (a : List Sq) : (scs a).length = a.length * 3 := by unfold scs; rw [len_flatMap sgc_len, List.length_map]
theorem rowU_0 {ss : List Sq} : rowU ss 0 = ss := by simp [rowU]
theorem rowU_all {ss : List Sq} : rowU ss ss.length = ss.reverse.map swS := by
  unfold rowU; rw [List.take_of_length_le (by simp), List.drop_length, List.append_nil]
theorem rowU_st {ss : List Sq} {i : Nat} (hi : i < ss.length) {h : Heap} {id : Nat} : stc h 3 id (i * 3) (.agg (sgc (sq_ (swS (sat ss (ss.length - 1 - i)))))) (scs (rowU ss i)) = some (h.set id (some (scs (rowU ss (i + 1))))) := by
  have l1 : (scs ((ss.reverse.map swS).take i)).length = i * 3 := by rw [scs_len, List.length_take, List.length_map, List.length_reverse]; congr 1; omega
  have hl : (scs (rowU ss i)).length = ss.length * 3 := by rw [scs_len]; unfold rowU; simp; omega
  have hi' : i < (ss.reverse.map swS).length := by simp; omega
  have e1 : rowU ss i = (ss.reverse.map swS).take i ++ ss[i] :: ss.drop (i + 1) := by
    unfold rowU; rw [List.drop_eq_getElem_cons hi]
  have e2 : rowU ss (i + 1) = (ss.reverse.map swS).take i ++ swS (sat ss (ss.length - 1 - i)) :: ss.drop (i + 1) := by
    unfold rowU
    rw [List.take_succ_eq_append_getElem hi', List.append_assoc, List.getElem_map, List.getElem_reverse, sat_get (by omega)]; rfl
  rw [stc_agg ⟨sgc_len _, rfl⟩ (by rw [hl]; omega)]
  congr 3
  rw [e1, e2, scs_app, scs_app, List.take_left' l1, scs_cons, scs_cons, ← List.append_assoc, List.drop_left' (by rw [List.length_append, l1, sgc_len]), List.append_assoc]
theorem less_l0 (hq : q.ok) {K : Heap} {J S : Nat} {y6 : AV} {c1 c3 : AV} (h0 : live K 0 = some (plc q.pl)) (hJ : live K J = some (cpv q.pl c1 (cpR 3 S q.ss.length) c3)) (hS0 : 0 < S) (hSJ : S ≠ J) (hS : S < K.length) {RR : Option AV} :
    ∀ (m i : Nat) (H : Heap), i + m = q.ss.length → K.length ≤ H.length → (∀ id, id < K.length → id ≠ S → live H id = live K id) → live H S = some (scs (rowU q.ss i)) →
    (∀ H' : Heap, K.length ≤ H'.length → (∀ id, id < K.length → id ≠ S → live H' id = live K id) → live H' S = some (scs (q.ss.reverse.map swS)) → gussetlaw10_WellLess.l0 (.rp 0 0) y6 (.rp J 0) (.int .i64 (q.ss.length : Int)) H' = RR) →
    gussetlaw10_WellLess.l0 (.rp 0 0) y6 (.rp J 0) (.int .i64 (i : Int)) H = RR := by
  have n2 := hq.n2
  have fa : ∀ k id off, opFaddr k (.rp id off) = some (.rp id (off + k)) := fun _ _ _ => rfl
  have k1 := @cpv_1 q.pl
  intro m
  induction m with
  | zero =>
    intro i H him hl ha hs hR
    obtain rfl : i = q.ss.length := by omega
    rw [rowU_all] at hs
    exact hR H hl ha hs
  | succ m ih =>
    intro i H him hl ha hs hR
    have hi : i < q.ss.length := by omega
    have hJ' := live_lt hJ
    have g0 : live H 0 = some (plc q.pl) := by rw [ha 0 (by omega) (by omega)]; exact h0
    have gJ : live H J = some (cpv q.pl c1 (cpR 3 S q.ss.length) c3) := by rw [ha J hJ' (Ne.symm hSJ)]; exact hJ
    have eR : cpR 3 S q.ss.length = .rs 3 S 0 q.ss.length := if_neg (by omega)
    rw [eR] at gJ
    have at_ := scs_at (ss := q.ss) (i := q.ss.length - 1 - i) (by omega)
    have si : opSidx 3 (.is q.ss.length false (scs q.ss)) (.int .i64 ((q.ss.length : Int) - 1 - (i : Int))) = some (.ip ((scs q.ss).drop ((q.ss.length - 1 - i) * 3))) := by
      have := sidx_is (sz := 3) (n := q.ss.length) (f := false) (cs := scs q.ss) (k := .i64) (z := (q.ss.length : Int) - 1 - (i : Int)) (by omega) (by omega)
      rw [this]
      congr 4
      omega
    have st := fun h id => rowU_st (ss := q.ss) hi (h := h) (id := id)
    unfold sgc sq_ swS at st
    generalize sat q.ss (q.ss.length - 1 - i) = s at at_ st
    obtain ⟨a, b, f⟩ := s
    simp only at at_ st
    have s3 := st_app1 (h := H) (z := [.int .i64 0, .int .i64 0, .bool false]) (v := [.int .i64 (a : Int), .int .i64 (b : Int), .bool f]) (n := 3) rfl ⟨rfl, rfl⟩
    have aJ := fun x => live_app_old (x := x) gJ
    have aS := fun x => live_app_old (x := x) hs
    have sr := sidx_rn (sz := 3) (id := S) (o := 0) hi
    simp only [Nat.zero_add] at sr
    have lss : opBin .lss (.int .i64 (i : Int)) (.int .i64 (q.ss.length : Int)) = some (.bool true) := by
      show some (AV.bool (decide ((i : Int) < (q.ss.length : Int)))) = _
      rw [decide_eq_true (by omega)]
    have lR : opLen false (.rs 3 S 0 q.ss.length) = some (.int .i64 (q.ss.length : Int)) := rfl
    have un_ : ∀ f, opUn .not (.bool f) = some (.bool (!f)) := fun _ => rfl
    rw [gussetlaw10_WellLess.l0_eq]
    simp (disch := first | exact dD | fail) only [Wd, W2d, W3d, Nat.reduceAdd, Nat.reduceMul, Nat.reduceSub, fa, gJ, k1, lR, lss, g0, plq_1, si, at_, s3, aJ, aS, un_, sr, st]
    have hSH : S < H.length := live_lt hs
    exact ih (i + 1) ((H ++ [some [AV.int .i64 (a : Int), AV.int .i64 (b : Int), AV.bool f]]).set S (some (scs (rowU q.ss (i + 1))))) (by omega) (by simp; omega) (fun id h1 h2 => by rw [live_set_ne (Ne.symm h2), live_app_ne (by omega)]; exact ha id h1 h2) (live_set_self (aS _)) hR
/-- A segment less. -/
theorem less_app {n k : Nat} {ss : List Sq} {K : Heap} {S : Nat} (hn : n = ss.length) (hk : k < n) (h2 : n ≤ 100000) (hS : live K S = some (scs ss)) : ∃ K1, opApp K 3 (.rc 3 S 0 k n) (.rc 3 S ((k + 1) * 3) (n - k - 1) (n - k - 1)) = some (.rc 3 S 0 (n - 1) n, K1) ∧ K1.length = K.length ∧ (∀ id, id ≠ S → live K1 id = live K id) ∧ ∃ cs, live K1 S = some cs ∧ cs.length = n * 3 ∧ cs.take ((n - 1) * 3) = scs (ss.take k ++ ss.drop (k + 1)) := by
  have hl : (scs ss).length = n * 3 := by rw [scs_len, hn]
  have el := elems_rc (h := K) (sz := 3) (id := S) (off := (k + 1) * 3) (n := n - k - 1) (k := n - k - 1) hS (by omega) (Nat.le_refl _)
  have cut : ((scs ss).drop ((k + 1) * 3)).take ((n - k - 1) * 3) = scs (ss.drop (k + 1)) := by
    have := cells_cut (n := k + 1) sgc_len (ss.map sq_)
    rw [List.length_map, ← List.map_drop, ← hn] at this
    exact this
  have hc : (scs (ss.drop (k + 1))).all AV.cell = true := by unfold scs; exact ims3 _
  rw [cut] at el
  by_cases h0 : n - k - 1 = 0
  · have ek : k = n - 1 := by omega
    rw [h0] at el ⊢
    refine ⟨K, ?_, rfl, fun _ _ => rfl, scs ss, hS, hl, ?_⟩
    · rw [app_rc0 hS (by omega) (by omega) (by omega) el hc, ek]
    · rw [List.drop_of_length_le (by omega), List.append_nil, ← ek]
      unfold scs
      rw [take_fm sgc_len, List.map_take]
  · have hw : (scs (ss.drop (k + 1))).length = (n - k - 1) * 3 := by rw [scs_len, List.length_drop]; congr 1; omega
    refine ⟨_, app_rc hS (by omega) (by omega) (by omega) el hc h0 |>.trans (by rw [show k + (n - k - 1) = n - 1 by omega]), by simp, fun id hid => live_set_ne (Ne.symm hid), _, live_set_self hS, ?_, ?_⟩
    · rw [splice_mid (by rw [hw]; omega), hl]
    · have e1 : (scs ss).take (k * 3) = scs (ss.take k) := by unfold scs; rw [take_fm sgc_len, List.map_take]
      have l1 : (scs (ss.take k)).length = k * 3 := by rw [scs_len, List.length_take]; congr 1; omega
      unfold splice
      rw [Nat.zero_add, e1, scs_app, List.take_append_of_le_length (by rw [List.length_append, l1, hw]; omega), List.take_of_length_le (by rw [List.length_append, l1, hw]; omega)]
theorem less_j0 (hq : q.ok) (hf : Fine q) (hg : givenF q.pl = (0, 0, 0)) (hs : q.ss.length ≠ 0) {w : Int} (w0 : 0 ≤ w) (w1 : w ≤ 9223372036854775807) : gussetlaw10_WellLess.j0 (.int .i64 w) (.rp 0 0) [some (plc q.pl)] = some (.bool true) := by
  have n2 := hq.n2
  have fa : ∀ k id off, opFaddr k (.rp id off) = some (.rp id (off + k)) := fun _ _ _ => rfl
  have k1 := @cpv_1 q.pl
  obtain ⟨k, ek, hk⟩ : ∃ k : Nat, opBin .rem (.int .i64 w) (.int .i64 (q.ss.length : Int)) = some (.int .i64 (k : Int)) ∧ k < q.ss.length := by
    refine ⟨(w % (q.ss.length : Int)).toNat, ?_, ?_⟩
    · rw [int_rem w0 (by omega), Int.toNat_of_nonneg (Int.emod_nonneg _ (by omega))]
    · have := Int.emod_lt_of_pos w (show (0 : Int) < (q.ss.length : Int) by omega)
      have := Int.emod_nonneg w (show (q.ss.length : Int) ≠ 0 by omega)
      omega
  have h0 : live ([some (plc q.pl)] : Heap) 0 = some (plc q.pl) := rfl
  obtain ⟨C, v, K, P, S, O, cc, st, cd, cl, hl, ha⟩ := less_copy hq [some (plc q.pl)]
  have hl1 : ([some (plc q.pl)] : Heap).length = 1 := rfl
  have a0 : live K 0 = some (plc q.pl) := by rw [ha 0 (by rw [hl1]; omega)]; exact h0
  have eR : cpR 3 S q.ss.length = .rs 3 S 0 q.ss.length := if_neg hs
  have vj := cd.j
  rw [eR] at vj
  have sl1 : opSlcc 3 (.rs 3 S 0 q.ss.length) none (some (.int .i64 (k : Int))) = some (.rc 3 S 0 k q.ss.length) := slcc_lo (by omega) (by omega)
  have sl2 : opSlcc 3 (.rs 3 S 0 q.ss.length) (some (.int .i64 ((k + 1 : Nat) : Int))) none = some (.rc 3 S ((k + 1) * 3) (q.ss.length - k - 1) (q.ss.length - k - 1)) := by
    rw [slcc_hi (by omega) (by omega), Int.toNat_natCast, Nat.zero_add, Nat.sub_sub]
  obtain ⟨K1, ap, hl', ha1, cs, hcs, lcs, ecs⟩ := less_app rfl hk n2 (cd.s hs).2
  have p1 := cl.lp
  have p2 := cl.ps
  have p3 := cl.so
  have p4 := cl.oj
  have d2 := cl.d2 hs
  rw [hl1] at p1
  have b0 : live K1 0 = some (plc q.pl) := by rw [ha1 0 (by omega)]; exact a0
  have bj : live K1 C.length = some (cpv q.pl (cpR 6 P q.ps.length) (.rs 3 S 0 q.ss.length) (cpR 6 O q.hs.length)) := by rw [ha1 _ (by omega)]; exact vj
  have st1 := fun h id => cpv_s1 (p := q.pl) (h := h) (id := id) (a := cpR 6 P q.ps.length) (b := .rs 3 S 0 q.ss.length) (c := cpR 6 O q.hs.length) (r := .rc 3 S 0 (q.ss.length - 1) q.ss.length) rfl
  have hK2 : ∃ K2, K2 = K1.set C.length (some (cpv q.pl (cpR 6 P q.ps.length) (.rc 3 S 0 (q.ss.length - 1) q.ss.length) (cpR 6 O q.hs.length))) := ⟨_, rfl⟩
  obtain ⟨K2, eK2⟩ := hK2
  have l2 : ∀ id, id ≠ C.length → live K2 id = live K1 id := fun id hid => by rw [eK2]; exact live_set_ne (Ne.symm hid)
  have ll2 : K2.length = K.length := by rw [eK2, List.length_set, hl']
  have c0 : live K2 0 = some (plc q.pl) := by rw [l2 0 (by omega)]; exact b0
  have hsub : (q.ss.take k ++ q.ss.drop (k + 1)).Sublist q.ss := by
    have := List.Sublist.append (List.Sublist.refl (q.ss.take k)) (List.drop_sublist_drop_left q.ss (Nat.le_succ k))
    rwa [List.take_append_drop] at this
  have hsl : (q.ss.take k ++ q.ss.drop (k + 1)).length = q.ss.length - 1 := by
    rw [List.length_append, List.length_take, List.length_drop]; omega
  have g1 : Good K2 C.length := by
    have okq : (⟨q.ps, q.ss.take k ++ q.ss.drop (k + 1), q.hs, q.F, q.G⟩ : Pq).ok := sub_ok hq (fun s m => hq.sg s (hsub.subset m)) (List.Sublist.refl _) (by rw [hsl]; omega)
    refine good_of (p := q.pl) (q := q) (ss := q.ss.take k ++ q.ss.drop (k + 1)) (hs := q.hs) okq (less_given okq hg (by rw [hsl]; omega) (Nat.le_refl _)) (fine_sub hf hsub (List.Sublist.refl _)) (by rw [eK2]; exact live_set_self bj) ?_ ?_ ?_
    · intro H' ha'
      rw [List.length_map]
      refine frz_cpr (f := ptc) (xs := q.ps.map pc) (H := K2) ptc_len imm_ptc (fun h => ?_) ha' |> fun e => by rw [List.length_map] at e; exact e
      rw [List.length_map] at h
      have := cl.d1 h
      exact ⟨by rw [ll2]; exact (cd.p h).1, by rw [l2 _ (by omega), ha1 _ (by omega)]; exact (cd.p h).2⟩
    · intro H' ha'
      have e : live H' S = some cs := by rw [ha' S (by rw [ll2]; exact (cd.s hs).1), l2 _ (by omega)]; exact hcs
      rw [fz_rc e (by rw [lcs]; omega), List.drop_zero, ecs, List.length_map, hsl]
      unfold scs
      rw [imm_mapM (imm_flat imm_sgc _) (by omega)]
      rfl
    · intro H' ha'
      rw [List.length_map]
      refine frz_cpr (f := ptc) (xs := q.hs.map pc) (H := K2) ptc_len imm_ptc (fun h => ?_) ha' |> fun e => by rw [List.length_map] at e; exact e
      rw [List.length_map] at h
      have := cl.d3 h
      exact ⟨by rw [ll2]; exact (cd.o h).1, by rw [l2 _ (by omega), ha1 _ (by omega)]; exact (cd.o h).2⟩
  obtain ⟨C', v', K', P', S', O', cc', st', cd', cl', hlK, haK⟩ := less_copy hq K2
  have g1' := g1.mono (Nat.le_of_lt hlK) haK
  have q0 : live K' 0 = some (plc q.pl) := by rw [haK 0 (by have := live_lt c0; exact this)]; exact c0
  have r1 := cl'.lp
  have r2 := cl'.ps
  have r3 := cl'.so
  have r4 := cl'.oj
  have e2 := cl'.d2 hs
  have lK2 : 0 < K2.length := live_lt c0
  have fin : gussetlaw10_WellLess.l0 (.rp 0 0) (.rp C.length 0) (.rp C'.length 0) (.int .i64 0) K' = some (.bool true) := by
    refine less_l0 hq q0 cd'.j (by omega) (by omega) (cd'.s hs).1 q.ss.length 0 K' (by omega) (Nat.le_refl _) (fun _ _ _ => rfl) (by rw [rowU_0]; exact (cd'.s hs).2) fun H' hlH haH hSH => ?_
    have okq : (⟨q.ps, q.ss.reverse.map swS, q.hs, q.F, q.G⟩ : Pq).ok := sub_ok hq (fun s m => by
      obtain ⟨t, mt, rfl⟩ := List.mem_map.1 m
      exact sw_ok (hq.sg t (List.mem_reverse.1 mt))) (List.Sublist.refl _) (by rw [List.length_map, List.length_reverse]; exact n2)
    have jK : live H' C'.length = some (cpv q.pl (cpR 6 P' q.ps.length) (cpR 3 S' q.ss.length) (cpR 6 O' q.hs.length)) := by rw [haH _ (live_lt cd'.j) (by omega)]; exact cd'.j
    have G1 : Good H' C.length := g1.mono (by omega) fun id hid => by rw [haH id (by omega) (by omega)]; exact haK id hid
    have G2 : Good H' C'.length := by
      refine good_of (p := q.pl) (q := q) (ss := q.ss.reverse.map swS) (hs := q.hs) okq (less_given okq hg (by rw [List.length_map, List.length_reverse]; exact Nat.le_refl _) (Nat.le_refl _)) (fine_turn hf) jK ?_ ?_ ?_
      · intro H'' ha'
        rw [List.length_map]
        refine frz_cpr (f := ptc) (xs := q.ps.map pc) (H := H') ptc_len imm_ptc (fun h => ?_) ha' |> fun e => by rw [List.length_map] at e; exact e
        rw [List.length_map] at h
        have := cl'.d1 h
        have := (cd'.p h).1
        exact ⟨by omega, by rw [haH _ (by omega) (by omega)]; exact (cd'.p h).2⟩
      · intro H'' ha'
        have en : q.ss.length = ((q.ss.reverse.map swS).map sq_).length := by simp
        rw [en]
        refine frz_cpr (f := sgc) (H := H') sgc_len imm_sgc (fun h => ⟨?_, hSH⟩) ha'
        exact live_lt hSH
      · intro H'' ha'
        rw [List.length_map]
        refine frz_cpr (f := ptc) (xs := q.hs.map pc) (H := H') ptc_len imm_ptc (fun h => ?_) ha' |> fun e => by rw [List.length_map] at e; exact e
        rw [List.length_map] at h
        have := cl'.d3 h
        have := (cd'.o h).1
        exact ⟨by omega, by rw [haH _ (by omega) (by omega)]; exact (cd'.o h).2⟩
    exact less_hole hq hf hg hs (by rw [haH 0 (by omega) (by omega)]; exact q0) G1 G2 jK
  have lR : opLen false (.is q.ss.length false (scs q.ss)) = some (.int .i64 (q.ss.length : Int)) := rfl
  unfold gussetlaw10_WellLess.j0
  simp (disch := first | exact dD | fail) only [Wd, W2d, W3d, Nat.reduceAdd, Nat.reduceMul, Nat.reduceSub, fa, h0, plq_1, lR, ek, rc39, cc, st, vj, k1, sl1, sl2, ap, b0, bj, st1, ← eK2, c0, cc', st']
  exact fin
end
set_option maxHeartbeats 8000000 in
theorem wellLess_cv (p : Pl) (w : Int) (hw : p.wide) (hb2 : -9223372036854775808 ≤ w ∧ w ≤ 9223372036854775807) : cv gp fid.gussetlaw10_WellLess [.agg (plc p), .int .i64 w] = some (.bool true) := by
  obtain ⟨b, kb, hb⟩ := k_small hw
  obtain ⟨h1, h2⟩ := hb2
  have lv := fun h => live10_by (h := h)
  have fa : ∀ k id off, opFaddr k (.rp id off) = some (.rp id (off + k)) := fun _ _ _ => rfl
  rw [gussetlaw10_WellLess.eq]
  unfold gussetlaw10_WellLess.f
  cases b with
  | false => simp (disch := first | exact dD | fail) only [Wd, W2d, W3d, Nat.reduceAdd, Nat.reduceMul, Nat.reduceSub, rc39, kb, lv]
  | true =>
  obtain ⟨hp, ⟨l1, l2, l3⟩, s1, s2⟩ := hb rfl
  by_cases hg : (givenF p).1 = 0
  rotate_left
  · have kc := fun h => k_wcheck (h := h) fun h => k_firstE (h := h) hp hg
    simp (disch := first | exact dD | fail) only [Wd, W2d, W3d, Nat.reduceAdd, Nat.reduceMul, Nat.reduceSub, rc39, kb, kc, neqT hg, lv]
  obtain ⟨q, rfl, hq, zp, zh, g0⟩ := plan_rat hp s1 s2 hg
  have kc := fun h => k_wcheck (h := h) fun h => k_firstQ (h := h) hq g0
  by_cases he : (firstQ q).1 = 0
  rotate_left
  · simp (disch := first | exact dD | fail) only [Wd, W2d, W3d, Nat.reduceAdd, Nat.reduceMul, Nat.reduceSub, rc39, kb, kc, neqT he, lv]
  rw [he] at kc
  have hf := fine_of hq he
  have lR : opLen false (.is q.ss.length false (scs q.ss)) = some (.int .i64 (q.ss.length : Int)) := rfl
  by_cases hs : q.ss.length = 0
  · have e0 : opBin .eql (.int .i64 (q.ss.length : Int)) (.int .i64 0) = some (.bool true) := by rw [hs]; rfl
    simp (disch := first | exact dD | fail) only [Wd, W2d, W3d, Nat.reduceAdd, Nat.reduceMul, Nat.reduceSub, rc39, kb, kc, neqF, lv, fa, plq_1, lR, e0]
  have e0 : opBin .eql (.int .i64 (q.ss.length : Int)) (.int .i64 0) = some (.bool false) := eqlF (by omega)
  by_cases hn : w < 0
  · have e1 : opBin .lss (.int .i64 w) (.int .i64 0) = some (.bool true) := by
      show some (AV.bool (decide (w < 0))) = _
      rw [decide_eq_true hn]
    have e2 : opBin .add (.int .i64 w) (.int .i64 1) = some (.int .i64 (w + 1)) := int_add (by omega) (by omega)
    have e3 : opUn .neg (.int .i64 (w + 1)) = some (.int .i64 (-(w + 1))) := un_neg (by omega) (by omega)
    have jj := less_j0 hq hf g0 hs (w := -(w + 1)) (by omega) (by omega)
    simp (disch := first | exact dD | fail) only [Wd, W2d, W3d, Nat.reduceAdd, Nat.reduceMul, Nat.reduceSub, rc39, kb, kc, neqF, lv, fa, plq_1, lR, e0, e1, e2, e3]
    exact jj
  · have e1 : opBin .lss (.int .i64 w) (.int .i64 0) = some (.bool false) := by
      show some (AV.bool (decide (w < 0))) = _
      rw [decide_eq_false hn]
    have jj := less_j0 hq hf g0 hs (w := w) (by omega) (by omega)
    simp (disch := first | exact dD | fail) only [Wd, W2d, W3d, Nat.reduceAdd, Nat.reduceMul, Nat.reduceSub, rc39, kb, kc, neqF, lv, fa, plq_1, lR, e0, e1]
    exact jj
end Go.Proofs.YtechbfodaallkaaGreat.Am
