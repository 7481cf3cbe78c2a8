import Derived.Test.YtechbfodaallkaaGreatAmWell15
import Derived.Test.YtechbfodaallkaaGreatTWMoved
/- The law of section 10 on plans moved and drawn larger. -/
set_option linter.unusedVariables false
set_option maxRecDepth 10000
set_option linter.unusedSimpArgs false
namespace Go.Proofs.YtechbfodaallkaaGreat.Am
open Go

theorem sidx_rn {sz id o len n : Nat} (h : n < len) : opSidx sz (.rs sz id o len) (.int .i64 (n : Int)) = some (.rp id (o + n * sz)) := by
  have := sidx_rs (sz := sz) (id := id) (off := o) (k := .i64) (z := (n : Int)) (n := len) (by omega) (by omega)
  simpa using this
theorem len_cpR {sz id n : Nat} : opLen false (cpR sz id n) = some (.int .i64 (n : Int)) := by
  unfold cpR
  by_cases h : n = 0
  · rw [if_pos h, h]; rfl
  · rw [if_neg h]; rfl
theorem pcs_app (a b : List (Rat × Rat)) : pcs (a ++ b) = pcs a ++ pcs b := by simp [pcs]
theorem pcs_cons (a : Rat × Rat) (b : List (Rat × Rat)) : pcs (a :: b) = ptc (pc a) ++ pcs b := by simp [pcs]
/-- A row of which the first n are done. -/
def rowS (f : Rat × Rat → Rat × Rat) (ps : List (Rat × Rat)) (n : Nat) : List (Rat × Rat) := (ps.take n).map f ++ ps.drop n
theorem rowS_0 {f : Rat × Rat → Rat × Rat} {ps : List (Rat × Rat)} : rowS f ps 0 = ps := by simp [rowS]
theorem rowS_all {f : Rat × Rat → Rat × Rat} {ps : List (Rat × Rat)} : rowS f ps ps.length = ps.map f := by simp [rowS]
section
variable {f : Rat × Rat → Rat × Rat} {ps : List (Rat × Rat)} {n : Nat} (hn : n < ps.length)
include hn
theorem rowS_n : rowS f ps n = (ps.take n).map f ++ ps[n] :: ps.drop (n + 1) := by
  unfold rowS; rw [List.drop_eq_getElem_cons hn]
theorem rowS_s : rowS f ps (n + 1) = (ps.take n).map f ++ f ps[n] :: ps.drop (n + 1) := by
  unfold rowS; rw [List.take_succ_eq_append_getElem hn, List.map_append, List.append_assoc]; rfl
theorem rowS_len : (pcs ((ps.take n).map f)).length = n * 6 := by rw [pcs_len, List.length_map, List.length_take]; congr 1; omega
theorem rowS_rd : readCells ((pcs (rowS f ps n)).drop (0 + n * 6)) (some 6) = some (.agg (ptc (pc ps[n]))) := by
  rw [Nat.zero_add, rowS_n hn, pcs_app, List.drop_left' (rowS_len hn), pcs_cons]
  exact Eq.trans rfl rfl
theorem rowS_st {h : Heap} {id : Nat} : stc h 6 id (0 + n * 6) (.agg (ptc (pc (f ps[n])))) (pcs (rowS f ps n)) = some (h.set id (some (pcs (rowS f ps (n + 1))))) := by
  have hl : (pcs (rowS f ps n)).length = ps.length * 6 := by rw [pcs_len]; unfold rowS; simp; omega
  rw [Nat.zero_add, stc_agg ⟨ptc_len _, rfl⟩ (by rw [hl]; omega)]
  congr 3
  rw [rowS_n hn, rowS_s hn, pcs_app, pcs_app, List.take_left' (rowS_len hn), pcs_cons, pcs_cons, ← List.append_assoc, List.drop_left' (by rw [List.length_append, rowS_len hn, ptc_len]), List.append_assoc]
end
section
variable {h : Heap} {a b : Rat × Rat} {k : Rat}
theorem k_mvS (h1 : Rz a.1 20000) (h2 : Rz a.2 20000) (h3 : Rz k 20000) : byVal (callW gp) h fid.gussetref04_Scale [.agg (ptc (pc a)), .agg (rtc (rt k))] = some (.agg (ptc (pc (a.1 * k, a.2 * k)))) := k_4scale h1 h2 h3
theorem k_mvP (h1 : Rz a.1 20000) (h2 : Rz a.2 20000) (h3 : Rz b.1 20000) (h4 : Rz b.2 20000) : byVal (callW gp) h fid.gussetref04_Plus [.agg (ptc (pc a)), .agg (ptc (pc b))] = some (.agg (ptc (pc (a.1 + b.1, a.2 + b.2)))) := k_4plus h1 h2 h3 h4
theorem rc_pt6 {t : PT} : readCells (ptc t) (some 6) = some (.agg (ptc t)) := Eq.trans rfl rfl
theorem rc_pt0 {t : PT} : readCells (ptc t) (some 3) = some (.agg (rtc t.1)) := Eq.trans rfl rfl
theorem rc_pt3 {t : PT} : readCells (List.drop 3 (ptc t)) (some 3) = some (.agg (rtc t.2)) := Eq.trans rfl rfl
theorem rc_r3 {t : RT} : readCells (rtc t) (some 3) = some (.agg (rtc t)) := Eq.trans rfl rfl
end
section
variable {q : Pq} {r : Rat × Rat} {k : Rat}
theorem mv_l0 (hq : q.ok) (z : PsZ q.ps 30) (zr : Rz r.1 30 ∧ Rz r.2 30) (zk : Rz k 30) {e i j : AV} {J : Nat} (hJ : q.ps.length ≠ 0 → J ≠ 6) {RR : Option AV} :
    ∀ (m n : Nat) (H : Heap), n + m = q.ps.length → live H 1 = some (ptc (pc r)) → live H 2 = some (rtc (rt k)) → live H J = some (cpy q.pl 3) → (q.ps.length ≠ 0 → live H 6 = some (pcs (rowS (mvR k r.1 r.2) q.ps n))) →
    (∀ H', (∀ id, (q.ps.length ≠ 0 → id ≠ 6) → live H' id = live H id) → (q.ps.length ≠ 0 → live H' 6 = some (pcs (q.ps.map (mvR k r.1 r.2)))) → gussetlaw10_WellMoved.l1 (.rp 1 0) (.rp 2 0) e i j (.rp J 0) (.int .i64 0) H' = RR) →
    gussetlaw10_WellMoved.l0 (.rp 1 0) (.rp 2 0) e i j (.rp J 0) (.int .i64 (n : Int)) H = RR := by
  have n1 := hq.n1
  have fa : ∀ k id off, opFaddr k (.rp id off) = some (.rp id (off + k)) := fun _ _ _ => rfl
  have el : q.pl.pts.length = q.ps.length := List.length_map ..
  have c0 : readCells (cpy q.pl 3) none = some (cpR 6 6 q.ps.length) := by
    rw [← el]; exact cpv_0
  intro m
  induction m with
  | zero =>
    intro n H hnm h1 h2 hJJ h6 hR
    obtain rfl : n = q.ps.length := by omega
    rw [gussetlaw10_WellMoved.l0_eq]
    simp (disch := first | exact dD | fail) only [Wd, W2d, W3d, Nat.reduceAdd, Nat.reduceMul, Nat.reduceSub, fa, hJJ, c0, len_cpR]
    exact hR H (fun _ _ => rfl) (fun h0 => by rw [h6 h0, rowS_all])
  | succ m ih =>
    intro n H hnm h1 h2 hJJ h6 hR
    have hn : n < q.ps.length := by omega
    have h6 := h6 (by omega)
    have hJ := hJ (by omega)
    have eR : cpR 6 6 q.ps.length = .rs 6 6 0 q.ps.length := if_neg (by omega)
    rw [eR] at c0
    have zx := z (q.ps[n]) (List.getElem_mem hn)
    have sx := fun h => k_mvS (h := h) (k := k) (zx.1.mono (by omega)) (zx.2.mono (by omega)) (zk.mono (by omega))
    have px := fun h => k_mvP (h := h) (a := (q.ps[n].1 * k, q.ps[n].2 * k)) (b := r) ((zx.1.mul zk).mono (by omega)) ((zx.2.mul zk).mono (by omega)) (zr.1.mono (by omega)) (zr.2.mono (by omega))
    have rd := rowS_rd (f := mvR k r.1 r.2) hn
    have st : ∀ h id, stc h 6 id (n * 6) (.agg (ptc (pc (q.ps[n].1 * k + r.1, q.ps[n].2 * k + r.2)))) (pcs (rowS (mvR k r.1 r.2) q.ps n)) = some (h.set id (some (pcs (rowS (mvR k r.1 r.2) q.ps (n + 1))))) := fun h id => by
      have := rowS_st (f := mvR k r.1 r.2) (h := h) (id := id) hn
      rw [Nat.zero_add] at this; exact this
    have si := sidx_rn (sz := 6) (id := 6) (o := 0) hn
    simp only [Nat.zero_add] at rd si
    rw [gussetlaw10_WellMoved.l0_eq]
    simp (disch := first | exact dD | fail) only [Wd, W2d, W3d, Nat.reduceAdd, Nat.reduceMul, Nat.reduceSub, fa, hJJ, c0, si, h6, rd, h2, rc_r3, sx, h1, rc_pt6, px, st]
    have g := ih (n + 1) (H.set 6 (some (pcs (rowS (mvR k r.1 r.2) q.ps (n + 1))))) (by omega) (by rw [live_set_ne (by omega)]; exact h1) (by rw [live_set_ne (by omega)]; exact h2) (by rw [live_set_ne (Ne.symm hJ)]; exact hJJ) (fun _ => live_set_self h6) (fun H' ha hb => hR H' (fun id hid => by rw [ha id hid, live_set_ne (Ne.symm (hid (by omega)))]) hb)
    exact g
theorem mvQ_ok (hq : q.ok) (z : PsZ q.ps 30) (zh : PsZ q.hs 30) (zr : Rz r.1 30 ∧ Rz r.2 30) (zk : Rz k 30) : (mvQ k r.1 r.2 q).ok := by
  have mz : ∀ {l : List (Rat × Rat)}, PsZ l 30 → PsZ (l.map (mvR k r.1 r.2)) 100 := fun {l} hl x hx => by
    obtain ⟨y, hy, rfl⟩ := List.mem_map.1 hx
    exact ⟨(((hl y hy).1.mul zk).add zr.1).mono (by omega), (((hl y hy).2.mul zk).add zr.2).mono (by omega)⟩
  have e : (mvQ k r.1 r.2 q).ps.length = q.ps.length := List.length_map ..
  have e3 : (mvQ k r.1 r.2 q).hs.length = q.hs.length := List.length_map ..
  exact ⟨mz z, mz zh, by rw [e]; exact hq.sg, hq.F, hq.G, by rw [e]; exact hq.n1, hq.n2, by rw [e3]; exact hq.n3⟩
theorem given_zero2 {p : Pl} (h : (givenF p).1 = 0) : p.pts.length ≤ 40 ∧ p.segs.length ≤ 60 ∧ p.holes.length ≤ 10 ∧ ask6 p.F = 0 ∧ ask6 p.G = 0 := by
  unfold givenF at *
  by_cases q1 : 40 < p.pts.length ∨ 60 < p.segs.length ∨ 10 < p.holes.length
  · rw [if_pos q1] at h; exact absurd h (show ¬ (5 : Int) = 0 by decide)
  rw [if_neg q1] at *
  by_cases q2 : firstE (p.pts.map askc) ≠ 0
  · rw [if_pos q2] at h; exact absurd h q2
  rw [if_neg q2] at *
  by_cases q3 : firstE (p.holes.map askc) ≠ 0
  · rw [if_pos q3] at h; exact absurd h q3
  rw [if_neg q3] at *
  by_cases q4 : ask6 p.F ≠ 0 ∨ ask6 p.G ≠ 0
  · rw [if_pos q4] at h; exact absurd h (show ¬ (1 : Int) = 0 by decide)
  exact ⟨by omega, by omega, by omega, by omega, by omega⟩
theorem mvQ_given (hq : q.ok) (z : PsZ q.ps 30) (zh : PsZ q.hs 30) (zr : Rz r.1 30 ∧ Rz r.2 30) (zk : Rz k 30) (hg : givenF q.pl = (0, 0, 0)) : givenF (mvQ k r.1 r.2 q).pl = (0, 0, 0) := by
  obtain ⟨h1, h2, h3, h4, h5⟩ := given_zero2 (congrArg Prod.fst hg)
  unfold Pq.pl at h1 h2 h3
  simp only [List.length_map] at h1 h2 h3
  refine given_ok (mvQ_ok hq z zh zr zk) ?_ h2 ?_ h4 h5 <;> unfold mvQ <;> simp only [List.length_map] <;> omega
/-- Where the copy's holes stand. -/
def iH (q : Pq) : Nat := 3 + 3 + (cpB1 q.pl).length + (cpB2 q.pl).length
def iS (q : Pq) : Nat := 3 + 3 + (cpB1 q.pl).length
theorem mv_l1 (hq : q.ok) (zp : PsZ q.ps 30) (z : PsZ q.hs 30) (zr : Rz r.1 30 ∧ Rz r.2 30) (zk : Rz k 30) (hk : 0 < k) (hg : givenF q.pl = (0, 0, 0)) {J : Nat} (hJ : q.hs.length ≠ 0 → J ≠ iH q) (h6' : q.ps.length ≠ 0 → iH q ≠ 6) (hS : q.ss.length ≠ 0 → iH q ≠ iS q) :
    ∀ (m n : Nat) (H : Heap), n + m = q.hs.length → live H 1 = some (ptc (pc r)) → live H 2 = some (rtc (rt k)) → live H J = some (cpy q.pl 3) → (q.ps.length ≠ 0 → live H 6 = some (pcs (q.ps.map (mvR k r.1 r.2)))) → (q.ss.length ≠ 0 → live H (iS q) = some (scs q.ss)) → (q.hs.length ≠ 0 → live H (iH q) = some (pcs (rowS (mvR k r.1 r.2) q.hs n))) →
    gussetlaw10_WellMoved.l1 (.rp 1 0) (.rp 2 0) (.int .i64 (firstQ q).1) (.int .i64 (firstQ q).2.1) (.int .i64 (firstQ q).2.2) (.rp J 0) (.int .i64 (n : Int)) H = some (.bool true) := by
  have n1 := hq.n3
  have fa : ∀ k id off, opFaddr k (.rp id off) = some (.rp id (off + k)) := fun _ _ _ => rfl
  have el : q.pl.holes.length = q.hs.length := List.length_map ..
  have c2 : readCells (List.drop 2 (cpy q.pl 3)) none = some (cpR 6 (iH q) q.hs.length) := by
    rw [← el]; exact cpv_2
  have rv : readCells (cpy q.pl 3) (some 39) = some (.agg (cpy q.pl 3)) := cpv_rc
  intro m
  induction m with
  | zero =>
    intro n H hnm h1 h2 hJJ h6 hs hh
    obtain rfl : n = q.hs.length := by omega
    have lv := live10_by (h := H)
    have fz : freeze H (.agg (cpy q.pl 3)) = some (.agg (plc (mvQ k r.1 r.2 q).pl)) := by
      have e1 : ((q.ps.map (mvR k r.1 r.2)).map pc).length = q.pl.pts.length := by unfold Pq.pl; simp
      have e3 : ((q.hs.map (mvR k r.1 r.2)).map pc).length = q.pl.holes.length := by unfold Pq.pl; simp
      refine frz_cpv (p := q.pl) (ps := (q.ps.map (mvR k r.1 r.2)).map pc) (ss := q.ss.map sq_) (hs := (q.hs.map (mvR k r.1 r.2)).map pc) ?_ ?_ ?_
      · rw [← e1]
        refine frz_rowc ptc_len imm_ptc fun h0 => ?_
        rw [e1] at h0
        exact h6 (by rw [← show q.pl.pts.length = q.ps.length from List.length_map ..]; exact h0)
      · refine frz_rowc sgc_len imm_sgc fun h0 => ?_
        exact hs (by rw [← show q.pl.segs.length = q.ss.length from List.length_map ..]; exact h0)
      · rw [← e3]
        refine frz_rowc ptc_len imm_ptc fun h0 => ?_
        rw [e3] at h0
        have := hh (by rw [← el]; exact h0)
        rw [rowS_all] at this
        exact this
    have cf := c_firstQ (mvQ_ok hq zp z zr zk) (mvQ_given hq zp z zr zk hg) fz
    rw [mv_first hq hk] at cf
    generalize firstQ q = F at *
    obtain ⟨e, i, j⟩ := F
    unfold fdt at cf
    simp only at cf
    rw [gussetlaw10_WellMoved.l1_eq]
    simp (disch := first | exact dD | fail) only [Wd, W2d, W3d, Nat.reduceAdd, Nat.reduceMul, Nat.reduceSub, fa, hJJ, c2, len_cpR, rv, cf, eqli, lv]
  | succ m ih =>
    intro n H hnm h1 h2 hJJ h6 hs hh
    have hn : n < q.hs.length := by omega
    have hh := hh (by omega)
    have hJ := hJ (by omega)
    have eR : cpR 6 (iH q) q.hs.length = .rs 6 (iH q) 0 q.hs.length := if_neg (by omega)
    rw [eR] at c2
    have zx := z (q.hs[n]) (List.getElem_mem hn)
    have sx := fun h => k_mvS (h := h) (k := k) (zx.1.mono (by omega)) (zx.2.mono (by omega)) (zk.mono (by omega))
    have px := fun h => k_mvP (h := h) (a := (q.hs[n].1 * k, q.hs[n].2 * k)) (b := r) ((zx.1.mul zk).mono (by omega)) ((zx.2.mul zk).mono (by omega)) (zr.1.mono (by omega)) (zr.2.mono (by omega))
    have rd := rowS_rd (f := mvR k r.1 r.2) hn
    have st : ∀ h id, stc h 6 id (n * 6) (.agg (ptc (pc (q.hs[n].1 * k + r.1, q.hs[n].2 * k + r.2)))) (pcs (rowS (mvR k r.1 r.2) q.hs n)) = some (h.set id (some (pcs (rowS (mvR k r.1 r.2) q.hs (n + 1))))) := fun h id => by
      have := rowS_st (f := mvR k r.1 r.2) (h := h) (id := id) hn
      rw [Nat.zero_add] at this; exact this
    have si := sidx_rn (sz := 6) (id := iH q) (o := 0) hn
    simp only [Nat.zero_add] at rd si
    rw [gussetlaw10_WellMoved.l1_eq]
    simp (disch := first | exact dD | fail) only [Wd, W2d, W3d, Nat.reduceAdd, Nat.reduceMul, Nat.reduceSub, fa, hJJ, c2, si, hh, rd, h2, rc_r3, sx, h1, rc_pt6, px, st]
    have i6 : 6 ≤ iH q := by unfold iH; omega
    have g := ih (n + 1) (H.set (iH q) (some (pcs (rowS (mvR k r.1 r.2) q.hs (n + 1))))) (by omega) (by rw [live_set_ne (by omega)]; exact h1) (by rw [live_set_ne (by omega)]; exact h2) (by rw [live_set_ne (Ne.symm hJ)]; exact hJJ) (fun h0 => by rw [live_set_ne (h6' h0)]; exact h6 h0) (fun h0 => by rw [live_set_ne (hS h0)]; exact hs h0) (fun _ => live_set_self hh)
    exact g
theorem cpB1_len : (cpB1 q.pl).length = if q.ps.length = 0 then 0 else 1 := by
  have : q.pl.pts.length = q.ps.length := List.length_map ..
  unfold cpB1 cpB; rw [this]; split <;> rfl
theorem cpB2_len : (cpB2 q.pl).length = if q.ss.length = 0 then 0 else 1 := by
  have : q.pl.segs.length = q.ss.length := List.length_map ..
  unfold cpB2 cpB; rw [this]; split <;> rfl
theorem cpB3_len : (cpB3 q.pl).length = if q.hs.length = 0 then 0 else 1 := by
  have : q.pl.holes.length = q.hs.length := List.length_map ..
  unfold cpB3 cpB; rw [this]; split <;> rfl
theorem cpH_len : (cpH q.pl 3).length = 3 + (cpB1 q.pl).length + (cpB2 q.pl).length + (cpB3 q.pl).length := by
  unfold cpH; simp only [List.length_cons, List.length_append]; omega
/-- Both loops, behind the copy. -/
theorem mv_both (hq : q.ok) (zp : PsZ q.ps 30) (z : PsZ q.hs 30) (zr : Rz r.1 30 ∧ Rz r.2 30) (zk : Rz k 30) (hk : 0 < k) (hg : givenF q.pl = (0, 0, 0)) :
    gussetlaw10_WellMoved.l0 (.rp 1 0) (.rp 2 0) (.int .i64 (firstQ q).1) (.int .i64 (firstQ q).2.1) (.int .i64 (firstQ q).2.2) (.rp ([some (plc q.pl), some (ptc (pc r)), some (rtc (rt k))] ++ cpH q.pl 3).length 0) (.int .i64 0) (([some (plc q.pl), some (ptc (pc r)), some (rtc (rt k))] ++ cpH q.pl 3) ++ [some (cpy q.pl 3)]) = some (.bool true) := by
  have b1 := cpB1_len (q := q)
  have b2 := cpB2_len (q := q)
  have b3 := cpB3_len (q := q)
  have bl := cpH_len (q := q)
  have el : ([some (plc q.pl), some (ptc (pc r)), some (rtc (rt k))] ++ cpH q.pl 3).length = 6 + (cpB1 q.pl).length + (cpB2 q.pl).length + (cpB3 q.pl).length := by
    rw [List.length_append, bl]; simp only [List.length_cons, List.length_nil]; omega
  have vJ : live (([some (plc q.pl), some (ptc (pc r)), some (rtc (rt k))] ++ cpH q.pl 3) ++ [some (cpy q.pl 3)]) (6 + (cpB1 q.pl).length + (cpB2 q.pl).length + (cpB3 q.pl).length) = some (cpy q.pl 3) := by
    rw [← el]; exact live_app_self
  have e : (([some (plc q.pl), some (ptc (pc r)), some (rtc (rt k))] ++ cpH q.pl 3) ++ [some (cpy q.pl 3)]) = [some (plc q.pl), some (ptc (pc r)), some (rtc (rt k))] ++ (some (plc q.pl) :: some (cpy q.pl 3) :: some (cpy q.pl 3) :: (cpB1 q.pl ++ (cpB2 q.pl ++ (cpB3 q.pl ++ [some (cpy q.pl 3)])))) := by
    unfold cpH; simp
  have v6 : q.ps.length ≠ 0 → live (([some (plc q.pl), some (ptc (pc r)), some (rtc (rt k))] ++ cpH q.pl 3) ++ [some (cpy q.pl 3)]) 6 = some (pcs q.ps) := fun h0 => by
    rw [e]; exact lv_cp1 (hh := [_, _, _]) (by rw [show q.pl.pts.length = q.ps.length from List.length_map ..]; exact h0)
  have vS : q.ss.length ≠ 0 → live (([some (plc q.pl), some (ptc (pc r)), some (rtc (rt k))] ++ cpH q.pl 3) ++ [some (cpy q.pl 3)]) (iS q) = some (scs q.ss) := fun h0 => by
    rw [e]; exact lv_cp2 (hh := [_, _, _]) (by rw [show q.pl.segs.length = q.ss.length from List.length_map ..]; exact h0)
  have vH : q.hs.length ≠ 0 → live (([some (plc q.pl), some (ptc (pc r)), some (rtc (rt k))] ++ cpH q.pl 3) ++ [some (cpy q.pl 3)]) (iH q) = some (pcs q.hs) := fun h0 => by
    rw [e]; exact lv_cp3 (hh := [_, _, _]) (by rw [show q.pl.holes.length = q.hs.length from List.length_map ..]; exact h0)
  have v1 : live (([some (plc q.pl), some (ptc (pc r)), some (rtc (rt k))] ++ cpH q.pl 3) ++ [some (cpy q.pl 3)]) 1 = some (ptc (pc r)) := rfl
  have v2 : live (([some (plc q.pl), some (ptc (pc r)), some (rtc (rt k))] ++ cpH q.pl 3) ++ [some (cpy q.pl 3)]) 2 = some (rtc (rt k)) := rfl
  rw [el]
  generalize (([some (plc q.pl), some (ptc (pc r)), some (rtc (rt k))] ++ cpH q.pl 3) ++ [some (cpy q.pl 3)]) = H at *
  have j6 : q.ps.length ≠ 0 → 6 + (cpB1 q.pl).length + (cpB2 q.pl).length + (cpB3 q.pl).length ≠ 6 := fun h0 => by rw [if_neg h0] at b1; omega
  have jH : q.hs.length ≠ 0 → 6 + (cpB1 q.pl).length + (cpB2 q.pl).length + (cpB3 q.pl).length ≠ iH q := fun h0 => by rw [if_neg h0] at b3; unfold iH; omega
  have hH6 : q.ps.length ≠ 0 → iH q ≠ 6 := fun h0 => by rw [if_neg h0] at b1; unfold iH; omega
  have hHS : q.ss.length ≠ 0 → iH q ≠ iS q := fun h0 => by rw [if_neg h0] at b2; unfold iH iS; omega
  have hS6 : q.ps.length ≠ 0 → iS q ≠ 6 := fun h0 => by rw [if_neg h0] at b1; unfold iS; omega
  refine mv_l0 hq zp zr zk j6 q.ps.length 0 H (by omega) v1 v2 vJ (fun h0 => by rw [rowS_0]; exact v6 h0) fun H' ha h6 => ?_
  refine mv_l1 hq zp z zr zk hk hg jH hH6 hHS q.hs.length 0 H' (by omega) ?_ ?_ ?_ h6 ?_ ?_
  · rw [ha 1 (fun _ => by omega)]; exact v1
  · rw [ha 2 (fun _ => by omega)]; exact v2
  · rw [ha _ j6]; exact vJ
  · intro h0; rw [ha _ hS6]; exact vS h0
  · intro h0; rw [ha _ hH6, rowS_0]; exact vH h0
end
theorem askc_v (p : PT) : askc p = 0 ∨ askc p = 1 ∨ askc p = 5 := by
  have hr : ∀ (s : Bool) (m d : List Nat), rchk s m d = 0 ∨ rchk s m d = 1 ∨ rchk s m d = 5 := fun s m d => by
    unfold rchk
    split
    · exact .inr (.inr rfl)
    · split
      · exact .inl rfl
      · exact .inr (.inl rfl)
  unfold askc pchk RT.chk
  split
  · exact .inr (.inr rfl)
  · split <;> exact hr _ _ _
theorem firstE_v : ∀ {l : List Int}, (∀ x ∈ l, x = 0 ∨ x = 1 ∨ x = 5) → firstE l = 0 ∨ firstE l = 1 ∨ firstE l = 5
  | [], _ => .inl rfl
  | x :: l, h => by
    unfold firstE
    split
    · exact firstE_v fun y hy => h y (List.mem_cons_of_mem _ hy)
    · exact h x (List.mem_cons_self ..)
theorem given_v (p : Pl) : (givenF p).1 = 0 ∨ (givenF p).1 = 1 ∨ (givenF p).1 = 5 := by
  have f : ∀ l : List PT, firstE (l.map askc) = 0 ∨ firstE (l.map askc) = 1 ∨ firstE (l.map askc) = 5 := fun l => firstE_v fun x hx => by
    obtain ⟨t, _, rfl⟩ := List.mem_map.1 hx
    exact askc_v t
  unfold givenF
  split
  · exact .inr (.inr rfl)
  split
  · exact f _
  split
  · exact f _
  split
  · exact .inr (.inl rfl)
  split
  · exact .inr (.inl rfl)
  · exact .inl rfl
end Go.Proofs.YtechbfodaallkaaGreat.Am
