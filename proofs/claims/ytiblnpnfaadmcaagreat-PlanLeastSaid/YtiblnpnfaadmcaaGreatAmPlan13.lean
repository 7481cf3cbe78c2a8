import Derived.Test.YtiblnpnfaadmcaaGreatAmPlan12
import Derived.Test.YtiblnpnfaadmcaaGreatTWChecks
/- Section 09: the reference's Least2; a plan is the same as itself. -/
set_option linter.unusedVariables false
set_option maxRecDepth 10000
set_option linter.unusedSimpArgs false
namespace Go.Proofs.YtiblnpnfaadmcaaGreat.Am
open Go

section
variable {h : Heap} {ps : List (Rat × Rat)} {ss : List Sq} {R : Option AV}
set_option maxHeartbeats 8000000 in
theorem rl_l3 (hz : PZ ps) (hsv : SV ps.length ss) (hn : ps.length ≤ 1000) (hm : ss.length ≤ 1000) {f g : Bool} : ∀ (n i : Nat) (H : Heap) (m : Rat), i + n = ss.length → LV H m →
  zf0n.l3 (.is ps.length f (pcs ps)) (.is ss.length g (scs ss)) (.rp 0 0) (.rp 1 0) (.int .i64 (i : Int)) H = some (ra (((List.range' i n).flatMap (row2 ps ss)).foldl minQ m)) := by
 intro n
 induction n with
 | zero =>
  intro i H m hk e
  have lk : opBin .lss (.int .i64 (i : Int)) (.int .i64 (ss.length : Int)) = some (.bool false) := lssF (by omega)
  have hs := zygk (a := .bool (decide (m.num < 0))) (b := str (nb m.num.natAbs)) (c := str (nb m.den)) rfl e.a rfl
  have gl : live (H.set 0 (some (rcl m))) 0 = some (rcl m) := by rw [zyag (zyae e.a), if_pos rfl]
  rw [st_rp] at hs
  rw [zf0n.l3_eq]
  simp (disch := first | exact dD | fail) only [Wd, W2d, W3d, Nat.reduceAdd, Nat.reduceMul, Nat.reduceSub, lk, e.b, zyel, hs, gl]
  rfl
 | succ n ih =>
  intro i H m hk e
  have hi : i < ss.length := by omega
  rw [zyei, List.flatMap_cons, zy5t]
  have lk : opBin .lss (.int .i64 (i : Int)) (.int .i64 (ss.length : Int)) = some (.bool true) := lssT (by omega)
  have g := rl_l4 (R := some (ra (((List.range' (i + 1) n).flatMap (row2 ps ss)).foldl minQ ((row2 ps ss i).foldl minQ m)))) (f := f) (g := g) hz hsv hn hm hi i 0 H m (by omega) e (fun H1 e1 => ih (i + 1) H1 _ (by omega) e1)
  rw [zf0n.l3_eq]
  simp (disch := first | exact dD | fail) only [Wd, W2d, W3d, Nat.reduceAdd, Nat.reduceMul, Nat.reduceSub, lk]
  exact g
set_option maxHeartbeats 8000000 in
theorem k_rleast (hz : PZ ps) (hsv : SV ps.length ss) (h2 : 2 ≤ ps.length) (hn : ps.length ≤ 1000) (hm : ss.length ≤ 1000) : byVal (callW gp) h fid.zf0n [.is ps.length false (pcs ps), .is ss.length false (scs ss)] = some (ra (zy9j ps ss)) := zy1m (zy74 zy7e zy7f) (by
 have i0 : 0 < ps.length := by omega
 have i1 : 1 < ps.length := by omega
 have s1 : zydh 6 (.is ps.length false (pcs ps)) (.int .i64 0) = some (.ip ((pcs ps).drop (0 * 6))) := sidxN i0
 have s2 : zydh 6 (.is ps.length false (pcs ps)) (.int .i64 1) = some (.ip ((pcs ps).drop (1 * 6))) := sidxN i1
 have r1 := zye4 i0
 have r2 := zye4 i1
 rw [Nat.zero_mul] at s1 r1
 rw [Nat.one_mul] at s2 r2
 rw [List.drop_zero] at s1 r1
 obtain ⟨z1, z2⟩ := hz 0 i0
 obtain ⟨z3', z4⟩ := hz 1 i1
 have hd : Rz (dF ps 0 1) 1500 := zy5c z1 z2 z3' z4
 have kf : ∀ h, byVal (callW gp) h fid.zf0o [pa (px ps 0) (py ps 0), pa (px ps 1) (py ps 1)] = some (ra (dF ps 0 1)) := fun h => zy8s (h := h) (z1.mono (by omega)) (z2.mono (by omega)) (z3'.mono (by omega)) (z4.mono (by omega))
 have st : zydm [some z3, some z3] 3 (.rp 1 0) (ra (dF ps 0 1)) = some [some z3, some (rcl (dF ps 0 1))] := Eq.trans rfl rfl
 have e : LV [some z3, some (rcl (dF ps 0 1))] (dF ps 0 1) := ⟨rfl, rfl, hd.mono (by omega)⟩
 have g := rl_l0 (R := some (ra (zy9j ps ss))) (f := false) (g := false) hz hsv hn hm ps.length 0 _ _ (by omega) e (fun H1 e1 => by
  rw [← least_ref h2]
  unfold allR rows2
  rw [zy5t]
  exact rl_l3 hz hsv hn hm ss.length 0 H1 _ (by omega) e1)
 rw [zf0n.eq]
 unfold zf0n.f
 rw [st_rp] at st
 have st' : stc [some [.bool false, .str ⟨#[]⟩, .str ⟨#[]⟩], some [.bool false, .str ⟨#[]⟩, .str ⟨#[]⟩]] 3 1 0 (ra (dF ps 0 1)) [.bool false, .str ⟨#[]⟩, .str ⟨#[]⟩] = some [some z3, some (rcl (dF ps 0 1))] := Eq.trans rfl rfl
 simp (disch := first | exact dD | fail) only [Wd, W2d, W3d, Nat.reduceAdd, Nat.reduceMul, Nat.reduceSub, s1, s2, r1, r2, kf, st']
 exact g)
theorem eqc_r {t : RT} (ht : t.ok) {L : List LK} {l r : List AV} : zy4n (.b :: .s :: .s :: L) (.bool t.s :: str t.m :: str t.d :: l) (.bool t.s :: str t.m :: str t.d :: r) = zy4n L l r := by
 rw [zy4o, if_pos rfl, zy4p ht.1 ht.1, if_pos rfl, zy4p ht.2 ht.2, if_pos rfl]
theorem zyc2 {L : List LK} {xs : List AV} (hl : xs.length = L.length) (h : zy4n L xs xs = some true) : opEqa true L (.agg xs) (.agg xs) = some (.bool false) := by
 unfold opEqa
 simp only [hl, h, and_self, if_true]
 rfl
theorem neqa_pt {t : PT} (ht : t.ok) : opEqa true [.b, .s, .s, .b, .s, .s] (.agg (ptc t)) (.agg (ptc t)) = some (.bool false) := zyc2 rfl (by
 show zy4n _ (.bool t.1.s :: str t.1.m :: str t.1.d :: .bool t.2.s :: str t.2.m :: str t.2.d :: []) (.bool t.1.s :: str t.1.m :: str t.1.d :: .bool t.2.s :: str t.2.m :: str t.2.d :: []) = _
 rw [eqc_r ht.1, eqc_r ht.2]; rfl)
theorem neqa_sg {s : Sg} : opEqa true [.i, .i, .b] (.agg [.int .i64 s.a, .int .i64 s.b, .bool s.f]) (.agg [.int .i64 s.a, .int .i64 s.b, .bool s.f]) = some (.bool false) := zyc2 rfl (by
 unfold zy4n
 simp [zy4n])
theorem samep_l0 {xs : List PT} {f g : Bool} (hb : ∀ t ∈ xs, t.ok) (hn : xs.length ≤ 100000) : ∀ (m i : Nat), i + m = xs.length → zf0k.l0 (.is xs.length f (xs.flatMap ptc)) (.is xs.length g (xs.flatMap ptc)) (.int .i64 (i : Int)) = some (.bool true) := by
 intro m
 induction m with
 | zero =>
  intro i him
  rw [zf0k.l0_eq]
  simp (disch := first | exact dD | fail) only [Wd, W2d, W3d, Nat.reduceAdd, Nat.reduceMul, Nat.reduceSub]
 | succ m ih =>
  intro i him
  rw [zf0k.l0_eq]
  have hi : i < xs.length := by omega
  have ht := hb _ (List.getElem_mem hi)
  have e : (xs.flatMap ptc).drop (i * 6) = .bool xs[i].1.s :: str xs[i].1.m :: str xs[i].1.d :: .bool xs[i].2.s :: str xs[i].2.m :: str xs[i].2.d :: (xs.drop (i + 1)).flatMap ptc := by
   rw [zy4f zye8, List.drop_eq_getElem_cons hi, List.flatMap_cons]; rfl
  have ne := neqa_pt ht
  unfold ptc rtc at ne
  simp only [List.cons_append, List.nil_append] at ne
  simp (disch := first | exact dD | fail) only [Wd, W2d, W3d, Nat.reduceAdd, Nat.reduceMul, Nat.reduceSub, e, ne]
  exact ih (i + 1) (by omega)
theorem samep_cv {xs : List PT} (hb : ∀ t ∈ xs, t.ok) (hn : xs.length ≤ 100000) : cv gp fid.zf0k [.is xs.length false (xs.flatMap ptc), .is xs.length false (xs.flatMap ptc)] = some (.bool true) := by
 rw [zf0k.eq]
 unfold zf0k.f
 have l := samep_l0 (f := false) (g := false) hb hn xs.length 0 (by omega)
 simp (disch := first | exact dD | fail) only [Wd, W2d, W3d, Nat.reduceAdd, Nat.reduceMul, Nat.reduceSub]
 exact l
theorem sames_l0 {xs : List Sg} {f g : Bool} (hn : xs.length ≤ 100000) : ∀ (m i : Nat), i + m = xs.length → zf0l.l0 (.is xs.length f (xs.flatMap sgc)) (.is xs.length g (xs.flatMap sgc)) (.int .i64 (i : Int)) = some (.bool true) := by
 intro m
 induction m with
 | zero =>
  intro i him
  rw [zf0l.l0_eq]
  simp (disch := first | exact dD | fail) only [Wd, W2d, W3d, Nat.reduceAdd, Nat.reduceMul, Nat.reduceSub]
 | succ m ih =>
  intro i him
  rw [zf0l.l0_eq]
  have hi : i < xs.length := by omega
  have e : (xs.flatMap sgc).drop (i * 3) = .int .i64 xs[i].a :: .int .i64 xs[i].b :: .bool xs[i].f :: (xs.drop (i + 1)).flatMap sgc := by
   rw [zy4f zyg0, List.drop_eq_getElem_cons hi, List.flatMap_cons]; rfl
  have ne := neqa_sg (s := xs[i])
  simp (disch := first | exact dD | fail) only [Wd, W2d, W3d, Nat.reduceAdd, Nat.reduceMul, Nat.reduceSub, e, ne]
  exact ih (i + 1) (by omega)
theorem sames_cv {xs : List Sg} (hn : xs.length ≤ 100000) : cv gp fid.zf0l [.is xs.length false (xs.flatMap sgc), .is xs.length false (xs.flatMap sgc)] = some (.bool true) := by
 rw [zf0l.eq]
 unfold zf0l.f
 have l := sames_l0 (f := false) (g := false) hn xs.length 0 (by omega)
 simp (disch := first | exact dD | fail) only [Wd, W2d, W3d, Nat.reduceAdd, Nat.reduceMul, Nat.reduceSub]
 exact l
def CpR (H : Heap) (y : AV) (sz n : Nat) (cs : List AV) : Prop := (y = .is 0 true [] ∧ n = 0 ∧ cs = []) ∨ ∃ id, y = .rs sz id 0 n ∧ live H id = some cs ∧ cs.length = n * sz
theorem CpR.cell {H : Heap} {y : AV} {sz n : Nat} {cs : List AV} (h : CpR H y sz n cs) : y.cell = true := by
 rcases h with ⟨rfl, _⟩ | ⟨id, rfl, _⟩ <;> rfl
theorem CpR.frz {H : Heap} {y : AV} {sz n : Nat} {cs : List AV} (h : CpR H y sz n cs) (hi : ∀ c ∈ cs, Imm 1 c) : zy5v H y = some (.is n false cs) := by
 rcases h with ⟨rfl, rfl, rfl⟩ | ⟨id, rfl, hl, hn⟩
 ·rfl
 ·have e : zy5v H (.rs sz id 0 n) = (live H id).bind fun cs => if 0 + n * sz ≤ cs.length then (((cs.drop 0).take (n * sz)).mapM (zy5w 11 H)).map (.is n false) else none := rfl
  rw [e, hl, Option.bind_some, if_pos (by omega), List.drop_zero, List.take_of_length_le (by omega), zy7i hi (by omega)]
  rfl
theorem CpR.app {H : Heap} {y : AV} {sz n : Nat} {cs : List AV} (h : CpR H y sz n cs) (T : Heap) : CpR (H ++ T) y sz n cs := by
 rcases h with ⟨rfl, rfl, rfl⟩ | ⟨id, rfl, hl, hn⟩
 ·exact .inl ⟨rfl, rfl, rfl⟩
 ·refine .inr ⟨id, rfl, ?_, hn⟩
  have := zyae hl
  unfold live at hl ⊢
  rw [List.getElem?_append_left this]
  exact hl
theorem CpR.set {H : Heap} {y : AV} {sz n : Nat} {cs : List AV} (h : CpR H y sz n cs) (hj : ∀ id, y = .rs sz id 0 n → id ≠ 0) (x : Option (List AV)) (h0 : 0 < H.length) : CpR (H.set 0 x) y sz n cs := by
 rcases h with ⟨rfl, rfl, rfl⟩ | ⟨id, rfl, hl, hn⟩
 ·exact .inl ⟨rfl, rfl, rfl⟩
 ·refine .inr ⟨id, rfl, ?_, hn⟩
  rw [zyag h0, if_neg (hj id rfl)]
  exact hl
theorem cp_app {H : Heap} {sz n : Nat} {cs : List AV} {f : Bool} (hl : cs.length = n * sz) (hn : n ≤ 100000) (hc : cs.all AV.cell = true) : ∃ y H', opApp H sz (.is 0 true []) (.is n f cs) = some (y, H ++ H') ∧ CpR (H ++ H') y sz n cs ∧ ∀ id, y = .rs sz id 0 n → id = H.length := by
 by_cases h0 : n = 0
 ·subst h0
  have hc0 : cs = [] := List.length_eq_zero_iff.1 (by omega)
  subst hc0
  refine ⟨.is 0 true [], [], ?_, .inl ⟨rfl, rfl, rfl⟩, fun id h => by cases h⟩
  rw [List.append_nil]
  simp [opApp, zy4j, AV.notStr]
 ·exact ⟨_, _, app_s0 hl (by omega) (by omega) hc, .inr ⟨H.length, rfl, zya9, hl⟩, fun id h => by cases h; rfl⟩
end
end Go.Proofs.YtiblnpnfaadmcaaGreat.Am
