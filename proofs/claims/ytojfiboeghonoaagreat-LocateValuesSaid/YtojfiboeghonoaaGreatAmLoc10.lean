import Derived.Test.YtojfiboeghonoaaGreatAmLoc9
import Derived.Test.YtojfiboeghonoaaGreatAmGeom3w
import Derived.Test.YtojfiboeghonoaaGreatTRef6
/- Where points lie in a mesh: the document's answer for At and Value. -/
set_option linter.unusedVariables false
set_option maxRecDepth 10000
set_option linter.unusedSimpArgs false
namespace Go.Proofs.YtojfiboeghonoaaGreat.Am
open Go

section
variable {h : Heap} {ax ay bx b_ cx cy : Rat}
theorem k_6area (h1 : Rz ax 100) (h2 : Rz ay 100) (h3 : Rz bx 100) (h4 : Rz b_ 100) (h5 : Rz cx 100) (h6 : Rz cy 100) : byVal (callW gp) h fid.zf1g [pa ax ay, pa bx b_, pa cx cy] = some (ra (area ax ay bx b_ cx cy)) := byVal_imm (imm_L3 imm_pa imm_pa imm_pa) (by
  rw [zf1g.eq]
  unfold zf1g.f
  have e : (bx - ax) * (cy - ay) - (b_ - ay) * (cx - ax) = area ax ay bx b_ cx cy := rfl
  simp (disch := first | exact dE | fail) only [Wd, W2d, W3d, Nat.reduceAdd, Nat.reduceMul, Nat.reduceSub, k_4minus, k_4cross, e])
end
abbrev z6 : List AV := [.bool false, .str ⟨#[]⟩, .str ⟨#[]⟩, .bool false, .str ⟨#[]⟩, .str ⟨#[]⟩]
theorem set_app0 {H : Heap} {x y a b : Option (List AV)} : (H ++ [x] ++ [a] ++ [b]).set H.length y = H ++ [y] ++ [a] ++ [b] := by simp
theorem set_app1 {H : Heap} {x y b : Option (List AV)} : (H ++ [x] ++ [b]).set H.length y = H ++ [y] ++ [b] := by simp
abbrev pcl (x y : Rat) : List AV := [.bool (decide (x.num < 0)), str (nb x.num.natAbs), str (nb x.den), .bool (decide (y.num < 0)), str (nb y.num.natAbs), str (nb y.den)]
theorem pcl_rd {x y : Rat} : readCells (pcl x y) (some 6) = some (pa x y) := Eq.trans rfl rfl
theorem fzp3 {H : Heap} {a b c d e f : Rat} : freeze H (.tup [pa a b, pa c d, pa e f]) = some (.tup [pa a b, pa c d, pa e f]) := frz_tup3 rfl rfl rfl
section
variable {q : Mq} {i : Nat} {x y : Rat} {us : List Rat} {h : Heap}
def cnr (q : Mq) (i : Nat) : AV := .tup [pa (ipx q.ps (tat q.ts i).1) (ipy q.ps (tat q.ts i).1), pa (ipx q.ps (tat q.ts i).2.1) (ipy q.ps (tat q.ts i).2.1), pa (ipx q.ps (tat q.ts i).2.2) (ipy q.ps (tat q.ts i).2.2)]
set_option maxHeartbeats 8000000 in
theorem k_cnr (hq : q.ok) (hi : i < q.ts.length) : byVal (callW gp) h fid.zf0p [.agg (msc q.ms), .int .i64 (i : Int)] = some (cnr q i) := byVal_imm (imm_L2' imm_ms imm_i) (by
  have fa : ∀ k id off, opFaddr k (.rp id off) = some (.rp id (off + k)) := fun _ _ _ => rfl
  have e := tc_at hi
  have s := fun f cs => sidxN (sz := 3) (f := f) (cs := cs) hi
  have rd : ∀ T : List AV, readCells (.int .i64 (tat q.ts i).1 :: .int .i64 (tat q.ts i).2.1 :: .int .i64 (tat q.ts i).2.2 :: T) (some 3) = some (.agg (tc (tat q.ts i))) := fun T => Eq.trans rfl rfl
  have st := st_app3 (h := [some (msc q.ms), some z6, some z6, some z6]) (z := [.int .i64 0, .int .i64 0, .int .i64 0]) (v := tc (tat q.ts i)) (n := 3) rfl ⟨rfl, rfl⟩
  simp only [List.length_cons, List.length_nil, List.cons_append, List.nil_append, Nat.zero_add] at st
  have a0' : ∀ id o, opAidx 1 3 (.rp id o) (.int .i64 0) = some (.rp id (o + 0)) := fun id o => aixR (i := 0) (by omega)
  have a1' : ∀ id o, opAidx 1 3 (.rp id o) (.int .i64 1) = some (.rp id (o + 1)) := fun id o => aixR (i := 1) (by omega)
  have a2' : ∀ id o, opAidx 1 3 (.rp id o) (.int .i64 2) = some (.rp id (o + 2)) := fun id o => aixR (i := 2) (by omega)
  obtain ⟨⟨⟨a0, a1⟩, ⟨b0, b1⟩, ⟨c0, c1⟩⟩, hA⟩ := hq.tr i hi
  have hz := hq.zp
  unfold cnr
  rw [zf0p.eq]
  unfold zf0p.f
  generalize ht : tat q.ts i = t at *
  have ea := pcs_at (ps := q.ps) (i := t.1.toNat) (by omega)
  have eb := pcs_at (ps := q.ps) (i := t.2.1.toNat) (by omega)
  have ec := pcs_at (ps := q.ps) (i := t.2.2.toNat) (by omega)
  have sa := sidx_is (sz := 6) (n := q.ps.length) (f := false) (cs := pcs q.ps) (k := .i64) (z := t.1) a0 a1
  have sb := sidx_is (sz := 6) (n := q.ps.length) (f := false) (cs := pcs q.ps) (k := .i64) (z := t.2.1) b0 b1
  have sc := sidx_is (sz := 6) (n := q.ps.length) (f := false) (cs := pcs q.ps) (k := .i64) (z := t.2.2) c0 c1
  simp (disch := first | exact dD | fail) only [Wd, W2d, W3d, Nat.reduceAdd, Nat.reduceMul, Nat.reduceSub, fa, mq_0, mq_1, s, e, rd, st, a0', a1', a2', tc_0, tc_1, tc_2, sa, sb, sc, ea, eb, ec]
  refine (sepK_yes rfl).trans ?_
  exact fzp3)
theorem len1 {H : Heap} {x : Option (List AV)} : (H ++ [x]).length = H.length + 1 := by simp
theorem lvA {H : Heap} {A : List AV} {B C : Option (List AV)} : live (H ++ [some A] ++ [B] ++ [C]) H.length = some A := live_app_old (live_app_old live_app_self)
theorem lvB {H : Heap} {A C : Option (List AV)} {B : List AV} : live (H ++ [A] ++ [some B] ++ [C]) (H.length + 1) = some B := by
  rw [← len1 (x := A)]; exact live_app_old live_app_self
theorem lvB2 {H : Heap} {A : Option (List AV)} {B : List AV} : live (H ++ [A] ++ [some B]) (H.length + 1) = some B := by
  rw [← len1 (x := A)]; exact live_app_self
theorem lvA2 {H : Heap} {B : Option (List AV)} {A : List AV} : live (H ++ [some A] ++ [B]) H.length = some A := live_app_old live_app_self
theorem lvC {H : Heap} {A B : Option (List AV)} {C : List AV} : live (H ++ [A] ++ [B] ++ [some C]) (H.length + 1 + 1) = some C := by
  rw [← len1 (x := A), ← len1 (x := B)]; exact live_app_self
theorem setB1 {H : Heap} {A B : Option (List AV)} {x y : Option (List AV)} : (H ++ [A] ++ [x] ++ [B]).set (H.length + 1) y = H ++ [A] ++ [y] ++ [B] := by rw [← len1 (x := A), set_app1]
theorem setC1 {H : Heap} {A B : Option (List AV)} {x y : Option (List AV)} : (H ++ [A] ++ [B] ++ [x]).set (H.length + 1 + 1) y = H ++ [A] ++ [B] ++ [y] := by rw [← len1 (x := A), ← len1 (x := B), set_app_self]
set_option maxHeartbeats 8000000 in
theorem rat_l0 (hq : q.ok) (hx : Rz x 100) (hy : Rz y 100) : ∀ (m i : Nat) (H : Heap), i + m = q.ts.length → live H 0 = some (msc q.ms) → live H 1 = some (ptc (pc (x, y))) → gussetref12_At.l0 (.rp 0 0) (.rp 1 0) (.int .i64 (i : Int)) H = some (.tup [.int .i64 (atT q.ps q.ts x y (atI q.ps q.ts x y m i)), .int .i64 (atW q.ps q.ts x y (atI q.ps q.ts x y m i))]) := by
  have n1 := hq.n1
  have n2 := hq.n2
  have fa : ∀ k id off, opFaddr k (.rp id off) = some (.rp id (off + k)) := fun _ _ _ => rfl
  intro m
  induction m with
  | zero =>
    intro i H him h0 h1
    obtain rfl : i = q.ts.length := by omega
    rw [gussetref12_At.l0_eq]
    simp (disch := first | exact dD | fail) only [Wd, W2d, W3d, Nat.reduceAdd, Nat.reduceMul, Nat.reduceSub, fa, h0, mq_1, frz_tup2 (show freezeN 11 H (.int .i64 (-1)) = some _ from rfl) (show freezeN 11 H (.int .i64 0) = some _ from rfl)]
    rfl
  | succ m ih =>
    intro i H him h0 h1
    have hi : i < q.ts.length := by omega
    have lk : opBin .lss (.int .i64 (i : Int)) (.int .i64 (q.ts.length : Int)) = some (.bool true) := lssT (by omega)
    have kc := fun h => k_cnr (h := h) hq hi
    unfold cnr at kc
    obtain ⟨⟨⟨a0, a1⟩, ⟨b0, b1⟩, ⟨c0, c1⟩⟩, hA⟩ := hq.tr i hi
    have hz := hq.zp
    have za := hz.x (i := (tat q.ts i).1.toNat) (by omega)
    have zb := hz.x (i := (tat q.ts i).2.1.toNat) (by omega)
    have zc := hz.x (i := (tat q.ts i).2.2.toNat) (by omega)
    have kw := fun h => k_5within (h := h) (za.1.mono (by omega)) (za.2.mono (by omega)) (zb.1.mono (by omega)) (zb.2.mono (by omega)) (zc.1.mono (by omega)) (zc.2.mono (by omega)) (hx.mono (by omega)) (hy.mono (by omega))
    have kw : ∀ h, byVal (callW gp) h fid.zf0q [pa (ipx q.ps (tat q.ts i).1) (ipy q.ps (tat q.ts i).1), pa (ipx q.ps (tat q.ts i).2.1) (ipy q.ps (tat q.ts i).2.1), pa (ipx q.ps (tat q.ts i).2.2) (ipy q.ps (tat q.ts i).2.2), pa x y] = some (.int .i64 (wT q.ps (tat q.ts i) x y)) := kw
    have r6 : readCells (ptc (pc (x, y))) (some 6) = some (pa x y) := Eq.trans rfl rfl
    have g1 : ∀ A B C, live (H ++ [A] ++ [B] ++ [C]) 1 = some (ptc (pc (x, y))) := fun A B C => live_app_old (live_app_old (live_app_old h1))
    unfold atI
    have wd : ∀ j, atW q.ps q.ts x y (some j) = wT q.ps (tat q.ts j) x y := fun _ => rfl
    generalize hW : wT q.ps (tat q.ts i) x y = W at *
    generalize ipx q.ps (tat q.ts i).1 = ax at *
    generalize ipy q.ps (tat q.ts i).1 = ay at *
    generalize ipx q.ps (tat q.ts i).2.1 = bx at *
    generalize ipy q.ps (tat q.ts i).2.1 = b_ at *
    generalize ipx q.ps (tat q.ts i).2.2 = cx at *
    generalize ipy q.ps (tat q.ts i).2.2 = cy at *
    have g := ih (i + 1) (H ++ [some (pcl ax ay)] ++ [some (pcl bx b_)] ++ [some (pcl cx cy)]) (by omega) (live_app_old (live_app_old (live_app_old h0))) (g1 _ _ _)
    rw [gussetref12_At.l0_eq]
    by_cases hw : 0 ≤ W
    · rw [if_pos hw, wd, hW]
      simp (disch := first | exact dD | fail) only [Wd, W2d, W3d, Nat.reduceAdd, Nat.reduceMul, Nat.reduceSub, fa, h0, mq_1, lk, ms_rc, kc, len1, lvA, lvA2, live_app_self, lvB, lvB2, lvC, set_app0, setB1, setC1, g1, pcl_rd, r6, kw, geqT hw]
      try rfl
    · rw [if_neg hw]
      simp (disch := first | exact dD | fail) only [Wd, W2d, W3d, Nat.reduceAdd, Nat.reduceMul, Nat.reduceSub, fa, h0, mq_1, lk, ms_rc, kc, len1, lvA, lvA2, live_app_self, lvB, lvB2, lvC, set_app0, setB1, setC1, g1, pcl_rd, r6, kw, geqF hw]
      exact g
theorem k_rAt (hq : q.ok) (hx : Rz x 100) (hy : Rz y 100) : byVal (callW gp) h fid.gussetref12_At [.agg (msc q.ms), pa x y] = some (.tup [.int .i64 (atT q.ps q.ts x y (atI q.ps q.ts x y q.ts.length 0)), .int .i64 (atW q.ps q.ts x y (atI q.ps q.ts x y q.ts.length 0))]) := byVal_imm (imm_L2' imm_ms imm_pa) (by
  have g := rat_l0 hq hx hy q.ts.length 0 [some (msc q.ms), some (ptc (pc (x, y)))] (by omega) rfl rfl
  rw [gussetref12_At.eq]
  unfold gussetref12_At.f
  simp (disch := first | exact dD | fail) only [Wd, W2d, W3d, Nat.reduceAdd, Nat.reduceMul, Nat.reduceSub]
  exact g)
theorem rnum_l0 {xs : List RT} {f : Bool} (hb : ∀ t ∈ xs, t.ok) (hn : xs.length ≤ 1000000) : ∀ (k i : Nat), i + k = xs.length → zf0n.l0 (.is xs.length f (xs.flatMap rtc)) (.int .i64 (i : Nat)) = some (.int .i64 (firstE ((xs.drop i).map RT.chk))) := by
  intro k
  induction k with
  | zero =>
    intro i hik
    rw [zf0n.l0_eq]
    rw [List.drop_of_length_le (show xs.length ≤ i by omega)]
    simp (disch := first | exact dD | fail) only [Wd, W2d, W3d, Nat.reduceAdd, Nat.reduceMul, Nat.reduceSub]
    rfl
  | succ k ih =>
    intro i hik
    rw [zf0n.l0_eq]
    have hi : i < xs.length := by omega
    have ht := hb _ (List.getElem_mem hi)
    have e : (xs.flatMap rtc).drop (i * 3) = .bool xs[i].s :: str xs[i].m :: str xs[i].d :: (xs.drop (i + 1)).flatMap rtc := by
      rw [drop_flatMap rtc_len, List.drop_eq_getElem_cons hi, List.flatMap_cons]; rfl
    have hc := fun h => c_3check (h := h) (s := xs[i].s) ht.1 ht.2
    have hc : ∀ h, byVal (callW gp) h fid.zf1f [.agg [.bool xs[i].s, str xs[i].m, str xs[i].d]] = some (.int .i64 xs[i].chk) := hc
    have lk : opBin .lss (.int .i64 (i : Int)) (.int .i64 (xs.length : Int)) = some (.bool true) := lssT (by omega)
    have s := fun f cs => sidxN (sz := 3) (f := f) (cs := cs) hi
    rw [List.drop_eq_getElem_cons hi, List.map_cons, firstE]
    generalize xs[i].chk = c at *
    by_cases h0 : c = 0
    · subst h0
      rw [if_pos rfl]
      simp (disch := first | exact dD | fail) only [Wd, W2d, W3d, Nat.reduceAdd, Nat.reduceMul, Nat.reduceSub, lk, s, e, hc, neqF]
      exact ih (i + 1) (by omega)
    · have nq := neqT h0
      rw [if_neg h0]
      simp (disch := first | exact dD | fail) only [Wd, W2d, W3d, Nat.reduceAdd, Nat.reduceMul, Nat.reduceSub, lk, s, e, hc, nq]
theorem k_rNum {xs : List RT} (hb : ∀ t ∈ xs, t.ok) (hn : xs.length ≤ 1000000) : byVal (callW gp) h fid.zf0n [.is xs.length false (xs.flatMap rtc)] = some (.int .i64 (firstE (xs.map RT.chk))) := byVal_imm (imm_L1 imm_rts) (by
  rw [zf0n.eq]
  unfold zf0n.f
  exact rnum_l0 hb hn xs.length 0 (by omega))
def refQ (q : Mq) (us : List Rat) (i : Nat) (x y : Rat) : Rat :=
  (uat us (tat q.ts i).1 * area x y (ipx q.ps (tat q.ts i).2.1) (ipy q.ps (tat q.ts i).2.1) (ipx q.ps (tat q.ts i).2.2) (ipy q.ps (tat q.ts i).2.2) + (uat us (tat q.ts i).2.1 * area (ipx q.ps (tat q.ts i).1) (ipy q.ps (tat q.ts i).1) x y (ipx q.ps (tat q.ts i).2.2) (ipy q.ps (tat q.ts i).2.2) + uat us (tat q.ts i).2.2 * area (ipx q.ps (tat q.ts i).1) (ipy q.ps (tat q.ts i).1) (ipx q.ps (tat q.ts i).2.1) (ipy q.ps (tat q.ts i).2.1) x y)) / areaT q.ps (tat q.ts i)
theorem refQ_eq : refQ q us i x y = valQ q us i x y := by
  have e0 : co (tat q.ts i) 0 = (tat q.ts i).1 := rfl
  have e1 : co (tat q.ts i) 1 = (tat q.ts i).2.1 := rfl
  have e2 : co (tat q.ts i) 2 = (tat q.ts i).2.2 := rfl
  unfold refQ valQ shQ
  simp only [show (0 + 1) % 3 = 1 from rfl, show (0 + 2) % 3 = 2 from rfl, show (1 + 1) % 3 = 2 from rfl, show (1 + 2) % 3 = 0 from rfl, show (2 + 1) % 3 = 0 from rfl, show (2 + 2) % 3 = 1 from rfl, e0, e1, e2]
  generalize areaT q.ps (tat q.ts i) = W
  generalize tat q.ts i = t
  simp only [Rat.div_def]
  unfold area
  grind
def valR2 (q : Mq) (us : List Rat) (x y : Rat) : Option Nat → AV
  | some i => .tup [ra (valQ q us i x y), .bool true]
  | none => .tup [ra 0, .bool false]
theorem fzv2 {H : Heap} {q : Rat} {b : Bool} : freeze H (.tup [.agg (rcl q), .bool b]) = some (.tup [ra q, .bool b]) := frz_tup2 rfl rfl
set_option maxHeartbeats 16000000 in
theorem k_rValue (hq : q.ok) (hx : Rz x 40) (hy : Rz y 40) (hu : us.length = q.ps.length) (hus : UsZ us 300) : byVal (callW gp) h fid.zf0o [.agg (msc q.ms), .is us.length false (rcs us), pa x y] = some (valR2 q us x y (atI q.ps q.ts x y q.ts.length 0)) := byVal_imm (imm_L3' imm_ms imm_rcs imm_pa) (by
  have fa : ∀ k id off, opFaddr k (.rp id off) = some (.rp id (off + k)) := fun _ _ _ => rfl
  have n1 := hq.n1
  have n2 := hq.n2
  have kt := fun h => k_rAt (h := h) hq (hx.mono (by omega)) (hy.mono (by omega))
  have r6 : readCells [.bool (decide (x.num < 0)), str (nb x.num.natAbs), str (nb x.den), .bool (decide (y.num < 0)), str (nb y.num.natAbs), str (nb y.den)] (some 6) = some (pa x y) := Eq.trans rfl rfl
  rw [zf0o.eq]
  unfold zf0o.f
  cases ha : atI q.ps q.ts x y q.ts.length 0 with
  | none =>
    rw [ha] at kt
    have l1 : opBin .lss (.int .i64 (atT q.ps q.ts x y none)) (.int .i64 0) = some (.bool true) := rfl
    have of0 : ∀ h, byVal (callW gp) h fid.gussetref03_Of [.int .i64 0] = some (ra 0) := fun h => k_3of (z := 0) (by decide) (by decide)
    simp (disch := first | exact dD | fail) only [Wd, W2d, W3d, Nat.reduceAdd, Nat.reduceMul, Nat.reduceSub, ms_rc, r6, kt, l1, of0]
    exact fzv2
  | some i =>
    rw [ha] at kt
    obtain ⟨_, hi, _, _⟩ := atI_some ha
    have hi : i < q.ts.length := by omega
    have kt : ∀ h, byVal (callW gp) h fid.gussetref12_At [.agg (msc q.ms), pa x y] = some (.tup [.int .i64 (i : Int), .int .i64 (atW q.ps q.ts x y (some i))]) := kt
    have l1 : opBin .lss (.int .i64 (i : Int)) (.int .i64 0) = some (.bool false) := lssF (by omega)
    have kc := fun h => k_cnr (h := h) hq hi
    unfold cnr at kc
    have e := tc_at hi
    have s := fun f cs => sidxN (sz := 3) (f := f) (cs := cs) hi
    have rd : ∀ T : List AV, readCells (.int .i64 (tat q.ts i).1 :: .int .i64 (tat q.ts i).2.1 :: .int .i64 (tat q.ts i).2.2 :: T) (some 3) = some (.agg (tc (tat q.ts i))) := fun T => Eq.trans rfl rfl
    have a0' : ∀ id o, opAidx 1 3 (.rp id o) (.int .i64 0) = some (.rp id (o + 0)) := fun id o => aixR (i := 0) (by omega)
    have a1' : ∀ id o, opAidx 1 3 (.rp id o) (.int .i64 1) = some (.rp id (o + 1)) := fun id o => aixR (i := 1) (by omega)
    have a2' : ∀ id o, opAidx 1 3 (.rp id o) (.int .i64 2) = some (.rp id (o + 2)) := fun id o => aixR (i := 2) (by omega)
    obtain ⟨⟨⟨a0, a1⟩, ⟨b0, b1⟩, ⟨c0, c1⟩⟩, hA⟩ := hq.tr i hi
    have hz := hq.zp
    have za := hz.x (i := (tat q.ts i).1.toNat) (by omega)
    have zb := hz.x (i := (tat q.ts i).2.1.toNat) (by omega)
    have zc := hz.x (i := (tat q.ts i).2.2.toNat) (by omega)
    have wn := area_ne hq hi
    have rq : valR2 q us x y (some i) = .tup [ra (refQ q us i x y), .bool true] := by rw [refQ_eq]; rfl
    rw [rq]
    unfold refQ areaT
    unfold areaT at wn
    unfold ipx ipy at kc ⊢
    unfold ipx ipy at wn
    generalize ht : tat q.ts i = t at *
    have e0 := rcs_at (us := us) (i := t.1) (by omega)
    have e1 := rcs_at (us := us) (i := t.2.1) (by omega)
    have e2 := rcs_at (us := us) (i := t.2.2) (by omega)
    have u0 := hus.x (i := t.1) (by omega)
    have u1 := hus.x (i := t.2.1) (by omega)
    have u2 := hus.x (i := t.2.2) (by omega)
    have s0 := sidx_is (sz := 3) (n := us.length) (f := false) (cs := rcs us) (k := .i64) (z := t.1) a0 (by omega)
    have s1 := sidx_is (sz := 3) (n := us.length) (f := false) (cs := rcs us) (k := .i64) (z := t.2.1) b0 (by omega)
    have s2 := sidx_is (sz := 3) (n := us.length) (f := false) (cs := rcs us) (k := .i64) (z := t.2.2) c0 (by omega)
    generalize uat us t.1 = v0 at *
    generalize uat us t.2.1 = v1 at *
    generalize uat us t.2.2 = v2 at *
    generalize px q.ps t.1.toNat = ax at *
    generalize py q.ps t.1.toNat = ay at *
    generalize px q.ps t.2.1.toNat = bx at *
    generalize py q.ps t.2.1.toNat = b_ at *
    generalize px q.ps t.2.2.toNat = cx at *
    generalize py q.ps t.2.2.toNat = cy at *
    have m40 : ∀ {r : Rat}, Rz r 40 → Rz r 100 := fun h => h.mono (by omega)
    have A0 := Rz.area hx hy zb.1 zb.2 zc.1 zc.2
    have A1 := Rz.area za.1 za.2 hx hy zc.1 zc.2
    have A2 := Rz.area za.1 za.2 zb.1 zb.2 hx hy
    have AW := Rz.area za.1 za.2 zb.1 zb.2 zc.1 zc.2
    have k0 := fun h => k_6area (h := h) (m40 hx) (m40 hy) (m40 zb.1) (m40 zb.2) (m40 zc.1) (m40 zc.2)
    have k1 := fun h => k_6area (h := h) (m40 za.1) (m40 za.2) (m40 hx) (m40 hy) (m40 zc.1) (m40 zc.2)
    have k2 := fun h => k_6area (h := h) (m40 za.1) (m40 za.2) (m40 zb.1) (m40 zb.2) (m40 hx) (m40 hy)
    have kW := fun h => k_6area (h := h) (m40 za.1) (m40 za.2) (m40 zb.1) (m40 zb.2) (m40 zc.1) (m40 zc.2)
    generalize area x y bx b_ cx cy = P0 at *
    generalize area ax ay x y cx cy = P1 at *
    generalize area ax ay bx b_ x y = P2 at *
    generalize area ax ay bx b_ cx cy = W at *
    have t0 := u0.mul A0
    have t1 := u1.mul A1
    have t2 := u2.mul A2
    have q0 := fun h => k_3mul (h := h) (u0.mono (by omega)) (A0.mono (by omega))
    have q1 := fun h => k_3mul (h := h) (u1.mono (by omega)) (A1.mono (by omega))
    have q2 := fun h => k_3mul (h := h) (u2.mono (by omega)) (A2.mono (by omega))
    have q3 := fun h => k_3sum (h := h) (t1.mono (by omega)) (t2.mono (by omega))
    have q4 := fun h => k_3sum (h := h) (t0.mono (by omega)) ((t1.add t2).mono (by omega))
    have q5 := fun h => k_3div (h := h) ((t0.add (t1.add t2)).mono (by omega)) (AW.mono (by omega)) wn
    simp (disch := first | exact dD | fail) only [Wd, W2d, W3d, Nat.reduceAdd, Nat.reduceMul, Nat.reduceSub, ms_rc, r6, kt, l1, kc, fa, mq_1, s, e, rd, a0', a1', a2', tc_0, tc_1, tc_2, s0, s1, s2, e0, e1, e2, k0, k1, k2, kW, q0, q1, q2, q3, q4, q5]
    exact fzv2)
end
end Go.Proofs.YtojfiboeghonoaaGreat.Am
