import Derived.Test.YtojfiboeghonoaaGreatAmLoc9
import Derived.Test.YtojfiboeghonoaaGreatAmGeom3w
import Derived.Test.YtojfiboeghonoaaGreatTRef6
/- Where points lie in a mesh: the document's answer for At and Value. -/
set_option linter.unusedVariables false
set_option maxRecDepth 10000
set_option linter.unusedSimpArgs false
namespace Go.Proofs.YtojfiboeghonoaaGreat.Am
open Go

section
variable {h : Heap} {ax ay bx b_ cx cy : Rat}
end
abbrev z6 : List AV := [.bool false, .str ⟨#[]⟩, .str ⟨#[]⟩, .bool false, .str ⟨#[]⟩, .str ⟨#[]⟩]
theorem set_app0 {H : Heap} {x y a b : Option (List AV)} : (H ++ [x] ++ [a] ++ [b]).set H.length y = H ++ [y] ++ [a] ++ [b] := by simp
theorem set_app1 {H : Heap} {x y b : Option (List AV)} : (H ++ [x] ++ [b]).set H.length y = H ++ [y] ++ [b] := by simp
abbrev pcl (x y : Rat) : List AV := [.bool (decide (x.num < 0)), str (nb x.num.natAbs), str (nb x.den), .bool (decide (y.num < 0)), str (nb y.num.natAbs), str (nb y.den)]
theorem pcl_rd {x y : Rat} : readCells (pcl x y) (some 6) = some (pa x y) := Eq.trans rfl rfl
theorem fzp3 {H : Heap} {a b c d e f : Rat} : freeze H (.tup [pa a b, pa c d, pa e f]) = some (.tup [pa a b, pa c d, pa e f]) := frz_tup3 rfl rfl rfl
section
variable {q : Mq} {i : Nat} {x y : Rat} {us : List Rat} {h : Heap}
def cnr (q : Mq) (i : Nat) : AV := .tup [pa (ipx q.ps (tat q.ts i).1) (ipy q.ps (tat q.ts i).1), pa (ipx q.ps (tat q.ts i).2.1) (ipy q.ps (tat q.ts i).2.1), pa (ipx q.ps (tat q.ts i).2.2) (ipy q.ps (tat q.ts i).2.2)]
set_option maxHeartbeats 8000000 in
theorem k_cnr (hq : q.ok) (hi : i < q.ts.length) : byVal (callW gp) h fid.gussetref12_Corners [.agg (msc q.ms), .int .i64 (i : Int)] = some (cnr q i) := byVal_imm (imm_L2' imm_ms imm_i) (by
  have fa : ∀ k id off, opFaddr k (.rp id off) = some (.rp id (off + k)) := fun _ _ _ => rfl
  have e := tc_at hi
  have s := fun f cs => sidxN (sz := 3) (f := f) (cs := cs) hi
  have rd : ∀ T : List AV, readCells (.int .i64 (tat q.ts i).1 :: .int .i64 (tat q.ts i).2.1 :: .int .i64 (tat q.ts i).2.2 :: T) (some 3) = some (.agg (tc (tat q.ts i))) := fun T => Eq.trans rfl rfl
  have st := st_app3 (h := [some (msc q.ms), some z6, some z6, some z6]) (z := [.int .i64 0, .int .i64 0, .int .i64 0]) (v := tc (tat q.ts i)) (n := 3) rfl ⟨rfl, rfl⟩
  simp only [List.length_cons, List.length_nil, List.cons_append, List.nil_append, Nat.zero_add] at st
  have a0' : ∀ id o, opAidx 1 3 (.rp id o) (.int .i64 0) = some (.rp id (o + 0)) := fun id o => aixR (i := 0) (by omega)
  have a1' : ∀ id o, opAidx 1 3 (.rp id o) (.int .i64 1) = some (.rp id (o + 1)) := fun id o => aixR (i := 1) (by omega)
  have a2' : ∀ id o, opAidx 1 3 (.rp id o) (.int .i64 2) = some (.rp id (o + 2)) := fun id o => aixR (i := 2) (by omega)
  obtain ⟨⟨⟨a0, a1⟩, ⟨b0, b1⟩, ⟨c0, c1⟩⟩, hA⟩ := hq.tr i hi
  have hz := hq.zp
  unfold cnr
  rw [gussetref12_Corners.eq]
  unfold gussetref12_Corners.f
  generalize ht : tat q.ts i = t at *
  have ea := pcs_at (ps := q.ps) (i := t.1.toNat) (by omega)
  have eb := pcs_at (ps := q.ps) (i := t.2.1.toNat) (by omega)
  have ec := pcs_at (ps := q.ps) (i := t.2.2.toNat) (by omega)
  have sa := sidx_is (sz := 6) (n := q.ps.length) (f := false) (cs := pcs q.ps) (k := .i64) (z := t.1) a0 a1
  have sb := sidx_is (sz := 6) (n := q.ps.length) (f := false) (cs := pcs q.ps) (k := .i64) (z := t.2.1) b0 b1
  have sc := sidx_is (sz := 6) (n := q.ps.length) (f := false) (cs := pcs q.ps) (k := .i64) (z := t.2.2) c0 c1
  simp (disch := first | exact dD | fail) only [Wd, W2d, W3d, Nat.reduceAdd, Nat.reduceMul, Nat.reduceSub, fa, mq_0, mq_1, s, e, rd, st, a0', a1', a2', tc_0, tc_1, tc_2, sa, sb, sc, ea, eb, ec]
  refine (sepK_yes rfl).trans ?_
  exact fzp3)
theorem len1 {H : Heap} {x : Option (List AV)} : (H ++ [x]).length = H.length + 1 := by simp
theorem lvA {H : Heap} {A : List AV} {B C : Option (List AV)} : live (H ++ [some A] ++ [B] ++ [C]) H.length = some A := live_app_old (live_app_old live_app_self)
theorem lvB {H : Heap} {A C : Option (List AV)} {B : List AV} : live (H ++ [A] ++ [some B] ++ [C]) (H.length + 1) = some B := by
  rw [← len1 (x := A)]; exact live_app_old live_app_self
theorem lvB2 {H : Heap} {A : Option (List AV)} {B : List AV} : live (H ++ [A] ++ [some B]) (H.length + 1) = some B := by
  rw [← len1 (x := A)]; exact live_app_self
theorem lvA2 {H : Heap} {B : Option (List AV)} {A : List AV} : live (H ++ [some A] ++ [B]) H.length = some A := live_app_old live_app_self
theorem lvC {H : Heap} {A B : Option (List AV)} {C : List AV} : live (H ++ [A] ++ [B] ++ [some C]) (H.length + 1 + 1) = some C := by
  rw [← len1 (x := A), ← len1 (x := B)]; exact live_app_self
theorem setB1 {H : Heap} {A B : Option (List AV)} {x y : Option (List AV)} : (H ++ [A] ++ [x] ++ [B]).set (H.length + 1) y = H ++ [A] ++ [y] ++ [B] := by rw [← len1 (x := A), set_app1]
theorem setC1 {H : Heap} {A B : Option (List AV)} {x y : Option (List AV)} : (H ++ [A] ++ [B] ++ [x]).set (H.length + 1 + 1) y = H ++ [A] ++ [B] ++ [y] := by rw [← len1 (x := A), ← len1 (x := B), set_app_self]
set_option maxHeartbeats 8000000 in
theorem rat_l0 (hq : q.ok) (hx : Rz x 100) (hy : Rz y 100) : ∀ (m i : Nat) (H : Heap), i + m = q.ts.length → live H 0 = some (msc q.ms) → live H 1 = some (ptc (pc (x, y))) → gussetref12_At.l0 (.rp 0 0) (.rp 1 0) (.int .i64 (i : Int)) H = some (.tup [.int .i64 (atT q.ps q.ts x y (atI q.ps q.ts x y m i)), .int .i64 (atW q.ps q.ts x y (atI q.ps q.ts x y m i))]) := by
  have n1 := hq.n1
  have n2 := hq.n2
  have fa : ∀ k id off, opFaddr k (.rp id off) = some (.rp id (off + k)) := fun _ _ _ => rfl
  intro m
  induction m with
  | zero =>
    intro i H him h0 h1
    obtain rfl : i = q.ts.length := by omega
    rw [gussetref12_At.l0_eq]
    simp (disch := first | exact dD | fail) only [Wd, W2d, W3d, Nat.reduceAdd, Nat.reduceMul, Nat.reduceSub, fa, h0, mq_1, frz_tup2 (show freezeN 11 H (.int .i64 (-1)) = some _ from rfl) (show freezeN 11 H (.int .i64 0) = some _ from rfl)]
    rfl
  | succ m ih =>
    intro i H him h0 h1
    have hi : i < q.ts.length := by omega
    have lk : opBin .lss (.int .i64 (i : Int)) (.int .i64 (q.ts.length : Int)) = some (.bool true) := lssT (by omega)
    have kc := fun h => k_cnr (h := h) hq hi
    unfold cnr at kc
    obtain ⟨⟨⟨a0, a1⟩, ⟨b0, b1⟩, ⟨c0, c1⟩⟩, hA⟩ := hq.tr i hi
    have hz := hq.zp
    have za := hz.x (i := (tat q.ts i).1.toNat) (by omega)
    have zb := hz.x (i := (tat q.ts i).2.1.toNat) (by omega)
    have zc := hz.x (i := (tat q.ts i).2.2.toNat) (by omega)
    have kw := fun h => k_5within (h := h) (za.1.mono (by omega)) (za.2.mono (by omega)) (zb.1.mono (by omega)) (zb.2.mono (by omega)) (zc.1.mono (by omega)) (zc.2.mono (by omega)) (hx.mono (by omega)) (hy.mono (by omega))
    have kw : ∀ h, byVal (callW gp) h fid.gussetref05_Within [pa (ipx q.ps (tat q.ts i).1) (ipy q.ps (tat q.ts i).1), pa (ipx q.ps (tat q.ts i).2.1) (ipy q.ps (tat q.ts i).2.1), pa (ipx q.ps (tat q.ts i).2.2) (ipy q.ps (tat q.ts i).2.2), pa x y] = some (.int .i64 (wT q.ps (tat q.ts i) x y)) := kw
    have r6 : readCells (ptc (pc (x, y))) (some 6) = some (pa x y) := Eq.trans rfl rfl
    have g1 : ∀ A B C, live (H ++ [A] ++ [B] ++ [C]) 1 = some (ptc (pc (x, y))) := fun A B C => live_app_old (live_app_old (live_app_old h1))
    unfold atI
    have wd : ∀ j, atW q.ps q.ts x y (some j) = wT q.ps (tat q.ts j) x y := fun _ => rfl
    generalize hW : wT q.ps (tat q.ts i) x y = W at *
    generalize ipx q.ps (tat q.ts i).1 = ax at *
    generalize ipy q.ps (tat q.ts i).1 = ay at *
    generalize ipx q.ps (tat q.ts i).2.1 = bx at *
    generalize ipy q.ps (tat q.ts i).2.1 = b_ at *
    generalize ipx q.ps (tat q.ts i).2.2 = cx at *
    generalize ipy q.ps (tat q.ts i).2.2 = cy at *
    have g := ih (i + 1) (H ++ [some (pcl ax ay)] ++ [some (pcl bx b_)] ++ [some (pcl cx cy)]) (by omega) (live_app_old (live_app_old (live_app_old h0))) (g1 _ _ _)
    rw [gussetref12_At.l0_eq]
    by_cases hw : 0 ≤ W
    · rw [if_pos hw, wd, hW]
      simp (disch := first | exact dD | fail) only [Wd, W2d, W3d, Nat.reduceAdd, Nat.reduceMul, Nat.reduceSub, fa, h0, mq_1, lk, ms_rc, kc, len1, lvA, lvA2, live_app_self, lvB, lvB2, lvC, set_app0, setB1, setC1, g1, pcl_rd, r6, kw, geqT hw]
      try rfl
    · rw [if_neg hw]
      simp (disch := first | exact dD | fail) only [Wd, W2d, W3d, Nat.reduceAdd, Nat.reduceMul, Nat.reduceSub, fa, h0, mq_1, lk, ms_rc, kc, len1, lvA, lvA2, live_app_self, lvB, lvB2, lvC, set_app0, setB1, setC1, g1, pcl_rd, r6, kw, geqF hw]
      exact g
theorem k_rAt (hq : q.ok) (hx : Rz x 100) (hy : Rz y 100) : byVal (callW gp) h fid.gussetref12_At [.agg (msc q.ms), pa x y] = some (.tup [.int .i64 (atT q.ps q.ts x y (atI q.ps q.ts x y q.ts.length 0)), .int .i64 (atW q.ps q.ts x y (atI q.ps q.ts x y q.ts.length 0))]) := byVal_imm (imm_L2' imm_ms imm_pa) (by
  have g := rat_l0 hq hx hy q.ts.length 0 [some (msc q.ms), some (ptc (pc (x, y)))] (by omega) rfl rfl
  rw [gussetref12_At.eq]
  unfold gussetref12_At.f
  simp (disch := first | exact dD | fail) only [Wd, W2d, W3d, Nat.reduceAdd, Nat.reduceMul, Nat.reduceSub]
  exact g)
/-! ### Numbers -/
/-! ### Value -/
end
end Go.Proofs.YtojfiboeghonoaaGreat.Am
