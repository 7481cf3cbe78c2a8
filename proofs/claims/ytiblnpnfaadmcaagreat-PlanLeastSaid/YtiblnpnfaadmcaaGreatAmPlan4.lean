import Derived.Test.YtiblnpnfaadmcaaGreatAmPlan3
/- Section 09: all distances are told. -/
set_option linter.unusedVariables false
set_option maxRecDepth 10000
set_option linter.unusedSimpArgs false
namespace Go.Proofs.YtiblnpnfaadmcaaGreat.Am
open Go

section
variable {rd : List AV → Heap → Option Heap} {id oid lid sid : Nat} {ps : List (Rat × Rat)} {ss : List Sq}
set_option maxHeartbeats 16000000 in
theorem it_l4 (hr : RdOk rd id oid) (hz : PZ ps) (hsv : SV ps.length ss) (hn : ps.length ≤ 1000) (hm : ss.length ≤ 1000) {i pid : Nat} (hi : i < ss.length) (hp : pid ≠ oid) {fl : Bool} {P : Heap → Prop} : ∀ (m k : Nat) (H : Heap) (st : Option Rat), k + m = i → Env H id oid lid sid ps ss st → live H pid = some (sqC ss i) →
  (∀ H', Env H' id oid lid sid ps ss ((zy0k ps ss i (List.range' k m)).foldl told st) → Ends (zf1x.l3 id rd (.yld id) (.rp lid 0) (.rp sid 0) (.is ss.length false (scs ss)) (.int .i64 (ss.length : Int)) (.int .i64 ((i + 1 : Nat) : Int)) H') P) →
  Ends (zf1x.l4 id rd (.yld id) (.rp lid 0) (.rp sid 0) (.rp pid 0) (.is ss.length false (scs ss)) (.int .i64 (ss.length : Int)) (.int .i64 (i : Int)) (.is i fl (scs (ss.take i))) (.int .i64 (i : Int)) (.int .i64 (k : Int)) H) P := by
 have fa : ∀ k id off, zyd1 k (.rp id off) = some (.rp id (off + k)) := fun _ _ _ => rfl
 intro m
 induction m with
 | zero =>
  intro k H st hk e h5 hR
  obtain rfl : k = i := by omega
  have lk : opBin .lss (.int .i64 (k : Int)) (.int .i64 (k : Int)) = some (.bool false) := lssF (by omega)
  rw [zf1x.l4_eq]
  simp (disch := first | exact dD | fail) only [Wd, W2d, W3d, Nat.reduceAdd, Nat.reduceMul, Nat.reduceSub, lk]
  exact hR H e
 | succ m ih =>
  intro k H st hk e h5 hR
  have hki : k < i := by omega
  have hks : k < ss.length := by omega
  have lk : opBin .lss (.int .i64 (k : Int)) (.int .i64 (i : Int)) = some (.bool true) := lssT (by omega)
  have sx := sidxN (sz := 3) (f := fl) (cs := scs (ss.take i)) hki
  have ea := zyfo (ss := ss.take i) (i := k) (by rw [List.length_take]; omega)
  rw [sat_take hki] at ea
  obtain ⟨v1, v2⟩ := hsv i hi
  obtain ⟨w1, w2⟩ := hsv k hks
  obtain ⟨za1, za2⟩ := hz _ v1
  obtain ⟨zb1, zb2⟩ := hz _ v2
  obtain ⟨zc1, zc2⟩ := hz _ w1
  obtain ⟨zd1, zd2⟩ := hz _ w2
  have kn : ∀ h, byVal (callW gp) h fid.zf14 [pa (px ps (sat ss i).1) (py ps (sat ss i).1), pa (px ps (sat ss i).2.1) (py ps (sat ss i).2.1), pa (px ps (sat ss k).1) (py ps (sat ss k).1), pa (px ps (sat ss k).2.1) (py ps (sat ss k).2.1)] = some (ra (dA ps (sat ss i) (sat ss k))) := fun h => zy95 (h := h) za1 za2 zb1 zb2 zc1 zc2 zd1 zd2
  have dz : Rz (dA ps (sat ss i) (sat ss k)) 8000 := (apart_z za1 za2 zb1 zb2 zc1 zc2 zd1 zd2).mono (by omega)
  have s1' : zydm (H ++ [some [.int .i64 0, .int .i64 0, .bool false]]) 3 (.rp H.length 0) (.agg (sgc (sq_ (sat ss k)))) = some (H ++ [some (sqC ss k)]) := zygj (h := H) (z := [.int .i64 0, .int .i64 0, .bool false]) (v := sqC ss k) (n := 3) rfl ⟨rfl, rfl⟩
  have rx : zyem ((scs (ss.take i)).drop (k * 3)) (some 3) = some (.agg (sgc (sq_ (sat ss k)))) := by rw [ea]; exact Eq.trans rfl rfl
  have kh1 := fun h => k_has (h := h) (s := sq_ (sat ss k)) (v := ((sat ss i).1 : Int))
  have kh2 := fun h => k_has (h := h) (s := sq_ (sat ss k)) (v := ((sat ss i).2.1 : Int))
  rw [dec_has] at kh1 kh2
  have gq : live (H ++ [some (sqC ss k)]) H.length = some (sqC ss k) := zya9
  have e2 := e.app (some (sqC ss k))
  have gl : zyd4 (H ++ [some (sqC ss k)]) none (.rp lid 0) = some (.is ps.length false (pcs ps)) := by
   show (live (H ++ [some (sqC ss k)]) lid).bind _ = _
   rw [e2.l]; rfl
  have g5 : live (H ++ [some (sqC ss k)]) pid = some (sqC ss i) := zya8 h5
  have xa := sidxN (sz := 6) (f := false) (cs := pcs ps) v1
  have xb := sidxN (sz := 6) (f := false) (cs := pcs ps) v2
  have xc := sidxN (sz := 6) (f := false) (cs := pcs ps) w1
  have xd := sidxN (sz := 6) (f := false) (cs := pcs ps) w2
  have rA : zyem ((pcs ps).drop ((sat ss i).1 * 6)) (some 6) = some (pa (px ps (sat ss i).1) (py ps (sat ss i).1)) := by rw [zye3 v1]; exact Eq.trans rfl rfl
  have rB : zyem ((pcs ps).drop ((sat ss i).2.1 * 6)) (some 6) = some (pa (px ps (sat ss i).2.1) (py ps (sat ss i).2.1)) := by rw [zye3 v2]; exact Eq.trans rfl rfl
  have rC : zyem ((pcs ps).drop ((sat ss k).1 * 6)) (some 6) = some (pa (px ps (sat ss k).1) (py ps (sat ss k).1)) := by rw [zye3 w1]; exact Eq.trans rfl rfl
  have rD : zyem ((pcs ps).drop ((sat ss k).2.1 * 6)) (some 6) = some (pa (px ps (sat ss k).2.1) (py ps (sat ss k).2.1)) := by rw [zye3 w2]; exact Eq.trans rfl rfl
  rw [zf1x.l4_eq]
  rw [zyei] at hR
  cases hh1 : has (sat ss k) (sat ss i).1 with
  | true =>
   rw [hh1] at kh1
   have hR' := ih (k + 1) (H ++ [some (sqC ss k)]) st (by omega) e2 g5 (fun H' => by
    have := hR H'
    rwa [zy0l, hh1, if_neg (by simp)] at this)
   simp (disch := first | exact dD | fail) only [Wd, W2d, W3d, Nat.reduceAdd, Nat.reduceMul, Nat.reduceSub, lk, sx, rx, s1', gq, zygi, g5, fa, sqC_a, kh1, notT]
   exact hR'
  | false =>
   rw [hh1] at kh1
   cases hh2 : has (sat ss k) (sat ss i).2.1 with
   | true =>
    rw [hh2] at kh2
    have hR' := ih (k + 1) (H ++ [some (sqC ss k)]) st (by omega) e2 g5 (fun H' => by
     have := hR H'
     rwa [zy0l, hh1, hh2, if_neg (by simp)] at this)
    simp (disch := first | exact dD | fail) only [Wd, W2d, W3d, Nat.reduceAdd, Nat.reduceMul, Nat.reduceSub, lk, sx, rx, s1', gq, zygi, g5, fa, sqC_a, sqC_b, kh1, kh2, notT, notF]
    exact hR'
   | false =>
    rw [hh2] at kh2
    obtain ⟨H', c1, c2, c3⟩ := e2.round hr dz
    have cy := fun K => zy2n (C := callW gp) (refm := gp.refm) (K := K) (R := Heap) (zy6u e2.y) c1
    have h5' : live H' pid = some (sqC ss i) := by
     rw [c3 pid hp (by have := zyae h5; simp; omega)]; exact g5
    have hR' := ih (k + 1) H' _ (by omega) c2 h5' (fun H' => by
     have := hR H'
     rwa [zy0l, hh1, hh2, if_pos (by simp)] at this)
    generalize dA ps (sat ss i) (sat ss k) = d at *
    simp (disch := first | exact dD | fail) only [Wd, W2d, W3d, Nat.reduceAdd, Nat.reduceMul, Nat.reduceSub, lk, sx, rx, s1', gq, zygi, g5, fa, sqC_a, sqC_b, kh1, kh2, notT, notF, gl, xa, xb, xc, xd, rA, rB, rC, rD, kn, cy]
    exact hR'
set_option maxHeartbeats 8000000 in
theorem it_l3 (hr : RdOk rd id oid) (hz : PZ ps) (hsv : SV ps.length ss) (hn : ps.length ≤ 1000) (hm : ss.length ≤ 1000) {P : Heap → Prop} : ∀ (m i : Nat) (H : Heap) (st : Option Rat), i + m = ss.length → Env H id oid lid sid ps ss st →
  (∀ H', Env H' id oid lid sid ps ss (((List.range' i m).flatMap (row2 ps ss)).foldl told st) → P H') →
  Ends (zf1x.l3 id rd (.yld id) (.rp lid 0) (.rp sid 0) (.is ss.length false (scs ss)) (.int .i64 (ss.length : Int)) (.int .i64 (i : Int)) H) P := by
 intro m
 induction m with
 | zero =>
  intro i H st hi e hR
  obtain rfl : i = ss.length := by omega
  have lk : opBin .lss (.int .i64 (ss.length : Int)) (.int .i64 (ss.length : Int)) = some (.bool false) := lssF (by omega)
  rw [zf1x.l3_eq]
  simp (disch := first | exact dD | fail) only [Wd, W2d, W3d, Nat.reduceAdd, Nat.reduceMul, Nat.reduceSub, lk]
  rw [zy6u e.y]
  exact ⟨H, rfl, hR H e⟩
 | succ m ih =>
  intro i H st him e hR
  have hi : i < ss.length := by omega
  have lk : opBin .lss (.int .i64 (i : Int)) (.int .i64 (ss.length : Int)) = some (.bool true) := lssT (by omega)
  have sx := sidxN (sz := 3) (f := false) (cs := scs ss) hi
  have rx : zyem ((scs ss).drop (i * 3)) (some 3) = some (.agg (sgc (sq_ (sat ss i)))) := by rw [zyfo hi]; exact Eq.trans rfl rfl
  have s1' : zydm (H ++ [some [.int .i64 0, .int .i64 0, .bool false]]) 3 (.rp H.length 0) (.agg (sgc (sq_ (sat ss i)))) = some (H ++ [some (sqC ss i)]) := zygj (h := H) (z := [.int .i64 0, .int .i64 0, .bool false]) (v := sqC ss i) (n := 3) rfl ⟨rfl, rfl⟩
  have e2 := e.app (some (sqC ss i))
  have gl : zyd4 (H ++ [some (sqC ss i)]) none (.rp sid 0) = some (.is ss.length false (scs ss)) := by
   show (live (H ++ [some (sqC ss i)]) sid).bind _ = _
   rw [e2.s]; rfl
  obtain ⟨fl, sl⟩ := slc_scs (ss := ss) (n := ss.length) (f := false) (i := i) (by omega)
  have hp : H.length ≠ oid := fun hh => by have := zyae e.o; omega
  have hg := it_l4 (lid := lid) (sid := sid) (fl := fl) hr hz hsv hn hm hi hp (P := P) i 0 (H ++ [some (sqC ss i)]) st (by omega) e2 zya9 (fun H4 e4 => by
   refine ih (i + 1) H4 _ (by omega) e4 fun H5 e5 => hR H5 ?_
   rw [zyei, List.flatMap_cons, List.foldl_append]
   exact e5)
  rw [zf1x.l3_eq]
  simp (disch := first | exact dD | fail) only [Wd, W2d, W3d, Nat.reduceAdd, Nat.reduceMul, Nat.reduceSub, lk, sx, rx, s1', gl, sl]
  exact hg
theorem it_run (hr : RdOk rd id oid) (hz : PZ ps) (hsv : SV ps.length ss) (hn : ps.length ≤ 1000) (hm : ss.length ≤ 1000) {H : Heap} {st : Option Rat} (e : Env H id oid lid sid ps ss st) : ∃ H', zf1x.run id rd [.yld id, .rp lid 0, .rp sid 0] H = some H' ∧ Env H' id oid lid sid ps ss ((allD ps ss).foldl told st) := by
 have l1 : zyd4 H none (.rp lid 0) = some (.is ps.length false (pcs ps)) := by
  show (live H lid).bind _ = _
  rw [e.l]; rfl
 rw [zf1x.run_eq]
 unfold zf1x.y
 simp (disch := first | exact dD | fail) only [Wd, W2d, W3d, Nat.reduceAdd, Nat.reduceMul, Nat.reduceSub, l1]
 have := it_l0 (P := fun H' => Env H' id oid lid sid ps ss ((allD ps ss).foldl told st)) hr hz hsv hn hm ps.length 0 H st (by omega) e fun H1 e1 => it_l3 hr hz hsv hn hm ss.length 0 H1 _ (by omega) e1 fun H2 e2 => by
  unfold allD
  rw [List.foldl_append]
  exact e2
 exact this
end
end Go.Proofs.YtiblnpnfaadmcaaGreat.Am
