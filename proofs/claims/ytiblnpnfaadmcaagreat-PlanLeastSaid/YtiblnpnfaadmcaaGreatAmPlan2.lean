import Derived.Test.YtiblnpnfaadmcaaGreatAmPlan1
/- Section 09: all distances that count, told one by one. -/
set_option linter.unusedVariables false
set_option maxRecDepth 10000
set_option linter.unusedSimpArgs false
namespace Go.Proofs.YtiblnpnfaadmcaaGreat.Am
open Go

def PZ (ps : List (Rat × Rat)) : Prop := ∀ i, i < ps.length → Rz (px ps i) 40 ∧ Rz (py ps i) 40
def SV (n : Nat) (ss : List Sq) : Prop := ∀ i, i < ss.length → (sat ss i).1 < n ∧ (sat ss i).2.1 < n
def RdOk (rd : List AV → Heap → Option Heap) (id oid : Nat) : Prop := ∀ (H : Heap) (st : Option Rat) (d : Rat), live H id = some [] → live H oid = some (lsc st) → UZ st 8000 → Rz d 8000 → ∃ H', rd [ra d] H = some H' ∧ live H' oid = some (lsc (told st d)) ∧ H.length ≤ H'.length ∧ ∀ j, j ≠ oid → j < H.length → live H' j = live H j
structure Env (H : Heap) (id oid lid sid : Nat) (ps : List (Rat × Rat)) (ss : List Sq) (st : Option Rat) : Prop where
 y : live H id = some []
 o : live H oid = some (lsc st)
 l : live H lid = some [.is ps.length false (pcs ps)]
 s : live H sid = some [.is ss.length false (scs ss)]
 z : UZ st 8000
 n1 : id ≠ oid
 n2 : lid ≠ oid
 n3 : sid ≠ oid
 r : live H 0 = some z3
 n0 : 0 ≠ oid
theorem zy6u {H : Heap} {id : Nat} (h : live H id = some []) : hasY id H = true := by unfold hasY; rw [h]
section
variable {rd : List AV → Heap → Option Heap} {id oid lid sid : Nat} {ps : List (Rat × Rat)} {ss : List Sq}
theorem Env.app {H : Heap} {st : Option Rat} (e : Env H id oid lid sid ps ss st) (x : Option (List AV)) : Env (H ++ [x]) id oid lid sid ps ss st :=
 ⟨zya8 e.y, zya8 e.o, zya8 e.l, zya8 e.s, e.z, e.n1, e.n2, e.n3, zya8 e.r, e.n0⟩
theorem Env.round {H : Heap} {st : Option Rat} {d : Rat} (hr : RdOk rd id oid) (e : Env H id oid lid sid ps ss st) (hd : Rz d 8000) : ∃ H', rd [ra d] H = some H' ∧ Env H' id oid lid sid ps ss (told st d) ∧ ∀ j, j ≠ oid → j < H.length → live H' j = live H j := by
 obtain ⟨H', h1, h2, h3, h4⟩ := hr H st d e.y e.o e.z hd
 exact ⟨H', h1, ⟨by rw [h4 id e.n1 (zyae e.y)]; exact e.y, h2, by rw [h4 lid e.n2 (zyae e.l)]; exact e.l, by rw [h4 sid e.n3 (zyae e.s)]; exact e.s, zyhf e.z hd, e.n1, e.n2, e.n3, by rw [h4 0 e.n0 (zyae e.r)]; exact e.r, e.n0⟩, h4⟩
theorem px_take {i k : Nat} (h : k < i) : px (ps.take i) k = px ps k ∧ py (ps.take i) k = py ps k := by
 unfold px py
 simp only [List.getD, List.getElem?_take, if_pos h]
 exact ⟨trivial, trivial⟩
theorem sat_take {i k : Nat} (h : k < i) : sat (ss.take i) k = sat ss k := by
 unfold sat
 simp only [List.getD, List.getElem?_take, if_pos h]
theorem slc_pcs {n i : Nat} {f : Bool} (h : i ≤ n) : ∃ fl, opSlc 6 (.is n f (pcs ps)) none (some (.int .i64 (i : Int))) none = some (.is i fl (pcs (ps.take i))) := by
 refine ⟨zy6b none f i n n, ?_⟩
 have := slc_hd (xs := ps.map pc) (fl := f) (k := .i64) zye8 h
 unfold pcs
 rw [this, List.map_take]
theorem slc_scs {n i : Nat} {f : Bool} (h : i ≤ n) : ∃ fl, opSlc 3 (.is n f (scs ss)) none (some (.int .i64 (i : Int))) none = some (.is i fl (scs (ss.take i))) := by
 refine ⟨zy6b none f i n n, ?_⟩
 have := slc_hd (xs := ss.map sq_) (fl := f) (k := .i64) zyg0 h
 unfold scs
 rw [this, List.map_take]
def ptC (ps : List (Rat × Rat)) (i : Nat) : List AV := [.bool (decide ((px ps i).num < 0)), str (nb (px ps i).num.natAbs), str (nb (px ps i).den), .bool (decide ((py ps i).num < 0)), str (nb (py ps i).num.natAbs), str (nb (py ps i).den)]
theorem ptC_rd {i : Nat} : zyem (ptC ps i) (some 6) = some (pa (px ps i) (py ps i)) := Eq.trans rfl rfl
def sqC (ss : List Sq) (i : Nat) : List AV := sgc (sq_ (sat ss i))
theorem zygi {i : Nat} : zyem (sqC ss i) (some 3) = some (.agg (sgc (sq_ (sat ss i)))) := Eq.trans rfl rfl
theorem sqC_a {i : Nat} : zyem (sqC ss i) none = some (.int .i64 ((sat ss i).1 : Int)) := Eq.trans rfl rfl
theorem sqC_b {i : Nat} : zyem (List.drop 1 (sqC ss i)) none = some (.int .i64 ((sat ss i).2.1 : Int)) := Eq.trans rfl rfl
def Ends (x : Option Heap) (P : Heap → Prop) : Prop := ∃ H, x = some H ∧ P H
theorem zyei {k m : Nat} : List.range' k (m + 1) = k :: List.range' (k + 1) m := rfl
theorem dec_has {s : Sq} {i : Nat} : (decide ((sq_ s).a = (i : Int)) || decide ((sq_ s).b = (i : Int))) = has s i := by
 unfold has sq_
 simp only [Int.natCast_inj]
set_option maxHeartbeats 8000000 in
theorem it_l1 (hr : RdOk rd id oid) (hz : PZ ps) (hn : ps.length ≤ 1000) {i pid : Nat} (hi : i < ps.length) (hp : pid ≠ oid) {fl : Bool} {y16 y17 : AV} {P : Heap → Prop} : ∀ (m k : Nat) (H : Heap) (st : Option Rat), k + m = i → Env H id oid lid sid ps ss st → live H pid = some (ptC ps i) →
  (∀ H' y42 y43, y42 = .is ss.length false (scs ss) → y43 = .int .i64 (ss.length : Int) → Env H' id oid lid sid ps ss (((List.range' k m).map (dF ps i)).foldl told st) → live H' pid = some (ptC ps i) → Ends (zf1x.l2 id rd (.yld id) (.rp lid 0) (.rp sid 0) (.int .i64 (i : Int)) (.rp pid 0) y16 y17 (.int .i64 (i : Int)) y42 y43 (.int .i64 ((0 : Nat) : Int)) H') P) →
  Ends (zf1x.l1 id rd (.yld id) (.rp lid 0) (.rp sid 0) (.int .i64 (i : Int)) (.rp pid 0) y16 y17 (.int .i64 (i : Int)) (.is i fl (pcs (ps.take i))) (.int .i64 (i : Int)) (.int .i64 (k : Int)) H) P := by
 intro m
 induction m with
 | zero =>
  intro k H st hk e h5 hR
  obtain rfl : k = i := by omega
  have lk : opBin .lss (.int .i64 (k : Int)) (.int .i64 (k : Int)) = some (.bool false) := lssF (by omega)
  have l2 : zyd4 H none (.rp sid 0) = some (.is ss.length false (scs ss)) := by
   show (live H sid).bind _ = _
   rw [e.s]; rfl
  rw [zf1x.l1_eq]
  simp (disch := first | exact dD | fail) only [Wd, W2d, W3d, Nat.reduceAdd, Nat.reduceMul, Nat.reduceSub, lk, l2]
  exact hR H _ _ rfl rfl e h5
 | succ m ih =>
  intro k H st hk e h5 hR
  have hki : k < i := by omega
  have lk : opBin .lss (.int .i64 (k : Int)) (.int .i64 (i : Int)) = some (.bool true) := lssT (by omega)
  have sx := sidxN (sz := 6) (f := fl) (cs := pcs (ps.take i)) hki
  have ea := zye3 (ps := ps.take i) (i := k) (by rw [List.length_take]; omega)
  rw [(px_take hki).1, (px_take hki).2] at ea
  obtain ⟨zi1, zi2⟩ := hz i hi
  obtain ⟨zk1, zk2⟩ := hz k (by omega)
  have kf := fun h => k_far (h := h) (zi1.mono (by omega)) (zi2.mono (by omega)) (zk1.mono (by omega)) (zk2.mono (by omega))
  have dz : Rz (dF ps i k) 8000 := (zy5c zi1 zi2 zk1 zk2).mono (by omega)
  have s1 := zygj (h := H) (z := [.bool false, .str ⟨#[]⟩, .str ⟨#[]⟩, .bool false, .str ⟨#[]⟩, .str ⟨#[]⟩]) (v := ptC ps k) (n := 6) rfl ⟨rfl, rfl⟩
  have s2 := zygj (h := H ++ [some (ptC ps k)]) (z := [.bool false, .str ⟨#[]⟩, .str ⟨#[]⟩]) (v := rcl (dF ps i k)) (n := 3) rfl ⟨rfl, rfl⟩
  have g5 : live (H ++ [some (ptC ps k)]) pid = some (ptC ps i) := zya8 h5
  have gq : live (H ++ [some (ptC ps k)]) H.length = some (ptC ps k) := zya9
  have e2 := (e.app (some (ptC ps k))).app (some (rcl (dF ps i k)))
  have gd : live (H ++ [some (ptC ps k)] ++ [some (rcl (dF ps i k))]) (H ++ [some (ptC ps k)]).length = some (rcl (dF ps i k)) := zya9
  obtain ⟨H', c1, c2, c3⟩ := e2.round hr dz
  have cy := fun K => zy2n (C := callW gp) (refm := gp.refm) (K := K) (R := Heap) (zy6u e2.y) c1
  have h5' : live H' pid = some (ptC ps i) := by
   rw [c3 pid hp (by have := zyae h5; simp; omega)]; exact zya8 g5
  have hR' := ih (k + 1) H' (told st (dF ps i k)) (by omega) c2 h5' (fun H' y42 y43 q1 q2 => by
   have := hR H' y42 y43 q1 q2
   rwa [zyei, List.map_cons, List.foldl_cons] at this)
  rw [zf1x.l1_eq]
  have kf' : ∀ h, byVal (callW gp) h fid.zf1y [pa (px ps i) (py ps i), pa (px ps k) (py ps k)] = some (.tup [ra (dF ps i k), .int .i64 0]) := kf
  have s1' : zydm (H ++ [some [.bool false, .str ⟨#[]⟩, .str ⟨#[]⟩, .bool false, .str ⟨#[]⟩, .str ⟨#[]⟩]]) 6 (.rp H.length 0) (pa (px ps k) (py ps k)) = some (H ++ [some (ptC ps k)]) := s1
  have rx : zyem ((pcs (ps.take i)).drop (k * 6)) (some 6) = some (pa (px ps k) (py ps k)) := by rw [ea]; exact Eq.trans rfl rfl
  generalize dF ps i k = d at *
  simp (disch := first | exact dD | fail) only [Wd, W2d, W3d, Nat.reduceAdd, Nat.reduceMul, Nat.reduceSub, lk, sx, rx, s1', g5, gq, ptC_rd, kf', s2, gd, zyel, cy, notT]
  exact hR'
theorem zyc0 {s : Sq} {l : List Sq} {i : Nat} {st : Option Rat} : (nears ps (s :: l) i).foldl told st = (nears ps l i).foldl told (if has s i = true then st else told st (dN ps s i)) := by
 unfold nears
 rw [List.filter_cons]
 cases has s i
 ·simp
 ·simp
set_option maxHeartbeats 16000000 in
theorem it_l2 (hr : RdOk rd id oid) (hz : PZ ps) (hsv : SV ps.length ss) (hn : ps.length ≤ 1000) (hm : ss.length ≤ 1000) {i pid : Nat} (hi : i < ps.length) (hp : pid ≠ oid) {y16 y17 : AV} {P : Heap → Prop} : ∀ (m k : Nat) (H : Heap) (st : Option Rat), k + m = ss.length → Env H id oid lid sid ps ss st → live H pid = some (ptC ps i) →
  (∀ H', Env H' id oid lid sid ps ss ((nears ps (ss.drop k) i).foldl told st) → Ends (zf1x.l0 id rd (.yld id) (.rp lid 0) (.rp sid 0) y16 y17 (.int .i64 ((i + 1 : Nat) : Int)) H') P) →
  Ends (zf1x.l2 id rd (.yld id) (.rp lid 0) (.rp sid 0) (.int .i64 (i : Int)) (.rp pid 0) y16 y17 (.int .i64 (i : Int)) (.is ss.length false (scs ss)) (.int .i64 (ss.length : Int)) (.int .i64 (k : Int)) H) P := by
 have fa : ∀ k id off, zyd1 k (.rp id off) = some (.rp id (off + k)) := fun _ _ _ => rfl
 intro m
 induction m with
 | zero =>
  intro k H st hk e h5 hR
  obtain rfl : k = ss.length := by omega
  have lk : opBin .lss (.int .i64 (ss.length : Int)) (.int .i64 (ss.length : Int)) = some (.bool false) := lssF (by omega)
  rw [zf1x.l2_eq]
  simp (disch := first | exact dD | fail) only [Wd, W2d, W3d, Nat.reduceAdd, Nat.reduceMul, Nat.reduceSub, lk]
  rw [List.drop_length] at hR
  exact hR H e
 | succ m ih =>
  intro k H st hk e h5 hR
  have hks : k < ss.length := by omega
  have lk : opBin .lss (.int .i64 (k : Int)) (.int .i64 (ss.length : Int)) = some (.bool true) := lssT (by omega)
  have sx := sidxN (sz := 3) (f := false) (cs := scs ss) hks
  have ea := zyfo hks
  have esk : ss[k] = sat ss k := by unfold sat; simp [List.getD, List.getElem?_eq_getElem hks]
  rw [List.drop_eq_getElem_cons hks, esk] at hR
  obtain ⟨v1, v2⟩ := hsv k hks
  obtain ⟨zi1, zi2⟩ := hz i hi
  obtain ⟨za1, za2⟩ := hz _ v1
  obtain ⟨zb1, zb2⟩ := hz _ v2
  have kn := fun h => zy97 (h := h) (za1.mono (by omega)) (za2.mono (by omega)) (zb1.mono (by omega)) (zb2.mono (by omega)) (zi1.mono (by omega)) (zi2.mono (by omega))
  have kn' : ∀ h, byVal (callW gp) h fid.zf1q [pa (px ps (sat ss k).1) (py ps (sat ss k).1), pa (px ps (sat ss k).2.1) (py ps (sat ss k).2.1), pa (px ps i) (py ps i)] = some (ra (dN ps (sat ss k) i)) := kn
  have dz : Rz (dN ps (sat ss k) i) 8000 := (zybz za1 za2 zb1 zb2 zi1 zi2).mono (by omega)
  have s1 := zygj (h := H) (z := [.int .i64 0, .int .i64 0, .bool false]) (v := sqC ss k) (n := 3) rfl ⟨rfl, rfl⟩
  have s1' : zydm (H ++ [some [.int .i64 0, .int .i64 0, .bool false]]) 3 (.rp H.length 0) (.agg (sgc (sq_ (sat ss k)))) = some (H ++ [some (sqC ss k)]) := s1
  have rx : zyem ((scs ss).drop (k * 3)) (some 3) = some (.agg (sgc (sq_ (sat ss k)))) := by rw [ea]; exact Eq.trans rfl rfl
  have kh := fun h => k_has (h := h) (s := sq_ (sat ss k)) (v := (i : Int))
  rw [dec_has] at kh
  have gq : live (H ++ [some (sqC ss k)]) H.length = some (sqC ss k) := zya9
  have e2 := e.app (some (sqC ss k))
  have gl : zyd4 (H ++ [some (sqC ss k)]) none (.rp lid 0) = some (.is ps.length false (pcs ps)) := by
   show (live (H ++ [some (sqC ss k)]) lid).bind _ = _
   rw [e2.l]; rfl
  have g5 : live (H ++ [some (sqC ss k)]) pid = some (ptC ps i) := zya8 h5
  have xa := sidxN (sz := 6) (f := false) (cs := pcs ps) v1
  have xb := sidxN (sz := 6) (f := false) (cs := pcs ps) v2
  have ra_ : zyem ((pcs ps).drop ((sat ss k).1 * 6)) (some 6) = some (pa (px ps (sat ss k).1) (py ps (sat ss k).1)) := by rw [zye3 v1]; exact Eq.trans rfl rfl
  have rb_ : zyem ((pcs ps).drop ((sat ss k).2.1 * 6)) (some 6) = some (pa (px ps (sat ss k).2.1) (py ps (sat ss k).2.1)) := by rw [zye3 v2]; exact Eq.trans rfl rfl
  rw [zf1x.l2_eq]
  cases hh : has (sat ss k) i with
  | true =>
   rw [hh] at kh
   have hR' := ih (k + 1) (H ++ [some (sqC ss k)]) st (by omega) e2 g5 (fun H' => by
    have := hR H'
    rwa [zyc0, hh, if_pos rfl] at this)
   simp (disch := first | exact dD | fail) only [Wd, W2d, W3d, Nat.reduceAdd, Nat.reduceMul, Nat.reduceSub, lk, sx, rx, s1', gq, zygi, kh, notT]
   exact hR'
  | false =>
   rw [hh] at kh
   obtain ⟨H', c1, c2, c3⟩ := e2.round hr dz
   have cy := fun K => zy2n (C := callW gp) (refm := gp.refm) (K := K) (R := Heap) (zy6u e2.y) c1
   have h5' : live H' pid = some (ptC ps i) := by
    rw [c3 pid hp (by have := zyae h5; simp; omega)]; exact g5
   have hR' := ih (k + 1) H' _ (by omega) c2 h5' (fun H' => by
    have := hR H'
    rwa [zyc0, hh, if_neg (by simp)] at this)
   generalize dN ps (sat ss k) i = d at *
   simp (disch := first | exact dD | fail) only [Wd, W2d, W3d, Nat.reduceAdd, Nat.reduceMul, Nat.reduceSub, lk, sx, rx, s1', gq, zygi, kh, notF, notT, gl, fa, sqC_a, sqC_b, xa, xb, ra_, rb_, g5, ptC_rd, kn', cy]
   exact hR'
set_option maxHeartbeats 8000000 in
theorem it_l0 (hr : RdOk rd id oid) (hz : PZ ps) (hsv : SV ps.length ss) (hn : ps.length ≤ 1000) (hm : ss.length ≤ 1000) {P : Heap → Prop} : ∀ (m i : Nat) (H : Heap) (st : Option Rat), i + m = ps.length → Env H id oid lid sid ps ss st →
  (∀ H', Env H' id oid lid sid ps ss (((List.range' i m).flatMap (row1 ps ss)).foldl told st) → Ends (zf1x.l3 id rd (.yld id) (.rp lid 0) (.rp sid 0) (.is ss.length false (scs ss)) (.int .i64 (ss.length : Int)) (.int .i64 ((0 : Nat) : Int)) H') P) →
  Ends (zf1x.l0 id rd (.yld id) (.rp lid 0) (.rp sid 0) (.is ps.length false (pcs ps)) (.int .i64 (ps.length : Int)) (.int .i64 (i : Int)) H) P := by
 intro m
 induction m with
 | zero =>
  intro i H st hi e hR
  obtain rfl : i = ps.length := by omega
  have lk : opBin .lss (.int .i64 (ps.length : Int)) (.int .i64 (ps.length : Int)) = some (.bool false) := lssF (by omega)
  have l2 : zyd4 H none (.rp sid 0) = some (.is ss.length false (scs ss)) := by
   show (live H sid).bind _ = _
   rw [e.s]; rfl
  rw [zf1x.l0_eq]
  simp (disch := first | exact dD | fail) only [Wd, W2d, W3d, Nat.reduceAdd, Nat.reduceMul, Nat.reduceSub, lk, l2]
  exact hR H e
 | succ m ih =>
  intro i H st him e hR
  have hi : i < ps.length := by omega
  have lk : opBin .lss (.int .i64 (i : Int)) (.int .i64 (ps.length : Int)) = some (.bool true) := lssT (by omega)
  have sx := sidxN (sz := 6) (f := false) (cs := pcs ps) hi
  have rx : zyem ((pcs ps).drop (i * 6)) (some 6) = some (pa (px ps i) (py ps i)) := by rw [zye3 hi]; exact Eq.trans rfl rfl
  have s1 := zygj (h := H) (z := [.bool false, .str ⟨#[]⟩, .str ⟨#[]⟩, .bool false, .str ⟨#[]⟩, .str ⟨#[]⟩]) (v := ptC ps i) (n := 6) rfl ⟨rfl, rfl⟩
  have s1' : zydm (H ++ [some [.bool false, .str ⟨#[]⟩, .str ⟨#[]⟩, .bool false, .str ⟨#[]⟩, .str ⟨#[]⟩]]) 6 (.rp H.length 0) (pa (px ps i) (py ps i)) = some (H ++ [some (ptC ps i)]) := s1
  have e2 := e.app (some (ptC ps i))
  have gl : zyd4 (H ++ [some (ptC ps i)]) none (.rp lid 0) = some (.is ps.length false (pcs ps)) := by
   show (live (H ++ [some (ptC ps i)]) lid).bind _ = _
   rw [e2.l]; rfl
  obtain ⟨fl, sl⟩ := slc_pcs (ps := ps) (n := ps.length) (f := false) (i := i) (by omega)
  have hp : H.length ≠ oid := fun hh => by have := zyae e.o; omega
  have hg := it_l1 (lid := lid) (sid := sid) (y16 := .is ps.length false (pcs ps)) (y17 := .int .i64 (ps.length : Int)) (fl := fl) hr hz hn hi hp (P := P) i 0 (H ++ [some (ptC ps i)]) st (by omega) e2 zya9 (fun H' y42 y43 q1 q2 e3 h5 => by
   subst q1; subst q2
   refine it_l2 hr hz hsv hn hm hi hp ss.length 0 H' _ (by omega) e3 h5 fun H4 e4 => ?_
   refine ih (i + 1) H4 _ (by omega) e4 fun H5 e5 => hR H5 ?_
   rw [List.drop_zero] at e5
   rw [zyei, List.flatMap_cons, List.foldl_append]
   unfold row1 at e5 ⊢
   rw [List.foldl_append]
   exact e5)
  rw [zf1x.l0_eq]
  simp (disch := first | exact dD | fail) only [Wd, W2d, W3d, Nat.reduceAdd, Nat.reduceMul, Nat.reduceSub, lk, sx, rx, s1', gl, sl]
  exact hg
theorem zy0l {i k : Nat} {l : List Nat} {st : Option Rat} : (zy0k ps ss i (k :: l)).foldl told st = (zy0k ps ss i l).foldl told (if (!has (sat ss k) (sat ss i).1 && !has (sat ss k) (sat ss i).2.1) = true then told st (dA ps (sat ss i) (sat ss k)) else st) := by
 unfold zy0k
 rw [List.filter_cons]
 cases (!has (sat ss k) (sat ss i).1 && !has (sat ss k) (sat ss i).2.1)
 ·simp
 ·simp
end
end Go.Proofs.YtiblnpnfaadmcaaGreat.Am
