import Derived.Test.YtiblnpnfaadmcaaGreatAmPlan5
/- Section 09: Least2. -/
set_option linter.unusedVariables false
set_option maxRecDepth 10000
set_option linter.unusedSimpArgs false
namespace Go.Proofs.YtiblnpnfaadmcaaGreat.Am
open Go

theorem c_dist {H : Heap} {n m : Nat} {f g : Bool} {cs ds : List AV} : callW gp fid.zf19 [.is n f cs, .is m g ds] H = some (.fn fid.zf1x [.rp H.length 0, .rp (H.length + 1) 0], H ++ [some [.is n f cs]] ++ [some [.is m g ds]]) := by
 rw [zf19.eq]
 unfold zf19.f
 have b1 : opBox H (.is n f cs) = some (.rp H.length 0, H ++ [some [.is n f cs]]) := rfl
 have b2 : opBox (H ++ [some [.is n f cs]]) (.is m g ds) = some (.rp (H.length + 1) 0, H ++ [some [.is n f cs]] ++ [some [.is m g ds]]) := by
  show some _ = some _
  simp [AV.cells]
 rw [b1, Option.bind_some, b2]
 rfl
theorem len1p {H : Heap} {x : Option (List AV)} : (H ++ [x]).length = H.length + 1 := by simp
theorem live_at {H : Heap} {x : List AV} {k : Nat} (hk : k = H.length) : live (H ++ [some x]) k = some x := by subst hk; exact zya9
section
variable {ps : List (Rat × Rat)} {ss : List Sq}
set_option maxHeartbeats 16000000 in
theorem least_end (hz : PZ ps) (hsv : SV ps.length ss) (h2 : 2 ≤ ps.length) (hn : ps.length ≤ 1000) (hm : ss.length ≤ 1000) {H : Heap} (h0 : live H 0 = some z3) : zf0j.l0 (.is ps.length false (pcs ps)) (.is ss.length false (scs ss)) (.rp 0 0) (.is ss.length false (scs ss)) (.int .i64 (ss.length : Int)) (.int .i64 (ss.length : Int)) H = some (.tup [ra (zy9j ps ss), .int .i64 0]) := by
 have fa : ∀ k id off, zyd1 k (.rp id off) = some (.rp id (off + k)) := fun _ _ _ => rfl
 have hlt := zyae h0
 have lk : opBin .lss (.int .i64 (ss.length : Int)) (.int .i64 (ss.length : Int)) = some (.bool false) := lssF (by omega)
 rw [zf0j.l0_eq, lk]
 have cd := c_dist (H := H ++ [some (lsc none)]) (n := ps.length) (m := ss.length) (f := false) (g := false) (cs := pcs ps) (ds := scs ss)
 rw [len1p] at cd
 have cd' : callW gp fid.zf19 [.is ps.length false (pcs ps), .is ss.length false (scs ss)] (H ++ [some [.bool false, .str ⟨#[]⟩, .str ⟨#[]⟩, .bool false]]) = some (.fn fid.zf1x [.rp (H.length + 1) 0, .rp (H.length + 1 + 1) 0], H ++ [some (lsc none)] ++ [some [.is ps.length false (pcs ps)]] ++ [some [.is ss.length false (scs ss)]]) := cd
 simp (disch := first | exact dD | fail) only [Wd, W2d, W3d, Nat.reduceAdd, Nat.reduceMul, Nat.reduceSub, cd']
 generalize hHH : H ++ [some (lsc none)] ++ [some [.is ps.length false (pcs ps)]] ++ [some [.is ss.length false (scs ss)]] = HH
 have hlen : HH.length = H.length + 3 := by rw [← hHH]; simp
 have e1 : Env (HH ++ [some []]) HH.length H.length (H.length + 1) (H.length + 1 + 1) ps ss none := {
  y := zya9
  o := by rw [← hHH]; exact zya8 (zya8 (zya8 zya9))
  l := by rw [← hHH]; exact zya8 (zya8 (live_at (by simp)))
  s := by rw [← hHH]; exact zya8 (live_at (by simp))
  z := fun m hm => by cases hm
  n1 := by omega
  n2 := by omega
  n3 := by omega
  r := by rw [← hHH]; exact zya8 (zya8 (zya8 (zya8 h0)))
  n0 := by omega }
 have hrd := rd_ok (y0 := .is ps.length false (pcs ps)) (y1 := .is ss.length false (scs ss)) (y4 := .rp 0 0) (y30 := .is ss.length false (scs ss)) (y31 := .int .i64 (ss.length : Int)) (y32 := .int .i64 (ss.length : Int)) (y33 := .bool false) (y54 := .is ps.length false (pcs ps)) (y55 := .is ss.length false (scs ss)) (y56 := .fn fid.zf1x [.rp (H.length + 1) 0, .rp (H.length + 1 + 1) 0]) (id := HH.length) (oid := H.length) (by omega)
 obtain ⟨H1, r1, e2⟩ := it_run hrd hz hsv hn hm e1
 rw [(zy9l h2).1] at e2
 rw [zyf5 (h1 := H1) r1]
 have hl1 := zyae e2.y
 have ls : ∀ j, j ≠ HH.length → live (H1.set HH.length none) j = live H1 j := fun j hj => by rw [zyag hl1, if_neg hj]
 have go : live (H1.set HH.length none) H.length = some (lsc (some (zy9j ps ss))) := by rw [ls _ (by omega)]; exact e2.o
 have g0 : live (H1.set HH.length none) 0 = some z3 := by rw [ls _ (by omega)]; exact e2.r
 generalize H1.set HH.length none = H2 at *
 generalize zy9j ps ss = M at *
 have rM : zyem (lsc (some M)) (some 3) = some (ra M) := Eq.trans rfl rfl
 have hs := zygk (a := .bool (decide (M.num < 0))) (b := str (nb M.num.natAbs)) (c := str (nb M.den)) rfl g0 rfl
 have gl : live (H2.set 0 (some (rcl M))) 0 = some (rcl M) := by rw [zyag (zyae g0), if_pos rfl]
 rw [st_rp] at hs
 simp (disch := first | exact dD | fail) only [Wd, W2d, W3d, Nat.reduceAdd, Nat.reduceMul, Nat.reduceSub, fa, go, rM, hs, gl, zyel]
variable {h : Heap}
theorem zy5p {α : Type} {f : α → Int} : ∀ {l : List α}, (∀ t ∈ l, f t = 0) → zy5n (l.map f) = 0
 | [], _ => rfl
 | t :: l, hl => by
  rw [List.map_cons, zy5n, if_pos (hl t (List.mem_cons_self ..))]
  exact zy5p fun t ht => hl t (List.mem_cons_of_mem _ ht)
theorem zy7e {n : Nat} {xs : List PT} : Imm 12 (.is n false (xs.flatMap ptc)) := (zy7d (zy79 zy7o xs)).mono (by omega)
theorem zy7f {n : Nat} {gs : List Sg} : Imm 12 (.is n false (gs.flatMap sgc)) := (zy7d (zy79 zy7r gs)).mono (by omega)
theorem gtrF {a b : Int} (h : a ≤ b) : opBin .gtr (.int .i64 a) (.int .i64 b) = some (.bool false) := by
 have := zy0z (k := .i64) (x := a) (y := b)
 rw [this]
 congr 2
 exact decide_eq_false (by omega)
theorem neqT9 {z : Int} (h : z ≠ 0) : opBin .neq (.int .i64 z) (.int .i64 0) = some (.bool true) := by rw [zy12]; exact congrArg (fun b => some (AV.bool b)) (decide_eq_true h)
theorem neqF9 : opBin .neq (.int .i64 0) (.int .i64 0) = some (.bool false) := rfl
theorem st_z0 : zydm [some [.bool false, .str ⟨#[]⟩, .str ⟨#[]⟩]] 3 (.rp 0 0) (.agg z3) = some [some z3] := st_z rfl
theorem k_leastE {xs : List PT} {gs : List Sg} (hx : ∀ t ∈ xs, t.ok) (n1 : xs.length ≤ 40) (n2 : gs.length ≤ 60) (hne : zy5n (xs.map askc) ≠ 0) : byVal (callW gp) h fid.zf0j [.is xs.length false (xs.flatMap ptc), .is gs.length false (gs.flatMap sgc)] = some (.tup [.agg z3, .int .i64 (zy5n (xs.map askc))]) := zy1m (zy74 zy7e zy7f) (by
 have ka := fun h f => zy96 (h := h) (f := f) hx (by omega)
 have c1 : opBin .gtr (.int .i64 (xs.length : Int)) (.int .i64 40) = some (.bool false) := gtrF (by omega)
 have c2 : opBin .gtr (.int .i64 (gs.length : Int)) (.int .i64 60) = some (.bool false) := gtrF (by omega)
 have nq := neqT9 hne
 have g0 : live [some z3] 0 = some z3 := rfl
 have sz := st_z0
 rw [st_rp] at sz
 rw [zf0j.eq]
 unfold zf0j.f
 simp (disch := first | exact dD | fail) only [Wd, W2d, W3d, Nat.reduceAdd, Nat.reduceMul, Nat.reduceSub, c1, c2, ka, nq, bldz, sz, z3_rd, fz_z]
 try exact fz_z)
theorem k_least1 {xs : List PT} {gs : List Sg} (hx : ∀ t ∈ xs, t.ok) (n1 : xs.length < 2) (n2 : gs.length ≤ 60) (hne : zy5n (xs.map askc) = 0) : byVal (callW gp) h fid.zf0j [.is xs.length false (xs.flatMap ptc), .is gs.length false (gs.flatMap sgc)] = some (.tup [.agg z3, .int .i64 1]) := zy1m (zy74 zy7e zy7f) (by
 have ka := fun h f => zy96 (h := h) (f := f) hx (by omega)
 rw [hne] at ka
 have c1 : opBin .gtr (.int .i64 (xs.length : Int)) (.int .i64 40) = some (.bool false) := gtrF (by omega)
 have c2 : opBin .gtr (.int .i64 (gs.length : Int)) (.int .i64 60) = some (.bool false) := gtrF (by omega)
 have c3 : opBin .lss (.int .i64 (xs.length : Int)) (.int .i64 2) = some (.bool true) := lssT (by omega)
 have sz := st_z0
 rw [st_rp] at sz
 rw [zf0j.eq]
 unfold zf0j.f
 simp (disch := first | exact dD | fail) only [Wd, W2d, W3d, Nat.reduceAdd, Nat.reduceMul, Nat.reduceSub, c1, c2, c3, ka, neqF9, bldz, sz, z3_rd, fz_z]
 try exact fz_z)
theorem k_leastB {xs : List PT} {gs : List Sg} (hx : ∀ t ∈ xs, t.ok) (n0 : 2 ≤ xs.length) (n1 : xs.length ≤ 40) (n2 : gs.length ≤ 60) (hne : zy5n (xs.map askc) = 0) (hb : ∃ s ∈ gs, ¬ EV xs.length s) : byVal (callW gp) h fid.zf0j [.is xs.length false (xs.flatMap ptc), .is gs.length false (gs.flatMap sgc)] = some (.tup [.agg z3, .int .i64 1]) := zy1m (zy74 zy7e zy7f) (by
 have ka := fun h f => zy96 (h := h) (f := f) hx (by omega)
 rw [hne] at ka
 have c1 : opBin .gtr (.int .i64 (xs.length : Int)) (.int .i64 40) = some (.bool false) := gtrF (by omega)
 have c2 : opBin .gtr (.int .i64 (gs.length : Int)) (.int .i64 60) = some (.bool false) := gtrF (by omega)
 have c3 : opBin .lss (.int .i64 (xs.length : Int)) (.int .i64 2) = some (.bool false) := lssF (by omega)
 have g := zy9k (xs := gs) (n := xs.length) (f := false) (fl := false) (cs := xs.flatMap ptc) (by omega) (RR := some (.tup [.agg z3, .int .i64 1])) (fun _ => rfl) gs.length 0 [some z3] (by omega) rfl (fun hv => by
  obtain ⟨s, h1, h2⟩ := hb
  exact absurd (hv s h1) h2) (by simp)
 rw [zf0j.eq]
 unfold zf0j.f
 simp (disch := first | exact dD | fail) only [Wd, W2d, W3d, Nat.reduceAdd, Nat.reduceMul, Nat.reduceSub, c1, c2, c3, ka, neqF9]
 exact g)
theorem pc_ok {ps : List (Rat × Rat)} : ∀ t ∈ ps.map pc, t.ok := fun t ht => by
 obtain ⟨p, hp, rfl⟩ := List.mem_map.1 ht
 exact ⟨⟨nb_lt _, nb_lt _⟩, ⟨nb_lt _, nb_lt _⟩⟩
theorem k_least (hz : PZ ps) (hsv : SV ps.length ss) (h2 : 2 ≤ ps.length) (hn : ps.length ≤ 40) (hm : ss.length ≤ 60) : byVal (callW gp) h fid.zf0j [.is ps.length false (pcs ps), .is ss.length false (scs ss)] = some (.tup [ra (zy9j ps ss), .int .i64 0]) := zy1m (zy74 zy7e zy7f) (by
 have hl : (ps.map pc).length = ps.length := List.length_map ..
 have hls : (ss.map sq_).length = ss.length := List.length_map ..
 have hask : zy5n ((ps.map pc).map askc) = 0 := zy5p fun t ht => by
  obtain ⟨p, hp, rfl⟩ := List.mem_map.1 ht
  obtain ⟨i, hi, rfl⟩ := List.getElem_of_mem hp
  obtain ⟨z1, z2⟩ := hz i hi
  have e : ps.getD i (0, 0) = ps[i] := by simp [List.getD, List.getElem?_eq_getElem hi]
  unfold px at z1
  unfold py at z2
  rw [e] at z1 z2
  exact zy0r (z1.mono (by omega)) (z2.mono (by omega))
 have ka := fun h f => zy96 (h := h) (f := f) (xs := ps.map pc) pc_ok (by omega)
 rw [hask, hl] at ka
 have ka : ∀ h f, byVal (callW gp) h fid.zf0x [.is ps.length f (pcs ps)] = some (.int .i64 0) := ka
 have c1 : opBin .gtr (.int .i64 (ps.length : Int)) (.int .i64 40) = some (.bool false) := gtrF (by omega)
 have c2 : opBin .gtr (.int .i64 (ss.length : Int)) (.int .i64 60) = some (.bool false) := gtrF (by omega)
 have c3 : opBin .lss (.int .i64 (ps.length : Int)) (.int .i64 2) = some (.bool false) := lssF (by omega)
 have hev : ∀ s ∈ ss.map sq_, EV ps.length s := fun s hs => by
  obtain ⟨q, hq, rfl⟩ := List.mem_map.1 hs
  obtain ⟨i, hi, rfl⟩ := List.getElem_of_mem hq
  have e : sat ss i = ss[i] := by unfold sat; simp [List.getD, List.getElem?_eq_getElem hi]
  obtain ⟨v1, v2⟩ := hsv i hi
  rw [e] at v1 v2
  unfold EV sq_
  dsimp only
  omega
 have g := zy9k (xs := ss.map sq_) (n := ps.length) (f := false) (fl := false) (cs := pcs ps) (by omega) (RR := some (.tup [ra (zy9j ps ss), .int .i64 0])) (fun ⟨s, h1, h2⟩ => absurd (hev s h1) h2) (ss.map sq_).length 0 [some z3] (by omega) rfl (fun _ H' h0 => by
  rw [hls]
  exact least_end hz hsv h2 (by omega) (by omega) h0) (by simp)
 rw [hls] at g
 rw [zf0j.eq]
 unfold zf0j.f
 simp (disch := first | exact dD | fail) only [Wd, W2d, W3d, Nat.reduceAdd, Nat.reduceMul, Nat.reduceSub, c1, c2, c3, ka, neqF9]
 exact g)
end
end Go.Proofs.YtiblnpnfaadmcaaGreat.Am
