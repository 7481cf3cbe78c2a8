import Derived.Test.YtojfiboeghonoaaGreatAmMesh6
/- Meshes, the program: Check. -/
set_option linter.unusedVariables false
set_option maxRecDepth 10000
set_option linter.unusedSimpArgs false
namespace Go.Proofs.YtojfiboeghonoaaGreat.Am
open Go

theorem askc_ps : ∀ {ps : List (Rat × Rat)}, PsZ ps 100 → firstE ((ps.map pc).map askc) = 0
  | [], _ => rfl
  | r :: ps, h => by
    have e : askc (pc r) = 0 := askc_rat (h r (List.mem_cons_self ..)).1 (h r (List.mem_cons_self ..)).2
    rw [List.map_cons, List.map_cons, firstE, if_pos e]
    exact askc_ps fun x hx => h x (List.mem_cons_of_mem _ hx)
theorem pcm_ok (ps : List (Rat × Rat)) : ∀ t ∈ ps.map pc, t.ok := fun t ht => by
  obtain ⟨r, _, rfl⟩ := List.mem_map.1 ht
  exact ⟨rt_ok _, rt_ok _⟩
section
variable {q : Mq} {i : Nat}
theorem known_bld {m : Ms} {es : List AV} : opBld [.is 0 true [], .is 0 true [], .is 0 true [], .nilm] [(0, 3, .agg (msc m)), (3, 1, .im es)] = some (.agg (msc m ++ [.im es])) := Eq.trans rfl rfl
theorem read_end {m : Ms} {es : List AV} {H : Heap} (hi : ∀ c ∈ es, Imm 8 c) : freeze (H ++ [some (msc m ++ [.im es])]) (.tup [.rp H.length 0, .int .i64 0]) = some (.tup [.ip (msc m ++ [.im es]), .int .i64 0]) := by
  refine frz_tup2 ?_ rfl
  have e : freezeN 11 (H ++ [some (msc m ++ [.im es])]) (.rp H.length 0) = (live (H ++ [some (msc m ++ [.im es])]) H.length).bind fun cs => ((cs.drop 0).mapM (freezeN 10 (H ++ [some (msc m ++ [.im es])]))).map AV.ip := rfl
  rw [e, live_app_self, Option.bind_some, List.drop_zero, imm_mapM (d := 9) (fun c hc => ?_) (by omega)]
  · rfl
  · rcases List.mem_append.1 hc with hc | hc
    · exact (imm_msc c hc).mono (by omega)
    · rw [List.mem_singleton] at hc; subst hc; exact imm_im hi
theorem imm_sd8 {ts : List Tr} {n : Nat} : ∀ c ∈ (sdL ts n).map ent, Imm 8 c := fun c hc => by
  obtain ⟨x, hx, rfl⟩ := List.mem_map.1 hc
  obtain ⟨p, _, rfl⟩ := List.mem_map.1 hx
  exact (imm_ent imm_kv).mono (by omega)
set_option maxHeartbeats 16000000 in
theorem read_l1 (hq : q.ok) : ∀ (m i : Nat) (H : Heap) (id : Nat), i + m = q.ss.length → live H 0 = some (msc q.ms) → live H id = some [.mpc ((seenL q.ss i).map ent)] → id ≠ 0 →
    ∃ x, zf1s.l1 (.rp 0 0) (.im ((sdL q.ts (3 * q.ts.length)).map ent)) (.rm id) (.is q.ss.length false (q.ss.flatMap sgc)) (.int .i64 (q.ss.length : Int)) (.int .i64 (i : Int)) H = some (.tup [x, .int .i64 0]) := by
  have n3 := hq.n3
  intro m
  induction m with
  | zero =>
    intro i H id him h0 hid hne
    obtain rfl : i = q.ss.length := by omega
    refine ⟨.ip (msc q.ms ++ [.im ((sdL q.ts (3 * q.ts.length)).map ent)]), ?_⟩
    rw [zf1s.l1_eq]
    simp (disch := first | exact dD | fail) only [Wd, W2d, W3d, Nat.reduceAdd, Nat.reduceMul, Nat.reduceSub, h0, ms_rc, known_bld]
    exact read_end imm_sd8
  | succ m ih =>
    intro i H id him h0 hid hne
    have hi : i < q.ss.length := by omega
    have e := sg_at hi
    have s := fun f cs => sidxN (sz := 3) (f := f) (cs := cs) hi
    have lk : opBin .lss (.int .i64 (i : Int)) (.int .i64 (q.ss.length : Int)) = some (.bool true) := lssT (by omega)
    have new := seenL_new hq hi
    have suc := seenL_succ (ss := q.ss) (n := i)
    have se := seg_edge hq hi
    have kl1 := fun h => lkp_iok (h := h) (l := sdL q.ts (3 * q.ts.length)) (z := .agg [.int .i64 0, .int .i64 0]) (a := (gat q.ss i).a) (b := (gat q.ss i).b)
    have kl2 := fun h => lkp_iok (h := h) (l := sdL q.ts (3 * q.ts.length)) (z := .agg [.int .i64 0, .int .i64 0]) (a := (gat q.ss i).b) (b := (gat q.ss i).a)
    rw [sdL_find hq] at kl1 kl2
    have ih := ih (i + 1)
    rw [suc] at ih
    generalize gat q.ss i = w at *
    obtain ⟨a, b, f⟩ := w
    simp only at e new suc se kl1 kl2 ih
    have bk := fun h => back_cv (h := h) (a := a) (b := b)
    have pl := fun h => plain_cv (h := h) (a := a) (b := b)
    have g4 : ∀ x y z w, live (H ++ [x] ++ [y] ++ [z] ++ [w]) id = some [.mpc ((seenL q.ss i).map ent)] := fun x y z w => live_app_old (live_app_old (live_app_old (live_app_old hid)))
    have h4 : ∀ x y z w, live (H ++ [x] ++ [y] ++ [z] ++ [w]) 0 = some (msc q.ms) := fun x y z w => live_app_old (live_app_old (live_app_old (live_app_old h0)))
    have lv := fun x y z w => lkp_v (h := H ++ [x] ++ [y] ++ [z] ++ [w]) (z := .bool false) (a := (plE a b).1) (b := (plE a b).2) (g4 x y z w)
    have mp := fun x y z w => mup_new (h := H ++ [x] ++ [y] ++ [z] ++ [w]) (a := (plE a b).1) (b := (plE a b).2) (v := .bool true) (g4 x y z w) new rfl
    have new' : lkp (seenL q.ss i) ((plE a b).1, (plE a b).2) = none := new
    rw [new'] at lv
    have st1 := st_app3 (h := H) (z := [.int .i64 0, .int .i64 0, .bool false]) (v := [.int .i64 a, .int .i64 b, .bool f]) (n := 3) rfl ⟨rfl, rfl⟩
    have st2 := fun x => st_app3 (h := H ++ [x]) (z := [.int .i64 0, .int .i64 0]) (v := [.int .i64 a, .int .i64 b]) (n := 2) rfl ⟨rfl, rfl⟩
    have st3 := fun x y c d => st_app3 (h := H ++ [x] ++ [y]) (z := [.int .i64 0, .int .i64 0]) (v := [.int .i64 c, .int .i64 d]) (n := 2) rfl ⟨rfl, rfl⟩
    have st4 := fun x y z c d => st_app3 (h := H ++ [x] ++ [y] ++ [z]) (z := [.int .i64 0, .int .i64 0]) (v := [.int .i64 c, .int .i64 d]) (n := 2) rfl ⟨rfl, rfl⟩
    have lb3 : ∀ x y z, live (H ++ [x] ++ [some y] ++ [z]) (H ++ [x]).length = some y := fun x y z => live_app_old live_app_self
    have lb4 : ∀ x y z w, live (H ++ [x] ++ [some y] ++ [z] ++ [w]) (H ++ [x]).length = some y := fun x y z w => live_app_old (lb3 x y z)
    have rd : readCells [.int .i64 a, .int .i64 b] (some 2) = some (.agg [.int .i64 a, .int .i64 b]) := Eq.trans rfl rfl
    have nx : ∀ x y z w, ∃ X, zf1s.l1 (.rp 0 0) (.im ((sdL q.ts (3 * q.ts.length)).map ent)) (.rm id) (.is q.ss.length false (q.ss.flatMap sgc)) (.int .i64 (q.ss.length : Int)) (.int .i64 ((i + 1 : Nat) : Int)) ((H ++ [x] ++ [y] ++ [z] ++ [w]).set id (some [.mpc ((seenL q.ss i ++ [(((plE a b).1, (plE a b).2), AV.bool true)]).map ent)])) = some (.tup [X, .int .i64 0]) := fun x y z w =>
      ih _ id (by omega) (by rw [live_set_ne hne]; exact h4 x y z w) (live_set_self (g4 x y z w)) hne
    unfold kv at kl1 kl2 bk pl lv mp
    unfold plE at lv mp nx
    simp only at lv mp nx
    rw [zf1s.l1_eq]
    cases h1 : findI q.ts a b q.ts.length 0 with
    | none =>
      rw [h1] at kl1 se
      cases h2 : findI q.ts b a q.ts.length 0 with
      | none => rw [h2] at se; simp at se
      | some r2 =>
        rw [h2] at kl2
        obtain ⟨X, nx⟩ := nx (some [.int .i64 a, .int .i64 b, .bool f]) (some [.int .i64 a, .int .i64 b]) (some [.int .i64 0, .int .i64 0]) (some [.int .i64 (r2.1 : Int), .int .i64 (r2.2 : Int)])
        refine ⟨X, ?_⟩
        simp (disch := first | exact dD | fail) only [Wd, W2d, W3d, Nat.reduceAdd, Nat.reduceMul, Nat.reduceSub, lk, s, e, st1, st2, st3, st4, live_app_self, lb3, lb4, rd, kl1, kl2, bk, pl, lv, mp, Option.map_none, Option.map_some, Option.getD_none, Option.getD_some, Option.isSome_none, Option.isSome_some]
        exact nx
    | some r1 =>
      rw [h1] at kl1
      cases h2 : findI q.ts b a q.ts.length 0 with
      | none =>
        rw [h2] at kl2
        obtain ⟨X, nx⟩ := nx (some [.int .i64 a, .int .i64 b, .bool f]) (some [.int .i64 a, .int .i64 b]) (some [.int .i64 (r1.1 : Int), .int .i64 (r1.2 : Int)]) (some [.int .i64 0, .int .i64 0])
        refine ⟨X, ?_⟩
        simp (disch := first | exact dD | fail) only [Wd, W2d, W3d, Nat.reduceAdd, Nat.reduceMul, Nat.reduceSub, lk, s, e, st1, st2, st3, st4, live_app_self, lb3, lb4, rd, kl1, kl2, bk, pl, lv, mp, Option.map_none, Option.map_some, Option.getD_none, Option.getD_some, Option.isSome_none, Option.isSome_some]
        exact nx
      | some r2 =>
        rw [h2] at kl2
        obtain ⟨X, nx⟩ := nx (some [.int .i64 a, .int .i64 b, .bool f]) (some [.int .i64 a, .int .i64 b]) (some [.int .i64 (r1.1 : Int), .int .i64 (r1.2 : Int)]) (some [.int .i64 (r2.1 : Int), .int .i64 (r2.2 : Int)])
        refine ⟨X, ?_⟩
        simp (disch := first | exact dD | fail) only [Wd, W2d, W3d, Nat.reduceAdd, Nat.reduceMul, Nat.reduceSub, lk, s, e, st1, st2, st3, st4, live_app_self, lb3, lb4, rd, kl1, kl2, bk, pl, lv, mp, Option.map_none, Option.map_some, Option.getD_none, Option.getD_some, Option.isSome_none, Option.isSome_some]
        exact nx
theorem read_l0 (hq : q.ok) : ∀ (m i : Nat) (H : Heap), i + m = q.ts.length → live H 0 = some (msc q.ms) → ∃ x, zf1s.l0 (.rp 0 0) (.is q.ts.length false (q.ts.flatMap tc)) (.int .i64 (q.ts.length : Int)) (.int .i64 (i : Int)) H = some (.tup [x, .int .i64 0]) := by
  have n1 := hq.n1
  have n2 := hq.n2
  have fa : ∀ k id off, opFaddr k (.rp id off) = some (.rp id (off + k)) := fun _ _ _ => rfl
  intro m
  induction m with
  | zero =>
    intro i H him h0
    obtain rfl : i = q.ts.length := by omega
    have hl := live_lt h0
    obtain ⟨x, g⟩ := read_l1 hq q.ss.length 0 (H ++ [some [.mpc []]]) H.length (by omega) (live_app_old h0) live_app_self (by omega)
    refine ⟨x, ?_⟩
    have ks := fun h => k_sides (h := h) hq
    have a0 := live_app_old (x := some [AV.mpc []]) h0
    rw [zf1s.l0_eq]
    simp (disch := first | exact dD | fail) only [Wd, W2d, W3d, Nat.reduceAdd, Nat.reduceMul, Nat.reduceSub, fa, h0, a0, ms_rc, mq_2, ks]
    exact g
  | succ m ih =>
    intro i H him h0
    have hi : i < q.ts.length := by omega
    have e := tc_at hi
    have s := fun f cs => sidxN (sz := 3) (f := f) (cs := cs) hi
    have rd : ∀ T : List AV, readCells (.int .i64 (tat q.ts i).1 :: .int .i64 (tat q.ts i).2.1 :: .int .i64 (tat q.ts i).2.2 :: T) (some 3) = some (.agg (tc (tat q.ts i))) := fun T => Eq.trans rfl rfl
    have st := st_app3 (h := H) (z := [.int .i64 0, .int .i64 0, .int .i64 0]) (v := tc (tat q.ts i)) (n := 3) rfl ⟨rfl, rfl⟩
    have lk : opBin .lss (.int .i64 (i : Int)) (.int .i64 (q.ts.length : Int)) = some (.bool true) := lssT (by omega)
    have a0 := fun x => live_app_old (x := x) h0
    obtain ⟨⟨ra, rb, rc⟩, _⟩ := hq.tr i hi
    have kw := k_mwithin (H := H ++ [some (tc (tat q.ts i))]) (id := H.length) (T := []) ra rb rc live_app_self
    have ar := arrs_rp5 (H := H ++ [some (tc (tat q.ts i))]) (sz := 1) (len := 3) (id := H.length) (off := 0) live_app_self (by simp [tc])
    have a0' : ∀ id o, opAidx 1 3 (.rp id o) (.int .i64 0) = some (.rp id (o + 0)) := fun id o => aixR (i := 0) (by omega)
    have a1' : ∀ id o, opAidx 1 3 (.rp id o) (.int .i64 1) = some (.rp id (o + 1)) := fun id o => aixR (i := 1) (by omega)
    have a2' : ∀ id o, opAidx 1 3 (.rp id o) (.int .i64 2) = some (.rp id (o + 2)) := fun id o => aixR (i := 2) (by omega)
    have kl := fun h => k_left (h := h) hq hi
    obtain ⟨x, g⟩ := ih (i + 1) (H ++ [some (tc (tat q.ts i))]) (by omega) (a0 _)
    refine ⟨x, ?_⟩
    rw [zf1s.l0_eq]
    simp (disch := first | exact dD | fail) only [Wd, W2d, W3d, Nat.reduceAdd, Nat.reduceMul, Nat.reduceSub, fa, lk, s, e, rd, st, a0, ms_rc, mq_0, ar, kw, a0', a1', a2', tc_0, tc_1, tc_2, live_app_self, kl]
    exact g
theorem k_check {h : Heap} (hq : q.ok) : byVal (callW gp) h fid.zf12 [.agg (msc q.ms)] = some (.int .i64 0) := byVal_imm (imm_L1 imm_ms) (by
  have n1 := hq.n1
  have n2 := hq.n2
  have n3 := hq.n3
  have fa : ∀ k id off, opFaddr k (.rp id off) = some (.rp id (off + k)) := fun _ _ _ => rfl
  have ka := fun h => k_masked (h := h) (f := false) (pcm_ok q.ps) (by rw [List.length_map]; omega)
  rw [askc_ps (hq.zp.up (by omega))] at ka
  simp only [List.length_map] at ka
  have ka : ∀ h, byVal (callW gp) h fid.zf2p [.is q.ps.length false (pcs q.ps)] = some (.int .i64 0) := ka
  obtain ⟨x, g⟩ := read_l0 hq q.ts.length 0 [some (msc q.ms)] (by omega) rfl
  have kr : ∀ h, byVal (callW gp) h fid.zf1s [.agg (msc q.ms)] = some (.tup [x, .int .i64 0]) := fun h => byVal_imm (imm_L1 imm_ms) (by
    rw [zf1s.eq]
    unfold zf1s.f
    simp (disch := first | exact dD | fail) only [Wd, W2d, W3d, Nat.reduceAdd, Nat.reduceMul, Nat.reduceSub, fa, mq_0, mq_1, mq_2, ka, neqF]
    exact g)
  rw [zf12.eq]
  unfold zf12.f
  simp (disch := first | exact dD | fail) only [Wd, W2d, W3d, Nat.reduceAdd, Nat.reduceMul, Nat.reduceSub, ms_rc, kr])
end
end Go.Proofs.YtojfiboeghonoaaGreat.Am
