import Derived.Test.YtojfiboeghonoaaGreatAmMesh5
/- Meshes, the program: sides, and Check. -/
set_option linter.unusedVariables false
set_option maxRecDepth 10000
set_option linter.unusedSimpArgs false
namespace Go.Proofs.YtojfiboeghonoaaGreat.Am
open Go

theorem frz_rm {H : Heap} {id : Nat} {es : List AV} (hl : live H id = some [.mpc es]) (hi : ∀ c ∈ es, Imm 10 c) : freezeN 11 H (.rm id) = some (.im es) := by
  have e : freezeN 11 H (.rm id) = (live H id).bind fun cs => match cs with | [.mpc es] => (es.mapM (freezeN 10 H)).map AV.im | _ => none := rfl
  rw [e, hl]
  show (es.mapM (freezeN 10 H)).map AV.im = _
  rw [imm_mapM hi (Nat.le_refl _)]
  rfl
theorem imm_kv {a b : Int} : Imm 2 (kv a b) := imm_agg (imm_two imm_int imm_int)
theorem imm_ent {x : (Int × Int) × AV} (h : Imm 2 x.2) : Imm 3 (ent x) := imm_tup (imm_two imm_kv h)
theorem imm_sdL {ts : List Tr} {n : Nat} : ∀ c ∈ (sdL ts n).map ent, Imm 10 c := fun c hc => by
  obtain ⟨x, hx, rfl⟩ := List.mem_map.1 hc
  obtain ⟨p, _, rfl⟩ := List.mem_map.1 hx
  exact (imm_ent imm_kv).mono (by omega)
section
variable {q : Mq} {i : Nat}
theorem rm3 {k : Nat} : opBin .rem (.int .i64 ((k + 1 : Nat) : Int)) (.int .i64 3) = some (.int .i64 (((k + 1) % 3 : Nat) : Int)) := by
  rw [int_rem (by omega) (by omega)]; rfl
theorem sides_l1 (hq : q.ok) (hi : i < q.ts.length) {y13 y14 : AV} {RR : Option AV} : ∀ (m k : Nat) (H : Heap) (id : Nat), k + m = 3 → id ≠ 1 → live H id = some (tc (tat q.ts i)) → live H 1 = some [.mpc ((sdL q.ts (3 * i + k)).map ent)] →
    (∀ H', live H' 1 = some [.mpc ((sdL q.ts (3 * (i + 1))).map ent)] → zf2s.l0 (.rm 1) y13 y14 (.int .i64 ((i + 1 : Nat) : Int)) H' = RR) →
    zf2s.l1 (.rm 1) (.int .i64 (i : Int)) (.rp id 0) y13 y14 (.int .i64 (i : Int)) (.int .i64 (k : Int)) H = RR := by
  intro m
  induction m with
  | zero =>
    intro k H id hk hne hid h1 hR
    obtain rfl : k = 3 := by omega
    have lk : opBin .lss (.int .i64 ((3 : Nat) : Int)) (.int .i64 3) = some (.bool false) := rfl
    have n2 := hq.n2
    rw [zf2s.l1_eq]
    simp (disch := first | exact dD | fail) only [Wd, W2d, W3d, Nat.reduceAdd, Nat.reduceMul, Nat.reduceSub, lk]
    exact hR H h1
  | succ m ih =>
    intro k H id hk hne hid h1 hR
    have hk3 : k < 3 := by omega
    have n2 := hq.n2
    have lk : opBin .lss (.int .i64 (k : Int)) (.int .i64 3) = some (.bool true) := lssT (by omega)
    have ax := fun o => aixR (sz := 1) (id := id) (o := o) hk3
    have ay := fun o => aixR (sz := 1) (n := 3) (id := id) (o := o) (i := (k + 1) % 3) (by omega)
    have e1 := cor_co (t := tat q.ts i) hk3
    have e2 := cor_co (t := tat q.ts i) (k := (k + 1) % 3) (by omega)
    have new := sdL_new hq hi hk3
    have suc := sdL_succ (ts := q.ts) (i := i) hk3
    have ed_ : edI q.ts i k = (co (tat q.ts i) k, co (tat q.ts i) ((k + 1) % 3)) := rfl
    rw [ed_] at new suc
    generalize co (tat q.ts i) k = a at *
    generalize co (tat q.ts i) ((k + 1) % 3) = b at *
    have g1 : ∀ x, live (H ++ [x]) 1 = some [.mpc ((sdL q.ts (3 * i + k)).map ent)] := fun x => live_app_old h1
    have g2 : ∀ x y, live (H ++ [x] ++ [y]) 1 = some [.mpc ((sdL q.ts (3 * i + k)).map ent)] := fun x y => live_app_old (g1 x)
    have lk1 := fun x => lkp_ok (h := H ++ [x]) (z := .agg [.int .i64 0, .int .i64 0]) (a := a) (b := b) (g1 x)
    rw [new] at lk1
    have mp := fun x y => mup_new (h := H ++ [x] ++ [y]) (v := kv (i : Int) (k : Int)) (g2 x y) new rfl
    rw [← suc] at mp
    have st2 := st_app3 (h := H) (z := [.int .i64 0, .int .i64 0]) (v := [.int .i64 a, .int .i64 b]) (n := 2) rfl ⟨rfl, rfl⟩
    have st3 := fun x => st_app3 (h := H ++ [x]) (z := [.int .i64 0, .int .i64 0]) (v := [.int .i64 0, .int .i64 0]) (n := 2) rfl ⟨rfl, rfl⟩
    have rd : readCells [.int .i64 a, .int .i64 b] (some 2) = some (.agg [.int .i64 a, .int .i64 b]) := Eq.trans rfl rfl
    have l1 : ∀ x y, live (H ++ [some x] ++ [y]) H.length = some x := fun x y => live_app_old live_app_self
    unfold kv at lk1 mp
    have g := ih (k + 1) ((H ++ [some [AV.int .i64 a, AV.int .i64 b]] ++ [some [AV.int .i64 0, AV.int .i64 0]]).set 1 (some [AV.mpc ((sdL q.ts (3 * i + k + 1)).map ent)])) id (by omega) hne (by rw [live_set_ne (Ne.symm hne)]; exact live_app_old (live_app_old hid)) (live_set_self (g2 _ _)) hR
    rw [zf2s.l1_eq]
    simp (disch := first | exact dD | fail) only [Wd, W2d, W3d, Nat.reduceAdd, Nat.reduceMul, Nat.reduceSub, lk, hid, ax, ay, e1, e2, rm3, st2, st3, rd, live_app_self, lk1, l1, mp, Option.getD_none, Option.isSome_none]
    exact g
theorem sides_l0 (hq : q.ok) : ∀ (m i : Nat) (H : Heap), i + m = q.ts.length → 1 < H.length → live H 1 = some [.mpc ((sdL q.ts (3 * i)).map ent)] → zf2s.l0 (.rm 1) (.is q.ts.length false (q.ts.flatMap tc)) (.int .i64 (q.ts.length : Int)) (.int .i64 (i : Int)) H = some (.tup [.im ((sdL q.ts (3 * q.ts.length)).map ent), .bool true]) := by
  have n2 := hq.n2
  intro m
  induction m with
  | zero =>
    intro i H him hH h1
    obtain rfl : i = q.ts.length := by omega
    rw [zf2s.l0_eq]
    simp (disch := first | exact dD | fail) only [Wd, W2d, W3d, Nat.reduceAdd, Nat.reduceMul, Nat.reduceSub]
    exact frz_tup2 (frz_rm h1 imm_sdL) rfl
  | succ m ih =>
    intro i H him hH h1
    have hi : i < q.ts.length := by omega
    have e := tc_at hi
    have s := fun f cs => sidxN (sz := 3) (f := f) (cs := cs) hi
    have rd : ∀ T : List AV, readCells (.int .i64 (tat q.ts i).1 :: .int .i64 (tat q.ts i).2.1 :: .int .i64 (tat q.ts i).2.2 :: T) (some 3) = some (.agg (tc (tat q.ts i))) := fun T => Eq.trans rfl rfl
    have st := st_app3 (h := H) (z := [.int .i64 0, .int .i64 0, .int .i64 0]) (v := tc (tat q.ts i)) (n := 3) rfl ⟨rfl, rfl⟩
    have lk : opBin .lss (.int .i64 (i : Int)) (.int .i64 (q.ts.length : Int)) = some (.bool true) := lssT (by omega)
    rw [zf2s.l0_eq]
    simp (disch := first | exact dD | fail) only [Wd, W2d, W3d, Nat.reduceAdd, Nat.reduceMul, Nat.reduceSub, lk, s, e, rd, st]
    refine sides_l1 hq hi 3 0 (H ++ [some (tc (tat q.ts i))]) H.length (by omega) (by omega) live_app_self (live_app_old h1) fun H' h' => ?_
    have hl : 1 < H'.length := live_lt h'
    exact ih (i + 1) H' (by omega) hl h'
theorem k_sides {h : Heap} (hq : q.ok) : byVal (callW gp) h fid.zf2s [.agg (msc q.ms)] = some (.tup [.im ((sdL q.ts (3 * q.ts.length)).map ent), .bool true]) := byVal_imm (imm_L1 imm_ms) (by
  have fa : ∀ k id off, opFaddr k (.rp id off) = some (.rp id (off + k)) := fun _ _ _ => rfl
  have g := sides_l0 hq q.ts.length 0 [some (msc q.ms), some [.mpc []]] (by omega) (by simp) rfl
  rw [zf2s.eq]
  unfold zf2s.f
  simp (disch := first | exact dD | fail) only [Wd, W2d, W3d, Nat.reduceAdd, Nat.reduceMul, Nat.reduceSub, fa, mq_1]
  exact g)
def plE (a b : Int) : Int × Int := (if b < a then b else a, if a < b then b else a)
theorem plE_same {s : Sg} {a b : Int} (h : plE s.a s.b = plE a b) : sameE s a b := by
  unfold plE at h
  unfold sameE
  simp only [Prod.mk.injEq] at h
  obtain ⟨h1, h2⟩ := h
  split at h1 <;> split at h1 <;> split at h2 <;> split at h2 <;> omega
def seenL (ss : List Sg) (n : Nat) : List ((Int × Int) × AV) := (List.range n).map fun j => (plE (gat ss j).a (gat ss j).b, .bool true)
theorem seenL_succ {ss : List Sg} {n : Nat} : seenL ss (n + 1) = seenL ss n ++ [(plE (gat ss n).a (gat ss n).b, .bool true)] := by
  unfold seenL; rw [List.range_succ, List.map_append]; rfl
theorem seenL_new (hq : q.ok) (hi : i < q.ss.length) : lkp (seenL q.ss i) (plE (gat q.ss i).a (gat q.ss i).b) = none := by
  rw [lkp_none]
  intro x hx he
  obtain ⟨j, hj, rfl⟩ := List.mem_map.1 hx
  exact hq.sd i j (List.mem_range.1 hj) hi (plE_same he)
theorem seg_edge (hq : q.ok) (hi : i < q.ss.length) : (findI q.ts (gat q.ss i).a (gat q.ss i).b q.ts.length 0).isSome = true ∨ (findI q.ts (gat q.ss i).b (gat q.ss i).a q.ts.length 0).isSome = true := by
  obtain ⟨j, k, hj, hk, he⟩ := hq.sg i hi
  rcases he with he | he
  · left
    cases hf : findI q.ts (gat q.ss i).a (gat q.ss i).b q.ts.length 0 with
    | none => exact absurd he (findI_none hf j k (Nat.zero_le _) (by omega) hk)
    | some r => rfl
  · right
    cases hf : findI q.ts (gat q.ss i).b (gat q.ss i).a q.ts.length 0 with
    | none => exact absurd he (findI_none hf j k (Nat.zero_le _) (by omega) hk)
    | some r => rfl
end
end Go.Proofs.YtojfiboeghonoaaGreat.Am
