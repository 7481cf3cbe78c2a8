import Derived.Test.YtojfiboeghonoaaGreatAmLoc2
/- Where points lie in a mesh: neighbours. -/
set_option linter.unusedVariables false
set_option maxRecDepth 10000
set_option linter.unusedSimpArgs false
namespace Go.Proofs.YtojfiboeghonoaaGreat.Am
open Go

def wd (ts : List Tr) (p : Nat) : (Int × Int) × AV := (edI ts (p / 3) (p % 3), .int .i64 ((p / 3 : Nat) : Int))
def wdL (ts : List Tr) (n : Nat) : List ((Int × Int) × AV) := (List.range n).map (wd ts)
theorem wdL_succ {ts : List Tr} {i k : Nat} (hk : k < 3) : wdL ts (3 * i + k + 1) = wdL ts (3 * i + k) ++ [(edI ts i k, .int .i64 (i : Int))] := by
  unfold wdL
  rw [List.range_succ, List.map_append]
  have h1 : (3 * i + k) / 3 = i := by omega
  have h2 : (3 * i + k) % 3 = k := by omega
  simp [wd, h1, h2]
section
variable {q : Mq} (hq : q.ok)
include hq
theorem wdL_new {i k : Nat} (hi : i < q.ts.length) (hk : k < 3) : lkp (wdL q.ts (3 * i + k)) (edI q.ts i k) = none := by
  rw [lkp_none]
  intro x hx he
  obtain ⟨p, hp, rfl⟩ := List.mem_map.1 hx
  have hp := List.mem_range.1 hp
  have := hq.dist (p / 3) i (p % 3) k (by omega) hi (by omega) hk he
  omega
theorem wdL_find {a b : Int} : lkp (wdL q.ts (3 * q.ts.length)) (a, b) = (findI q.ts a b q.ts.length 0).map fun r => .int .i64 (r.1 : Int) := by
  cases hf : findI q.ts a b q.ts.length 0 with
  | none =>
    rw [Option.map_none, lkp_none]
    intro x hx he
    obtain ⟨p, hp, rfl⟩ := List.mem_map.1 hx
    have hp := List.mem_range.1 hp
    exact findI_none hf (p / 3) (p % 3) (Nat.zero_le _) (by omega) (by omega) he
  | some r =>
    obtain ⟨_, h2, h3, h4⟩ := findI_some hf
    cases hl : lkp (wdL q.ts (3 * q.ts.length)) (a, b) with
    | none =>
      have := lkp_none.1 hl (wd q.ts (3 * r.1 + r.2)) (List.mem_map.2 ⟨_, List.mem_range.2 (by omega), rfl⟩)
      refine absurd ?_ this
      have h5 : (3 * r.1 + r.2) / 3 = r.1 := by omega
      have h6 : (3 * r.1 + r.2) % 3 = r.2 := by omega
      unfold wd
      rw [h5, h6]
      exact h4
    | some v =>
      obtain ⟨p, hp, he⟩ := List.mem_map.1 (lkp_mem hl)
      have hp := List.mem_range.1 hp
      unfold wd at he
      simp only [Prod.mk.injEq] at he
      have := hq.dist (p / 3) r.1 (p % 3) r.2 (by omega) (by omega) (by omega) h3 (by rw [he.1, h4])
      rw [← he.2, this.1]
      rfl
end
theorem ints_set {l : List Int} {p : Nat} {z : Int} : (ints l).set p (.int .i64 z) = ints (l.set p z) := by unfold ints; rw [List.map_set]
theorem zeros_i : ∀ n, zeros [.int .i64 0, .int .i64 0, .int .i64 0] n = ints (List.replicate (3 * n) 0)
  | 0 => rfl
  | n + 1 => by rw [zeros, zeros_i n, show 3 * (n + 1) = 3 * n + 1 + 1 + 1 by omega, List.replicate_succ, List.replicate_succ, List.replicate_succ]; rfl
theorem mks_3 {h : Heap} {n : Nat} (hn : n ≤ 100) : opMks h 3 [.int .i64 0, .int .i64 0, .int .i64 0] (.int .i64 (n : Int)) (.int .i64 (n : Int)) = some (.rs 3 h.length 0 n, h ++ [some (ints (List.replicate (3 * n) 0))]) := by
  show (if 0 ≤ (n : Int) ∧ (n : Int) ≤ (n : Int) ∧ (n : Int) ≤ 4294967296 then some (AV.rs 3 h.length 0 (n : Int).toNat, h ++ [some (zeros [.int .i64 0, .int .i64 0, .int .i64 0] (n : Int).toNat)]) else none) = _
  rw [if_pos ⟨by omega, by omega, by omega⟩, Int.toNat_natCast, zeros_i]
def acr (ts : List Tr) (i k : Nat) : Int := fA (findI ts (edI ts i k).2 (edI ts i k).1 ts.length 0)
def nbv (ts : List Tr) (p : Nat) : Int := acr ts (p / 3) (p % 3)
def nbL (ts : List Tr) (p : Nat) : List Int := (List.range p).map (nbv ts) ++ List.replicate (3 * ts.length - p) 0
theorem nbL_len {ts : List Tr} {p : Nat} (h : p ≤ 3 * ts.length) : (nbL ts p).length = 3 * ts.length := by simp [nbL]; omega
theorem nbL_succ {ts : List Tr} {p : Nat} (h : p < 3 * ts.length) : (nbL ts p).set p (nbv ts p) = nbL ts (p + 1) := by
  unfold nbL
  rw [show 3 * ts.length - p = (3 * ts.length - (p + 1)) + 1 by omega, List.replicate_succ, List.set_append_right _ _ (by simp), List.range_succ, List.map_append]
  simp
theorem nbL_0 {ts : List Tr} : nbL ts 0 = List.replicate (3 * ts.length) 0 := by simp [nbL]
section
variable {q : Mq} {i : Nat}
set_option maxHeartbeats 8000000 in
theorem nb_l1 (hq : q.ok) (hi : i < q.ts.length) {y15 y16 : AV} {RR : Option AV} : ∀ (m k : Nat) (H : Heap) (id : Nat), k + m = 3 → id ≠ 1 → live H id = some (tc (tat q.ts i)) → live H 1 = some [.mpc ((wdL q.ts (3 * i + k)).map ent)] → live H 0 = some (msc q.ms) →
    (∀ H', live H' 0 = some (msc q.ms) → live H' 1 = some [.mpc ((wdL q.ts (3 * (i + 1))).map ent)] → zf13.l0 (.rp 0 0) (.rm 1) y15 y16 (.int .i64 ((i + 1 : Nat) : Int)) H' = RR) →
    zf13.l1 (.rp 0 0) (.rm 1) (.int .i64 (i : Int)) (.rp id 0) y15 y16 (.int .i64 (i : Int)) (.int .i64 (k : Int)) H = RR := by
  intro m
  induction m with
  | zero =>
    intro k H id hk hne hid h1 h0 hR
    obtain rfl : k = 3 := by omega
    have lk : opBin .lss (.int .i64 ((3 : Nat) : Int)) (.int .i64 3) = some (.bool false) := rfl
    have n2 := hq.n2
    rw [zf13.l1_eq]
    simp (disch := first | exact dD | fail) only [Wd, W2d, W3d, Nat.reduceAdd, Nat.reduceMul, Nat.reduceSub, lk]
    exact hR H h0 h1
  | succ m ih =>
    intro k H id hk hne hid h1 h0 hR
    have hk3 : k < 3 := by omega
    have n2 := hq.n2
    have lk : opBin .lss (.int .i64 (k : Int)) (.int .i64 3) = some (.bool true) := lssT (by omega)
    have ax := fun o => aixR (sz := 1) (id := id) (o := o) hk3
    have ay := fun o => aixR (sz := 1) (n := 3) (id := id) (o := o) (i := (k + 1) % 3) (by omega)
    have e1 := cor_co (t := tat q.ts i) hk3
    have e2 := cor_co (t := tat q.ts i) (k := (k + 1) % 3) (by omega)
    have new := wdL_new hq hi hk3
    have suc := wdL_succ (ts := q.ts) (i := i) hk3
    have ed_ : edI q.ts i k = (co (tat q.ts i) k, co (tat q.ts i) ((k + 1) % 3)) := rfl
    rw [ed_] at new suc
    generalize co (tat q.ts i) k = a at *
    generalize co (tat q.ts i) ((k + 1) % 3) = b at *
    have mp := mup_new (h := H) (v := .int .i64 (i : Int)) h1 new rfl
    rw [← suc] at mp
    unfold kv at mp
    have g := ih (k + 1) (H.set 1 (some [AV.mpc ((wdL q.ts (3 * i + k + 1)).map ent)])) id (by omega) hne (by rw [live_set_ne (Ne.symm hne)]; exact hid) (live_set_self h1) (by rw [live_set_ne (by omega)]; exact h0) hR
    rw [zf13.l1_eq]
    simp (disch := first | exact dD | fail) only [Wd, W2d, W3d, Nat.reduceAdd, Nat.reduceMul, Nat.reduceSub, lk, hid, ax, ay, e1, e2, rm3, mp]
    exact g
set_option maxHeartbeats 8000000 in
theorem nb_l3 (hq : q.ok) (hi : i < q.ts.length) {y43 y44 : AV} {RR : Option AV} {rid : Nat} : ∀ (m k : Nat) (H : Heap) (id : Nat), k + m = 3 → id ≠ rid → rid ≠ 1 → rid ≠ 0 → live H id = some (tc (tat q.ts i)) → live H 1 = some [.mpc ((wdL q.ts (3 * q.ts.length)).map ent)] → live H rid = some (ints (nbL q.ts (3 * i + k))) →
    (∀ H', live H' 1 = some [.mpc ((wdL q.ts (3 * q.ts.length)).map ent)] → live H' rid = some (ints (nbL q.ts (3 * (i + 1)))) → zf13.l2 (.rm 1) (.rs 3 rid 0 q.ts.length) y43 y44 (.int .i64 ((i + 1 : Nat) : Int)) H' = RR) →
    zf13.l3 (.rm 1) (.rs 3 rid 0 q.ts.length) (.int .i64 (i : Int)) (.rp id 0) y43 y44 (.int .i64 (i : Int)) (.int .i64 (k : Int)) H = RR := by
  intro m
  induction m with
  | zero =>
    intro k H id hk hne hr1 hr0 hid h1 hr hR
    obtain rfl : k = 3 := by omega
    have lk : opBin .lss (.int .i64 ((3 : Nat) : Int)) (.int .i64 3) = some (.bool false) := rfl
    have n2 := hq.n2
    rw [zf13.l3_eq]
    simp (disch := first | exact dD | fail) only [Wd, W2d, W3d, Nat.reduceAdd, Nat.reduceMul, Nat.reduceSub, lk]
    exact hR H h1 hr
  | succ m ih =>
    intro k H id hk hne hr1 hr0 hid h1 hr hR
    have hk3 : k < 3 := by omega
    have n2 := hq.n2
    have lk : opBin .lss (.int .i64 (k : Int)) (.int .i64 3) = some (.bool true) := lssT (by omega)
    have ax := fun id o => aixR (sz := 1) (id := id) (o := o) hk3
    have ay := fun o => aixR (sz := 1) (n := 3) (id := id) (o := o) (i := (k + 1) % 3) (by omega)
    have e1 := cor_co (t := tat q.ts i) hk3
    have e2 := cor_co (t := tat q.ts i) (k := (k + 1) % 3) (by omega)
    have nv : nbv q.ts (3 * i + k) = fA (findI q.ts (edI q.ts i k).2 (edI q.ts i k).1 q.ts.length 0) := by
      have h1 : (3 * i + k) / 3 = i := by omega
      have h2 : (3 * i + k) % 3 = k := by omega
      unfold nbv acr
      rw [h1, h2]
    have suc := nbL_succ (ts := q.ts) (p := 3 * i + k) (by omega)
    rw [nv] at suc
    have ed_ : edI q.ts i k = (co (tat q.ts i) k, co (tat q.ts i) ((k + 1) % 3)) := rfl
    rw [ed_] at suc
    simp only at suc
    have kl := lkp_ok (h := H) (z := .int .i64 0) (a := co (tat q.ts i) ((k + 1) % 3)) (b := co (tat q.ts i) k) h1
    rw [wdL_find hq] at kl
    have ln : 0 + i * 3 + k * 1 < (ints (nbL q.ts (3 * i + k))).length := by rw [ints_len, nbL_len (by omega)]; omega
    have ix : 0 + i * 3 + k * 1 = 3 * i + k := by omega
    have sx : opSidx 3 (.rs 3 rid 0 q.ts.length) (.int .i64 (i : Int)) = some (.rp rid (0 + i * 3)) := by
      have := sidx_rs (sz := 3) (id := rid) (off := 0) (n := q.ts.length) (k := .i64) (z := (i : Int)) (by omega) (by omega)
      simpa using this
    generalize co (tat q.ts i) k = a at *
    generalize co (tat q.ts i) ((k + 1) % 3) = b at *
    unfold kv at kl
    rw [zf13.l3_eq]
    have g := ih (k + 1) (H.set rid (some (ints (nbL q.ts (3 * i + k + 1))))) id (by omega) hne hr1 hr0 (by rw [live_set_ne (Ne.symm hne)]; exact hid) (by rw [live_set_ne hr1]; exact h1) (live_set_self hr) hR
    cases hf : findI q.ts b a q.ts.length 0 with
    | none =>
      rw [hf] at kl suc
      have sw : (ints (nbL q.ts (3 * i + k))).set (i * 3 + k) (.int .i64 (-1)) = ints (nbL q.ts (3 * i + k + 1)) := by rw [Nat.mul_comm i 3]; exact ints_set.trans (congrArg ints suc)
      have n1 : opUn .not (.bool false) = some (.bool true) := rfl
      simp (disch := first | exact dD | fail) only [Wd, W2d, W3d, Nat.reduceAdd, Nat.reduceMul, Nat.reduceSub, lk, hid, ax, ay, e1, e2, rm3, kl, Option.map_none, Option.getD_none, Option.isSome_none, n1, sx, hr, ix, sw]
      exact g
    | some r =>
      rw [hf] at kl suc
      have sw : (ints (nbL q.ts (3 * i + k))).set (i * 3 + k) (.int .i64 (r.1 : Int)) = ints (nbL q.ts (3 * i + k + 1)) := by rw [Nat.mul_comm i 3]; exact ints_set.trans (congrArg ints suc)
      have n1 : opUn .not (.bool true) = some (.bool false) := rfl
      simp (disch := first | exact dD | fail) only [Wd, W2d, W3d, Nat.reduceAdd, Nat.reduceMul, Nat.reduceSub, lk, hid, ax, ay, e1, e2, rm3, kl, Option.map_some, Option.getD_some, Option.isSome_some, n1, sx, hr, ix, sw]
      exact g
theorem frz_rs3 {H : Heap} {rid n : Nat} {l : List Int} (hl : live H rid = some (ints l)) (hn : l.length = 3 * n) : freeze H (.rs 3 rid 0 n) = some (.is n false (ints l)) := by
  show freezeN (11 + 1) H _ = _
  rw [fz_rs, hl, Option.bind_some, if_pos (by rw [ints_len]; omega), List.drop_zero, List.take_of_length_le (by rw [ints_len]; omega), imm_mapM (imm_ints l) (by omega)]
  rfl
theorem nb_l2 (hq : q.ok) {rid : Nat} (hr1 : rid ≠ 1) (hr0 : rid ≠ 0) : ∀ (m i : Nat) (H : Heap), i + m = q.ts.length → live H 1 = some [.mpc ((wdL q.ts (3 * q.ts.length)).map ent)] → live H rid = some (ints (nbL q.ts (3 * i))) → zf13.l2 (.rm 1) (.rs 3 rid 0 q.ts.length) (.is q.ts.length false (q.ts.flatMap tc)) (.int .i64 (q.ts.length : Int)) (.int .i64 (i : Int)) H = some (.is q.ts.length false (ints (nbL q.ts (3 * q.ts.length)))) := by
  have n2 := hq.n2
  intro m
  induction m with
  | zero =>
    intro i H him h1 hr
    obtain rfl : i = q.ts.length := by omega
    rw [zf13.l2_eq]
    simp (disch := first | exact dD | fail) only [Wd, W2d, W3d, Nat.reduceAdd, Nat.reduceMul, Nat.reduceSub]
    exact frz_rs3 hr (nbL_len (Nat.le_refl _))
  | succ m ih =>
    intro i H him h1 hr
    have hi : i < q.ts.length := by omega
    have e := tc_at hi
    have s := fun f cs => sidxN (sz := 3) (f := f) (cs := cs) hi
    have rd : ∀ T : List AV, readCells (.int .i64 (tat q.ts i).1 :: .int .i64 (tat q.ts i).2.1 :: .int .i64 (tat q.ts i).2.2 :: T) (some 3) = some (.agg (tc (tat q.ts i))) := fun T => Eq.trans rfl rfl
    have st := st_app3 (h := H) (z := [.int .i64 0, .int .i64 0, .int .i64 0]) (v := tc (tat q.ts i)) (n := 3) rfl ⟨rfl, rfl⟩
    have lk : opBin .lss (.int .i64 (i : Int)) (.int .i64 (q.ts.length : Int)) = some (.bool true) := lssT (by omega)
    rw [zf13.l2_eq]
    simp (disch := first | exact dD | fail) only [Wd, W2d, W3d, Nat.reduceAdd, Nat.reduceMul, Nat.reduceSub, lk, s, e, rd, st]
    have hlt := live_lt hr
    refine nb_l3 hq hi 3 0 (H ++ [some (tc (tat q.ts i))]) H.length (by omega) (by omega) hr1 hr0 live_app_self (live_app_old h1) (live_app_old hr) fun H' g1 gr => ?_
    exact ih (i + 1) H' (by omega) g1 gr
theorem nb_l0 (hq : q.ok) : ∀ (m i : Nat) (H : Heap), i + m = q.ts.length → live H 0 = some (msc q.ms) → live H 1 = some [.mpc ((wdL q.ts (3 * i)).map ent)] → zf13.l0 (.rp 0 0) (.rm 1) (.is q.ts.length false (q.ts.flatMap tc)) (.int .i64 (q.ts.length : Int)) (.int .i64 (i : Int)) H = some (.is q.ts.length false (ints (nbL q.ts (3 * q.ts.length)))) := by
  have n2 := hq.n2
  have fa : ∀ k id off, opFaddr k (.rp id off) = some (.rp id (off + k)) := fun _ _ _ => rfl
  intro m
  induction m with
  | zero =>
    intro i H him h0 h1
    obtain rfl : i = q.ts.length := by omega
    have mk := mks_3 (h := H) (n := q.ts.length) (by omega)
    have hl := live_lt h1
    have g := nb_l2 hq (rid := H.length) (by omega) (by omega) q.ts.length 0 (H ++ [some (ints (List.replicate (3 * q.ts.length) 0))]) (by omega) (live_app_old h1) (by rw [live_app_self]; exact congrArg (fun x => some (ints x)) nbL_0.symm)
    have g0 := fun x => live_app_old (x := x) h0
    rw [zf13.l0_eq]
    simp (disch := first | exact dD | fail) only [Wd, W2d, W3d, Nat.reduceAdd, Nat.reduceMul, Nat.reduceSub, fa, h0, g0, mq_1, mk]
    exact g
  | succ m ih =>
    intro i H him h0 h1
    have hi : i < q.ts.length := by omega
    have e := tc_at hi
    have s := fun f cs => sidxN (sz := 3) (f := f) (cs := cs) hi
    have rd : ∀ T : List AV, readCells (.int .i64 (tat q.ts i).1 :: .int .i64 (tat q.ts i).2.1 :: .int .i64 (tat q.ts i).2.2 :: T) (some 3) = some (.agg (tc (tat q.ts i))) := fun T => Eq.trans rfl rfl
    have st := st_app3 (h := H) (z := [.int .i64 0, .int .i64 0, .int .i64 0]) (v := tc (tat q.ts i)) (n := 3) rfl ⟨rfl, rfl⟩
    have lk : opBin .lss (.int .i64 (i : Int)) (.int .i64 (q.ts.length : Int)) = some (.bool true) := lssT (by omega)
    have hl := live_lt h1
    rw [zf13.l0_eq]
    simp (disch := first | exact dD | fail) only [Wd, W2d, W3d, Nat.reduceAdd, Nat.reduceMul, Nat.reduceSub, lk, s, e, rd, st]
    refine nb_l1 hq hi 3 0 (H ++ [some (tc (tat q.ts i))]) H.length (by omega) (by omega) live_app_self (live_app_old h1) (live_app_old h0) fun H' g0 g1 => ?_
    exact ih (i + 1) H' (by omega) g0 g1
theorem k_nb {h : Heap} (hq : q.ok) : byVal (callW gp) h fid.zf13 [.agg (msc q.ms)] = some (.is q.ts.length false (ints (nbL q.ts (3 * q.ts.length)))) := byVal_imm (imm_L1 imm_ms) (by
  have fa : ∀ k id off, opFaddr k (.rp id off) = some (.rp id (off + k)) := fun _ _ _ => rfl
  have g := nb_l0 hq q.ts.length 0 [some (msc q.ms), some [.mpc []]] (by omega) rfl rfl
  rw [zf13.eq]
  unfold zf13.f
  simp (disch := first | exact dD | fail) only [Wd, W2d, W3d, Nat.reduceAdd, Nat.reduceMul, Nat.reduceSub, fa, mq_1]
  exact g)
theorem nb_at {k : Nat} {f : Bool} (hi : i < q.ts.length) (hk : k < 3) : (ints (nbL q.ts (3 * q.ts.length))).drop (i * 3 + k) = .int .i64 (acr q.ts i k) :: (ints (nbL q.ts (3 * q.ts.length))).drop (i * 3 + k + 1) := by
  have hl : i * 3 + k < (nbL q.ts (3 * q.ts.length)).length := by rw [nbL_len (Nat.le_refl _)]; omega
  rw [ints_at hl]
  congr 2
  have h1 : (i * 3 + k) / 3 = i := by omega
  have h2 : (i * 3 + k) % 3 = k := by omega
  have hp : i * 3 + k < 3 * q.ts.length := by omega
  simp [nbL, nbv, h1, h2, hp, List.getElem_append_left]
end
end Go.Proofs.YtojfiboeghonoaaGreat.Am
