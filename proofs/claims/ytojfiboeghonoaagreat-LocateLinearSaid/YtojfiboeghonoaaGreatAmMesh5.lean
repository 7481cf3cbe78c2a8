import Derived.Test.YtojfiboeghonoaaGreatAmMesh4
import Derived.Test.YtojfiboeghonoaaGreatAmMap
import Derived.Test.YtojfiboeghonoaaGreatTMesh
/- Meshes, the program: a mesh that may be is told so. -/
set_option linter.unusedVariables false
set_option maxRecDepth 10000
set_option linter.unusedSimpArgs false
namespace Go.Proofs.YtojfiboeghonoaaGreat.Am
open Go

theorem imm_im {d : Nat} {cs : List AV} (h : ∀ c ∈ cs, Imm d c) : Imm (d + 1) (.im cs) := fun m hm => by
  cases m with
  | zero => omega
  | succ m => exact ⟨imm_all h (n := m) (by omega), fun hp => by show (cs.mapM (freezeN m hp)).map AV.im = _; rw [imm_mapM h (by omega)]; rfl⟩
theorem arrs_rp5 {H : Heap} {sz len id off : Nat} {cs : List AV} (hl : live H id = some cs) (hc : off + len * sz ≤ cs.length) : opArrs H sz len (.rp id off) = some (.rs sz id off len) := by
  simp [opArrs, hl, hc]
theorem mn2 {k : IntKind} {x y : Int} : opMm false [.int k x, .int k y] = some (.int k (if y < x then y else x)) := rfl
theorem mx2 {k : IntKind} {x y : Int} : opMm true [.int k x, .int k y] = some (.int k (if x < y then y else x)) := rfl
section
variable {h : Heap} {a b c : Int} {n : Nat} {q : Mq} {i : Nat}
theorem ab3 {f : Bool} {cs : List AV} : opSidx 1 (.is 3 f cs) (.int .i64 1) = some (.ip (cs.drop 1)) ∧ opSidx 1 (.is 3 f cs) (.int .i64 2) = some (.ip (cs.drop 2)) := ⟨Eq.trans rfl rfl, Eq.trans rfl rfl⟩
def mn3 (a b c : Int) : Int := if c < (if b < a then b else a) then c else if b < a then b else a
def mx3 (a b c : Int) : Int := if (if a < b then b else a) < c then c else if a < b then b else a
theorem min_cv : cv gp fid.zf3c [.is 3 false [.int .i64 a, .int .i64 b, .int .i64 c]] = some (.int .i64 (mn3 a b c)) := by
  have l1 : opBin .lss (.int .i64 1) (.int .i64 ((3 : Nat) : Int)) = some (.bool true) := rfl
  have l2 : opBin .lss (.int .i64 2) (.int .i64 ((3 : Nat) : Int)) = some (.bool true) := rfl
  have l3 : opBin .lss (.int .i64 3) (.int .i64 ((3 : Nat) : Int)) = some (.bool false) := rfl
  have l0 : opBin .lss (.int .i64 ((3 : Nat) : Int)) (.int .i64 1) = some (.bool false) := rfl
  rw [zf3c.eq]
  unfold zf3c.f
  simp (disch := first | exact dD | fail) only [Wd, W2d, W3d, Nat.reduceAdd, Nat.reduceMul, Nat.reduceSub, l0]
  rw [zf3c.l0_eq]
  simp (disch := first | exact dD | fail) only [Wd, W2d, W3d, Nat.reduceAdd, Nat.reduceMul, Nat.reduceSub, l1, ab3.1, mn2, ad11]
  rw [zf3c.l0_eq]
  simp (disch := first | exact dD | fail) only [Wd, W2d, W3d, Nat.reduceAdd, Nat.reduceMul, Nat.reduceSub, l2, ab3.2, mn2, ad21]
  rw [zf3c.l0_eq]
  simp (disch := first | exact dD | fail) only [Wd, W2d, W3d, Nat.reduceAdd, Nat.reduceMul, Nat.reduceSub, l3]
  rfl
theorem max_cv : cv gp fid.zf3d [.is 3 false [.int .i64 a, .int .i64 b, .int .i64 c]] = some (.int .i64 (mx3 a b c)) := by
  have l1 : opBin .lss (.int .i64 1) (.int .i64 ((3 : Nat) : Int)) = some (.bool true) := rfl
  have l2 : opBin .lss (.int .i64 2) (.int .i64 ((3 : Nat) : Int)) = some (.bool true) := rfl
  have l3 : opBin .lss (.int .i64 3) (.int .i64 ((3 : Nat) : Int)) = some (.bool false) := rfl
  have l0 : opBin .lss (.int .i64 ((3 : Nat) : Int)) (.int .i64 1) = some (.bool false) := rfl
  rw [zf3d.eq]
  unfold zf3d.f
  simp (disch := first | exact dD | fail) only [Wd, W2d, W3d, Nat.reduceAdd, Nat.reduceMul, Nat.reduceSub, l0]
  rw [zf3d.l0_eq]
  simp (disch := first | exact dD | fail) only [Wd, W2d, W3d, Nat.reduceAdd, Nat.reduceMul, Nat.reduceSub, l1, ab3.1, mx2, ad11]
  rw [zf3d.l0_eq]
  simp (disch := first | exact dD | fail) only [Wd, W2d, W3d, Nat.reduceAdd, Nat.reduceMul, Nat.reduceSub, l2, ab3.2, mx2, ad21]
  rw [zf3d.l0_eq]
  simp (disch := first | exact dD | fail) only [Wd, W2d, W3d, Nat.reduceAdd, Nat.reduceMul, Nat.reduceSub, l3]
  rfl
theorem imm_is3 : Imm 12 (.is 3 false [.int .i64 a, .int .i64 b, .int .i64 c]) := (imm_is (imm_three imm_int imm_int imm_int)).mono (by omega)
theorem within_cv (ha : InR n a) (hb : InR n b) (hc : InR n c) : cv gp fid.zf2q [.int .i64 (n : Int), .is 3 false [.int .i64 a, .int .i64 b, .int .i64 c]] = some (.bool true) := by
  have k1 := fun h => byVal_imm (h := h) (imm_L1 imm_is3) (min_cv (a := a) (b := b) (c := c))
  have k2 := fun h => byVal_imm (h := h) (imm_L1 imm_is3) (max_cv (a := a) (b := b) (c := c))
  obtain ⟨a0, a1⟩ := ha
  obtain ⟨b0, b1⟩ := hb
  obtain ⟨c0, c1⟩ := hc
  have e1 : opBin .geq (.int .i64 (mn3 a b c)) (.int .i64 0) = some (.bool true) := geqT (by unfold mn3; split <;> (try split) <;> omega)
  have e2 : opBin .lss (.int .i64 (mx3 a b c)) (.int .i64 (n : Int)) = some (.bool true) := lssT (by unfold mx3; split <;> (try split) <;> omega)
  rw [zf2q.eq]
  unfold zf2q.f
  simp (disch := first | exact dD | fail) only [Wd, W2d, W3d, Nat.reduceAdd, Nat.reduceMul, Nat.reduceSub, k1, k2, e1, e2]
theorem k_mwithin {H : Heap} {id : Nat} {T : List AV} (ha : InR n a) (hb : InR n b) (hc : InR n c) (hl : live H id = some (.int .i64 a :: .int .i64 b :: .int .i64 c :: T)) : byVal (callW gp) H fid.zf2q [.int .i64 (n : Int), .rs 1 id 0 3] = some (.bool true) := by
  refine byVal_flat ?_ (within_cv ha hb hc) rfl
  have e : freeze H (.rs 1 id 0 3) = some (.is 3 false [.int .i64 a, .int .i64 b, .int .i64 c]) := by
    show freezeN (11 + 1) H (.rs 1 id 0 3) = _
    rw [fz_rs, hl, Option.bind_some, if_pos (by simp)]
    rfl
  simp only [List.mapM_cons, List.mapM_nil, e]
  rfl
theorem back_cv : byVal (callW gp) h fid.zf2t [kv a b] = some (kv b a) := byVal_imm (imm_L1 (by unfold kv; exact (imm_agg (imm_two imm_int imm_int)).mono (by omega))) (by
  rw [zf2t.eq]
  unfold zf2t.f kv
  have a0 : ∀ o, opAidx 1 2 (.rp 0 o) (.int .i64 0) = some (.rp 0 (o + 0)) := fun o => aixR (i := 0) (by omega)
  have a1 : ∀ o, opAidx 1 2 (.rp 0 o) (.int .i64 1) = some (.rp 0 (o + 1)) := fun o => aixR (i := 1) (by omega)
  simp (disch := first | exact dD | fail) only [Wd, W2d, W3d, Nat.reduceAdd, Nat.reduceMul, Nat.reduceSub, a0, a1]
  rfl)
theorem plain_cv : byVal (callW gp) h fid.zf2u [kv a b] = some (kv (if b < a then b else a) (if a < b then b else a)) := byVal_imm (imm_L1 (by unfold kv; exact (imm_agg (imm_two imm_int imm_int)).mono (by omega))) (by
  rw [zf2u.eq]
  unfold zf2u.f kv
  have a0 : ∀ o, opAidx 1 2 (.rp 0 o) (.int .i64 0) = some (.rp 0 (o + 0)) := fun o => aixR (i := 0) (by omega)
  have a1 : ∀ o, opAidx 1 2 (.rp 0 o) (.int .i64 1) = some (.rp 0 (o + 1)) := fun o => aixR (i := 1) (by omega)
  simp (disch := first | exact dD | fail) only [Wd, W2d, W3d, Nat.reduceAdd, Nat.reduceMul, Nat.reduceSub, a0, a1, mn2, mx2]
  rfl)
set_option maxHeartbeats 4000000 in
theorem k_left (hq : q.ok) (hi : i < q.ts.length) : byVal (callW gp) h fid.zf2r [.agg (msc q.ms), .int .i64 (tat q.ts i).1, .int .i64 (tat q.ts i).2.1, .int .i64 (tat q.ts i).2.2] = some (.bool true) := byVal_imm (imm_L4 imm_ms imm_i imm_i imm_i) (by
  have fa : ∀ k id off, opFaddr k (.rp id off) = some (.rp id (off + k)) := fun _ _ _ => rfl
  obtain ⟨⟨⟨a0, a1⟩, ⟨b0, b1⟩, ⟨c0, c1⟩⟩, hA⟩ := hq.tr i hi
  generalize tat q.ts i = t at *
  have hz := hq.zp
  have ea := pcs_at (ps := q.ps) (i := t.1.toNat) (by omega)
  have eb := pcs_at (ps := q.ps) (i := t.2.1.toNat) (by omega)
  have ec := pcs_at (ps := q.ps) (i := t.2.2.toNat) (by omega)
  have za := hz.x (i := t.1.toNat) (by omega)
  have zb := hz.x (i := t.2.1.toNat) (by omega)
  have zc := hz.x (i := t.2.2.toNat) (by omega)
  have ko := fun h => k_orient (h := h) (za.1.mono (by omega)) (za.2.mono (by omega)) (zb.1.mono (by omega)) (zb.2.mono (by omega)) (zc.1.mono (by omega)) (zc.2.mono (by omega))
  have sa := sidx_is (sz := 6) (n := q.ps.length) (f := false) (cs := pcs q.ps) (k := .i64) (z := t.1) a0 a1
  have sb := sidx_is (sz := 6) (n := q.ps.length) (f := false) (cs := pcs q.ps) (k := .i64) (z := t.2.1) b0 b1
  have sc := sidx_is (sz := 6) (n := q.ps.length) (f := false) (cs := pcs q.ps) (k := .i64) (z := t.2.2) c0 c1
  have hd : decide (0 < rsgn (areaT q.ps t)) = true := decide_eq_true (by
    have h5 := @rsgn_le (areaT q.ps t)
    have : ¬ rsgn (areaT q.ps t) ≤ 0 := fun hh => by have := h5.1 hh; grind
    omega)
  unfold areaT ipx ipy at hd
  rw [zf2r.eq]
  unfold zf2r.f
  simp (disch := first | exact dD | fail) only [Wd, W2d, W3d, Nat.reduceAdd, Nat.reduceMul, Nat.reduceSub, fa, mq_0, sa, sb, sc, ea, eb, ec, ko, gtrD, hd])
theorem masked_l0 {xs : List PT} {f : Bool} (hb : ∀ t ∈ xs, t.ok) (hn : xs.length ≤ 1000000) : ∀ (k i : Nat) (hh : Heap), i + k = xs.length → zf2p.l0 (.is xs.length f (xs.flatMap ptc)) (.int .i64 xs.length) (.int .i64 (i : Nat)) hh = some (.int .i64 (firstE ((xs.drop i).map askc))) := by
  intro k
  induction k with
  | zero =>
    intro i hh hik
    rw [zf2p.l0_eq]
    simp (disch := first | exact dD | fail) only [Wd, W2d, W3d, Nat.reduceAdd, Nat.reduceMul, Nat.reduceSub]
    rw [List.drop_of_length_le (by omega)]
    rfl
  | succ k ih =>
    intro i hh hik
    rw [zf2p.l0_eq]
    have hi : i < xs.length := by omega
    have ht := hb _ (List.getElem_mem hi)
    have e : (xs.flatMap ptc).drop (i * 6) = .bool xs[i].1.s :: str xs[i].1.m :: str xs[i].1.d :: .bool xs[i].2.s :: str xs[i].2.m :: str xs[i].2.d :: (xs.drop (i + 1)).flatMap ptc := by
      rw [drop_flatMap ptc_len, List.drop_eq_getElem_cons hi, List.flatMap_cons]; rfl
    obtain ⟨z, hc⟩ := k_orient1 ht
    unfold ptc rtc at hc
    simp only [List.cons_append, List.nil_append] at hc
    rw [List.drop_eq_getElem_cons hi, List.map_cons, firstE]
    simp (disch := first | exact dD | fail) only [Wd, W2d, W3d, Nat.reduceAdd, Nat.reduceMul, Nat.reduceSub, e, hc, cond_d, set_app_self, live_app_self]
    by_cases h0 : askc xs[i] = 0
    · rw [if_pos h0, if_neg (by simpa using h0)]
      exact ih (i + 1) _ (by omega)
    · rw [if_neg h0, if_pos h0]
theorem k_masked {h : Heap} {xs : List PT} {f : Bool} (hb : ∀ t ∈ xs, t.ok) (hn : xs.length ≤ 1000000) : byVal (callW gp) h fid.zf2p [.is xs.length f (xs.flatMap ptc)] = some (.int .i64 (firstE (xs.map askc))) := byVal_lit (fun c hc => (imm_flat imm_ptc xs c hc).mono (by omega)) (by
  rw [zf2p.eq]
  unfold zf2p.f
  simp only [len_is, bind_s]
  exact masked_l0 hb hn xs.length 0 [] (by omega))
end
def sd (ts : List Tr) (p : Nat) : (Int × Int) × AV := (edI ts (p / 3) (p % 3), kv ((p / 3 : Nat) : Int) ((p % 3 : Nat) : Int))
def sdL (ts : List Tr) (n : Nat) : List ((Int × Int) × AV) := (List.range n).map (sd ts)
theorem sdL_succ {ts : List Tr} {i k : Nat} (hk : k < 3) : sdL ts (3 * i + k + 1) = sdL ts (3 * i + k) ++ [(edI ts i k, kv (i : Int) (k : Int))] := by
  unfold sdL
  rw [List.range_succ, List.map_append]
  have h1 : (3 * i + k) / 3 = i := by omega
  have h2 : (3 * i + k) % 3 = k := by omega
  simp [sd, h1, h2]
section
variable {q : Mq} (hq : q.ok)
include hq
theorem sdL_new {i k : Nat} (hi : i < q.ts.length) (hk : k < 3) : lkp (sdL q.ts (3 * i + k)) (edI q.ts i k) = none := by
  rw [lkp_none]
  intro x hx he
  obtain ⟨p, hp, rfl⟩ := List.mem_map.1 hx
  have hp := List.mem_range.1 hp
  have := hq.dist (p / 3) i (p % 3) k (by omega) hi (by omega) hk he
  omega
theorem sdL_find {a b : Int} : lkp (sdL q.ts (3 * q.ts.length)) (a, b) = (findI q.ts a b q.ts.length 0).map fun r => kv (r.1 : Int) (r.2 : Int) := by
  cases hf : findI q.ts a b q.ts.length 0 with
  | none =>
    rw [Option.map_none, lkp_none]
    intro x hx he
    obtain ⟨p, hp, rfl⟩ := List.mem_map.1 hx
    have hp := List.mem_range.1 hp
    exact findI_none hf (p / 3) (p % 3) (Nat.zero_le _) (by omega) (by omega) he
  | some r =>
    obtain ⟨_, h2, h3, h4⟩ := findI_some hf
    cases hl : lkp (sdL q.ts (3 * q.ts.length)) (a, b) with
    | none =>
      have := lkp_none.1 hl (sd q.ts (3 * r.1 + r.2)) (List.mem_map.2 ⟨_, List.mem_range.2 (by omega), rfl⟩)
      refine absurd ?_ this
      have h5 : (3 * r.1 + r.2) / 3 = r.1 := by omega
      have h6 : (3 * r.1 + r.2) % 3 = r.2 := by omega
      unfold sd
      rw [h5, h6]
      exact h4
    | some v =>
      obtain ⟨p, hp, he⟩ := List.mem_map.1 (lkp_mem hl)
      have hp := List.mem_range.1 hp
      unfold sd at he
      simp only [Prod.mk.injEq] at he
      have := hq.dist (p / 3) r.1 (p % 3) r.2 (by omega) (by omega) (by omega) h3 (by rw [he.1, h4])
      rw [← he.2, this.1, this.2]
      rfl
end
end Go.Proofs.YtojfiboeghonoaaGreat.Am
