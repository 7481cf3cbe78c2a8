import Derived.Test.YtiblnpnfaadmcaaGreatAmR
import Derived.Test.YtiblnpnfaadmcaaGreatTVec
import Derived.Test.YtiblnpnfaadmcaaGreatAmM
/- Points and products: layer 4, but for determinants. -/
set_option linter.unusedVariables false
set_option maxRecDepth 10000
set_option linter.unusedSimpArgs false
namespace Go.Proofs.YtiblnpnfaadmcaaGreat.Am
open Go

theorem live_old {h : Heap} {id : Nat} {x : Option (List AV)} (hl : id < h.length) : live (h ++ [x]) id = live h id := live_app_ne hl


def partsFrom (sz : Nat) : Nat → List (List AV) → List (Nat × Nat × AV)
  | _, [] => []
  | j, a :: l => (j * sz, sz, .agg a) :: partsFrom sz (j + 1) l
theorem fill_from {sz : Nat} {z : List AV} (hz : z.length = sz) : ∀ (l : List (List AV)) (j : Nat) (pre : List AV), (∀ a ∈ l, a.length = sz) → pre.length = j * sz → fillA (pre ++ zeros z l.length) (partsFrom sz j l) = some (pre ++ l.flatten)
  | [], j, pre, _, _ => by simp [zeros, partsFrom, fillA]
  | a :: l, j, pre, ha, hp => by
    have hal := ha a (List.mem_cons_self ..)
    rw [partsFrom, fill_agg hal (by rw [List.length_append, zeros_len, List.length_cons, Nat.add_mul, hz]; omega)]
    have e1 : (pre ++ zeros z (a :: l).length).take (j * sz) = pre := by rw [← hp]; simp
    have e2 : (pre ++ zeros z (a :: l).length).drop (j * sz + sz) = zeros z l.length := by
      rw [← hp, List.drop_append, List.drop_of_length_le (by omega), List.nil_append]
      rw [show pre.length + sz - pre.length = sz by omega, List.length_cons, zeros]
      rw [← hz, List.drop_left]
    rw [e1, e2]
    have := fill_from hz l (j + 1) (pre ++ a) (fun x hx => ha x (List.mem_cons_of_mem _ hx)) (by rw [List.length_append, hp, hal, Nat.add_mul]; omega)
    rw [this]
    simp
theorem bslc_from {sz n : Nat} {z : List AV} {ps : List (Nat × AV)} (l : List (List AV)) (hz : z.length = sz) (hl : ∀ a ∈ l, a.length = sz) (hn : n = l.length) (hp : ps.map (fun p => (p.1 * sz, sz, p.2)) = partsFrom sz 0 l) : opBslc sz n z ps = some (.is n true l.flatten) := by
  unfold opBslc
  rw [hp, hn]
  have := fill_from hz l 0 [] hl (by simp)
  rw [List.nil_append] at this
  rw [this]; rfl
theorem bslc_a3 {sz : Nat} {z a b c : List AV} (hz : z.length = sz) (ha : a.length = sz) (hb : b.length = sz) (hc : c.length = sz) : opBslc sz 3 z [(0, .agg a), (1, .agg b), (2, .agg c)] = some (.is 3 true (a ++ b ++ c)) := by
  exact (bslc_from (n := 3) [a, b, c] hz (by simp [ha, hb, hc]) rfl rfl).trans (by simp)
theorem bslc_a4 {sz : Nat} {z a b c d : List AV} (hz : z.length = sz) (ha : a.length = sz) (hb : b.length = sz) (hc : c.length = sz) (hd : d.length = sz) : opBslc sz 4 z [(0, .agg a), (1, .agg b), (2, .agg c), (3, .agg d)] = some (.is 4 true (a ++ b ++ c ++ d)) := by
  exact (bslc_from (n := 4) [a, b, c, d] hz (by simp [ha, hb, hc, hd]) rfl rfl).trans (by simp)

theorem drop_flatMap {α : Type} {f : α → List AV} {n : Nat} (hf : ∀ x, (f x).length = n) : ∀ (xs : List α) (i : Nat), (xs.flatMap f).drop (i * n) = (xs.drop i).flatMap f
  | xs, 0 => by simp
  | [], i + 1 => by simp
  | x :: xs, i + 1 => by
    rw [List.flatMap_cons, List.drop_succ_cons, Nat.add_mul, Nat.one_mul, Nat.add_comm, ← hf x, List.drop_append, List.drop_of_length_le (by omega), List.nil_append]
    rw [show (f x).length + i * (f x).length - (f x).length = i * (f x).length by omega, hf x]
    exact drop_flatMap hf xs i
theorem byVal_lit {G : Prog} {h : Heap} {g n : Nat} {f : Bool} {cs : List AV} {r : Option AV} (ha : ∀ c ∈ cs, Imm 10 c) (hc : cv G g [.is n false cs] = r) : byVal (callW G) h g [.is n f cs] = r := by
  rw [byVal_cv]
  have h1 : [AV.is n f cs].mapM (freeze h) = some [.is n false cs] := by
    refine mapM1 ?_
    show freezeN 12 h (.is n f cs) = _
    rw [fz_is, imm_mapM ha (by omega)]; rfl
  have h2 : [AV.is n f cs].all noRef = true := by
    have : noRef (.is n f cs) = true := imm_all ha (n := 11) (by omega)
    simp [this]
  rw [h1]
  simp only [Option.bind_some, hc, h2, Bool.true_or, if_true]
  cases r <;> rfl


structure RT where
  s : Bool
  m : List Nat
  d : List Nat
def RT.ok (t : RT) : Prop := (∀ x ∈ t.m, x < 256) ∧ ∀ x ∈ t.d, x < 256
def RT.chk (t : RT) : Int := rchk t.s t.m t.d
def rtc (t : RT) : List AV := [.bool t.s, str t.m, str t.d]
theorem rtc_len (t : RT) : (rtc t).length = 3 := rfl
theorem imm_rtc (t : RT) : ∀ c ∈ rtc t, Imm 1 c := imm_three imm_bool imm_strl imm_strl
abbrev PT := RT × RT
def PT.ok (p : PT) : Prop := p.1.ok ∧ p.2.ok
def pchk (p : PT) : Int := if p.1.chk = 0 then p.2.chk else p.1.chk
def ptc (p : PT) : List AV := rtc p.1 ++ rtc p.2
theorem ptc_len (p : PT) : (ptc p).length = 6 := rfl
theorem imm_ptc (p : PT) : ∀ c ∈ ptc p, Imm 1 c := fun c hc => (List.mem_append.1 hc).elim (imm_rtc p.1 c) (imm_rtc p.2 c)
theorem imm_pt {p : PT} : Imm 12 (.agg (ptc p)) := (imm_agg (imm_ptc p)).mono (by omega)
theorem imm_flat {α : Type} {f : α → List AV} {d : Nat} (hf : ∀ x, ∀ c ∈ f x, Imm d c) (xs : List α) : ∀ c ∈ xs.flatMap f, Imm d c := fun c hc => by
  obtain ⟨x, _, hx⟩ := List.mem_flatMap.1 hc
  exact hf x c hx

def firstE : List Int → Int
  | [] => 0
  | x :: l => if x = 0 then firstE l else x

theorem frz_p {h : Heap} {b b' : Bool} {l m l' m' : List Nat} : freeze h (.agg [.bool b, str l, str m, .bool b', str l', str m']) = some (.agg [.bool b, str l, str m, .bool b', str l', str m']) := Eq.trans rfl rfl
theorem frz_be {h : Heap} {b : Bool} {k : IntKind} {z : Int} : freeze h (.tup [.bool b, .int k z]) = some (.tup [.bool b, .int k z]) := Eq.trans rfl rfl
theorem rc18 {a0 a1 a2 a3 a4 a5 a6 a7 a8 a9 a10 a11 a12 a13 a14 a15 a16 a17 : AV} {l : List AV} : readCells (a0 :: a1 :: a2 :: a3 :: a4 :: a5 :: a6 :: a7 :: a8 :: a9 :: a10 :: a11 :: a12 :: a13 :: a14 :: a15 :: a16 :: a17 :: l) (some 18) = some (.agg [a0, a1, a2, a3, a4, a5, a6, a7, a8, a9, a10, a11, a12, a13, a14, a15, a16, a17]) := Eq.trans rfl rfl
theorem frz_pe {h : Heap} {b b' : Bool} {l m l' m' : List Nat} {k : IntKind} {z : Int} : freeze h (.tup [.agg [.bool b, str l, str m, .bool b', str l', str m'], .int k z]) = some (.tup [.agg [.bool b, str l, str m, .bool b', str l', str m'], .int k z]) := Eq.trans rfl rfl

set_option linter.defProp false in
def W3d := And.intro @bslc_a3 <| And.intro @bslc_a4 <| And.intro @frz_p <| And.intro @frz_pe <| And.intro @live_old <| And.intro @live_app_self <| And.intro @set_app_self <| And.intro @frz_be <| @rc18
section
variable {h : Heap}

theorem numbers_l0 {xs : List RT} {f : Bool} (hb : ∀ t ∈ xs, t.ok) (hn : xs.length ≤ 1000000) : ∀ (k i : Nat) (hh : Heap), i + k = xs.length → zf38.l0 (.is xs.length f (xs.flatMap rtc)) (.int .i64 xs.length) (.int .i64 (i : Nat)) hh = some (.int .i64 (firstE ((xs.drop i).map RT.chk))) := by
  intro k
  induction k with
  | zero =>
    intro i hh hik
    rw [zf38.l0_eq]
    simp (disch := first | exact dD | fail) only [Wd, W2d, Nat.reduceAdd, Nat.reduceMul, Nat.reduceSub]
    rw [List.drop_of_length_le (by omega)]
    rfl
  | succ k ih =>
    intro i hh hik
    rw [zf38.l0_eq]
    have hi : i < xs.length := by omega
    have ht := hb _ (List.getElem_mem hi)
    have e : (xs.flatMap rtc).drop (i * 3) = .bool xs[i].s :: str xs[i].m :: str xs[i].d :: (xs.drop (i + 1)).flatMap rtc := by
      rw [drop_flatMap rtc_len, List.drop_eq_getElem_cons hi, List.flatMap_cons]; rfl
    simp (disch := first | exact dD | fail) only [Wd, W2d, Nat.reduceAdd, Nat.reduceMul, Nat.reduceSub, e, live_app_self, set_app_self]
    rw [c_rcheck ht.1 ht.2]
    rw [List.drop_eq_getElem_cons hi, List.map_cons, firstE]
    simp (disch := first | exact dD | fail) only [Wd, W2d, Nat.reduceAdd, Nat.reduceMul, Nat.reduceSub, cond_d]
    by_cases h0 : xs[i].chk = 0
    · have h1 : rchk xs[i].s xs[i].m xs[i].d = 0 := h0
      rw [if_pos h0, if_neg (by simpa using h1)]
      exact ih (i + 1) _ (by omega)
    · have h1 : ¬ rchk xs[i].s xs[i].m xs[i].d = 0 := h0
      rw [if_neg h0, if_pos h1]
      rfl
theorem k_numbers {xs : List RT} {f : Bool} (hb : ∀ t ∈ xs, t.ok) (hn : xs.length ≤ 1000000) : byVal (callW gp) h fid.zf38 [.is xs.length f (xs.flatMap rtc)] = some (.int .i64 (firstE (xs.map RT.chk))) := byVal_lit (fun c hc => (imm_flat imm_rtc xs c hc).mono (by omega)) (by
  rw [zf38.eq]
  unfold zf38.f
  simp only [len_is, bind_s]
  exact numbers_l0 hb hn xs.length 0 [] (by omega))
theorem k_numbers2 {a b : RT} {f : Bool} (ha : a.ok) (hb : b.ok) : byVal (callW gp) h fid.zf38 [.is 2 f [.bool a.s, str a.m, str a.d, .bool b.s, str b.m, str b.d]] = some (.int .i64 (if a.chk = 0 then b.chk else a.chk)) := by
  have := k_numbers (h := h) (xs := [a, b]) (f := f) (fun t ht => by
    simp only [List.mem_cons, List.not_mem_nil, or_false] at ht
    rcases ht with rfl | rfl <;> assumption) (by simp)
  have e : firstE ([a, b].map RT.chk) = if a.chk = 0 then b.chk else a.chk := by
    show (if a.chk = 0 then (if b.chk = 0 then 0 else b.chk) else a.chk) = _
    by_cases h : b.chk = 0 <;> simp [h]
  rw [e] at this
  exact this
theorem k_numbers4 {a b c d : RT} {f : Bool} (ha : a.ok) (hb : b.ok) (hc : c.ok) (hd : d.ok) : byVal (callW gp) h fid.zf38 [.is 4 f [.bool a.s, str a.m, str a.d, .bool b.s, str b.m, str b.d, .bool c.s, str c.m, str c.d, .bool d.s, str d.m, str d.d]] = some (.int .i64 (if pchk (a, b) = 0 then pchk (c, d) else pchk (a, b))) := by
  have := k_numbers (h := h) (xs := [a, b, c, d]) (f := f) (fun t ht => by
    simp only [List.mem_cons, List.not_mem_nil, or_false] at ht
    rcases ht with rfl | rfl | rfl | rfl <;> assumption) (by simp)
  have e : firstE ([a, b, c, d].map RT.chk) = if pchk (a, b) = 0 then pchk (c, d) else pchk (a, b) := by
    show (if a.chk = 0 then (if b.chk = 0 then (if c.chk = 0 then (if d.chk = 0 then 0 else d.chk) else c.chk) else b.chk) else a.chk) = _
    unfold pchk
    by_cases h1 : a.chk = 0 <;> by_cases h2 : b.chk = 0 <;> by_cases h3 : c.chk = 0 <;> by_cases h4 : d.chk = 0 <;> simp [h1, h2, h3, h4]
  rw [e] at this
  exact this
theorem c_vcheck {p : PT} (hp : p.ok) : byVal (callW gp) h fid.zf2o [.agg (ptc p)] = some (.int .i64 (pchk p)) := byVal_imm (imm_L1 imm_pt) (by
  obtain ⟨a, b⟩ := p
  rw [zf2o.eq]
  unfold zf2o.f pchk ptc rtc
  simp (disch := first | exact dD | fail) only [Wd, W2d, Nat.reduceAdd, Nat.reduceMul, Nat.reduceSub, k_numbers2 hp.1 hp.2])
theorem points_l0 {xs : List PT} {f : Bool} (hb : ∀ t ∈ xs, t.ok) (hn : xs.length ≤ 1000000) : ∀ (k i : Nat) (hh : Heap), i + k = xs.length → zf3o.l0 (.is xs.length f (xs.flatMap ptc)) (.int .i64 xs.length) (.int .i64 (i : Nat)) hh = some (.int .i64 (firstE ((xs.drop i).map pchk))) := by
  intro k
  induction k with
  | zero =>
    intro i hh hik
    rw [zf3o.l0_eq]
    simp (disch := first | exact dD | fail) only [Wd, W2d, Nat.reduceAdd, Nat.reduceMul, Nat.reduceSub]
    rw [List.drop_of_length_le (by omega)]
    rfl
  | succ k ih =>
    intro i hh hik
    rw [zf3o.l0_eq]
    have hi : i < xs.length := by omega
    have ht := hb _ (List.getElem_mem hi)
    have e : (xs.flatMap ptc).drop (i * 6) = .bool xs[i].1.s :: str xs[i].1.m :: str xs[i].1.d :: .bool xs[i].2.s :: str xs[i].2.m :: str xs[i].2.d :: (xs.drop (i + 1)).flatMap ptc := by
      rw [drop_flatMap ptc_len, List.drop_eq_getElem_cons hi, List.flatMap_cons]; rfl
    simp (disch := first | exact dD | fail) only [Wd, W2d, Nat.reduceAdd, Nat.reduceMul, Nat.reduceSub, e, live_app_self, set_app_self]
    have hc := fun h => c_vcheck (h := h) ht
    unfold ptc rtc at hc
    simp only [List.cons_append, List.nil_append] at hc
    rw [hc]
    rw [List.drop_eq_getElem_cons hi, List.map_cons, firstE]
    simp (disch := first | exact dD | fail) only [Wd, W2d, Nat.reduceAdd, Nat.reduceMul, Nat.reduceSub, cond_d]
    by_cases h0 : pchk xs[i] = 0
    · rw [if_pos h0, if_neg (by simpa using h0)]
      exact ih (i + 1) _ (by omega)
    · rw [if_neg h0, if_pos h0]
theorem k_points {xs : List PT} {f : Bool} (hb : ∀ t ∈ xs, t.ok) (hn : xs.length ≤ 1000000) : byVal (callW gp) h fid.zf3o [.is xs.length f (xs.flatMap ptc)] = some (.int .i64 (firstE (xs.map pchk))) := byVal_lit (fun c hc => (imm_flat imm_ptc xs c hc).mono (by omega)) (by
  rw [zf3o.eq]
  unfold zf3o.f
  simp only [len_is, bind_s]
  exact points_l0 hb hn xs.length 0 [] (by omega))
theorem k_points2 {p q : PT} {f : Bool} (hp : p.ok) (hq : q.ok) : byVal (callW gp) h fid.zf3o [.is 2 f [.bool p.1.s, str p.1.m, str p.1.d, .bool p.2.s, str p.2.m, str p.2.d, .bool q.1.s, str q.1.m, str q.1.d, .bool q.2.s, str q.2.m, str q.2.d]] = some (.int .i64 (if pchk p = 0 then pchk q else pchk p)) := by
  have := k_points (h := h) (xs := [p, q]) (f := f) (fun t ht => by
    simp only [List.mem_cons, List.not_mem_nil, or_false] at ht
    rcases ht with rfl | rfl <;> assumption) (by simp)
  have e : firstE ([p, q].map pchk) = if pchk p = 0 then pchk q else pchk p := by
    show (if pchk p = 0 then (if pchk q = 0 then 0 else pchk q) else pchk p) = _
    by_cases h : pchk q = 0 <;> simp [h]
  rw [e] at this
  exact this


def rt (q : Rat) : RT := ⟨decide (q.num < 0), nb q.num.natAbs, nb q.den⟩
theorem rt_ok (q : Rat) : (rt q).ok := ⟨nb_lt _, nb_lt _⟩
theorem rt_chk {q : Rat} (h : Rz q 8000) : (rt q).chk = 0 := rchk_rat h
theorem pt_chk {x y : Rat} (hx : Rz x 8000) (hy : Rz y 8000) : pchk (rt x, rt y) = 0 := by
  unfold pchk; rw [rt_chk hx, if_pos rfl, rt_chk hy]
theorem pt_ok (x y : Rat) : PT.ok (rt x, rt y) := ⟨rt_ok x, rt_ok y⟩
abbrev pa (x y : Rat) : AV := .agg [.bool (decide (x.num < 0)), str (nb x.num.natAbs), str (nb x.den), .bool (decide (y.num < 0)), str (nb y.num.natAbs), str (nb y.den)]
theorem imm_pa {x y : Rat} : Imm 12 (pa x y) := imm_pt (p := (rt x, rt y))
theorem RT.rat {t : RT} (hb : t.ok) (h : t.chk = 0) : ∃ q, t = rt q := by
  obtain ⟨h1, h2, h3⟩ := rchk_zero.1 h
  obtain ⟨q, e1, e2, e3⟩ := rok_rat hb.1 hb.2 h3
  exact ⟨q, by cases t; simp only [rt, RT.mk.injEq]; exact ⟨e1, e2, e3⟩⟩

theorem c_vof {f : Nat} {p q r : Rat} {e : AV} (hf : gp.refm f = false) (hc : ∀ h, byVal (callW gp) h f [ra p, ra q] = some (.tup [ra r, e])) : byVal (callW gp) h fid.zf46 [.fn f [], ra p, ra q] = some (ra r) := byVal_imm (imm_L3 imm_fn0 imm_r3 imm_r3) (by
  rw [zf46.eq]
  unfold zf46.f callK'
  simp (disch := first | exact dD | fail) only [Wd, W2d, Nat.reduceAdd, Nat.reduceMul, Nat.reduceSub, hf, cond_false, hc])
theorem refm_radd : gp.refm fid.zf44 = false := by kernel_rfl
theorem refm_rsub : gp.refm fid.zf3q = false := by kernel_rfl
theorem refm_rmul : gp.refm fid.zf3m = false := by kernel_rfl
theorem v_radd {p q : Rat} (hp : Rz p 8000) (hq : Rz q 8000) : byVal (callW gp) h fid.zf46 [.fn fid.zf44 [], ra p, ra q] = some (ra (p + q)) := c_vof refm_radd fun _ => k_radd hp hq
theorem v_rsub {p q : Rat} (hp : Rz p 8000) (hq : Rz q 8000) : byVal (callW gp) h fid.zf46 [.fn fid.zf3q [], ra p, ra q] = some (ra (p - q)) := c_vof refm_rsub fun _ => k_rsub hp hq
theorem v_rmul {p q : Rat} (hp : Rz p 8000) (hq : Rz q 8000) : byVal (callW gp) h fid.zf46 [.fn fid.zf3m [], ra p, ra q] = some (ra (p * q)) := c_vof refm_rmul fun _ => k_rmul hp hq
theorem k_vpts {x y u v : Rat} {f : Bool} (hx : Rz x 8000) (hy : Rz y 8000) (hu : Rz u 8000) (hv : Rz v 8000) : byVal (callW gp) h fid.zf3o [.is 2 f [.bool (decide (x.num < 0)), str (nb x.num.natAbs), str (nb x.den), .bool (decide (y.num < 0)), str (nb y.num.natAbs), str (nb y.den), .bool (decide (u.num < 0)), str (nb u.num.natAbs), str (nb u.den), .bool (decide (v.num < 0)), str (nb v.num.natAbs), str (nb v.den)]] = some (.int .i64 0) := by
  have := k_points2 (h := h) (f := f) (pt_ok x y) (pt_ok u v)
  rw [pt_chk hx hy, pt_chk hu hv, if_pos rfl] at this
  exact this
theorem k_vnum4 {x y u v : Rat} {f : Bool} (hx : Rz x 8000) (hy : Rz y 8000) (hu : Rz u 8000) (hv : Rz v 8000) : byVal (callW gp) h fid.zf38 [.is 4 f [.bool (decide (x.num < 0)), str (nb x.num.natAbs), str (nb x.den), .bool (decide (y.num < 0)), str (nb y.num.natAbs), str (nb y.den), .bool (decide (u.num < 0)), str (nb u.num.natAbs), str (nb u.den), .bool (decide (v.num < 0)), str (nb v.num.natAbs), str (nb v.den)]] = some (.int .i64 0) := by
  have := k_numbers4 (h := h) (f := f) (rt_ok x) (rt_ok y) (rt_ok u) (rt_ok v)
  rw [pt_chk hx hy, pt_chk hu hv, if_pos rfl] at this
  exact this

theorem k_each {f : Nat} {F : Rat → Rat → Rat} {x y u v : Rat} (hF : ∀ h p q, Rz p 8000 → Rz q 8000 → byVal (callW gp) h fid.zf46 [.fn f [], ra p, ra q] = some (ra (F p q))) (hx : Rz x 8000) (hy : Rz y 8000) (hu : Rz u 8000) (hv : Rz v 8000) :
    byVal (callW gp) h fid.zf3r [pa x y, pa u v, .fn f []] = some (.tup [pa (F x u) (F y v), .int .i64 0]) := byVal_imm (imm_L3 imm_pa imm_pa imm_fn0) (by
  rw [zf3r.eq]
  unfold zf3r.f
  simp (disch := first | exact dD | fail) only [Wd, W2d, Nat.reduceAdd, Nat.reduceMul, Nat.reduceSub, k_vpts, hF, frz_pe])
end
end Go.Proofs.YtiblnpnfaadmcaaGreat.Am
/- Points and products: both texts. -/
set_option linter.unusedVariables false
set_option linter.unusedSimpArgs false
namespace Go.Proofs.YtiblnpnfaadmcaaGreat.Am
open Go

theorem RT.ratz {t : RT} {n : Nat} (hb : t.ok) (h : t.chk = 0) (hl : t.m.length ≤ n ∧ t.d.length ≤ n) : ∃ q, t = rt q ∧ Rz q n := by
  obtain ⟨q, rfl⟩ := RT.rat hb h
  exact ⟨q, rfl, hl.1, hl.2⟩
theorem pchk_zero {p : PT} : pchk p = 0 ↔ p.1.chk = 0 ∧ p.2.chk = 0 := by
  unfold pchk
  by_cases h : p.1.chk = 0 <;> simp [h]
theorem PT.ratz {p : PT} {n : Nat} (hb : p.ok) (h : pchk p = 0) (h1 : p.1.m.length ≤ n ∧ p.1.d.length ≤ n) (h2 : p.2.m.length ≤ n ∧ p.2.d.length ≤ n) : ∃ x y, p = (rt x, rt y) ∧ Rz x n ∧ Rz y n := by
  obtain ⟨a, b⟩ := pchk_zero.1 h
  obtain ⟨x, ex, hx⟩ := RT.ratz hb.1 a h1
  obtain ⟨y, ey, hy⟩ := RT.ratz hb.2 b h2
  exact ⟨x, y, by cases p; simp only at ex ey; rw [ex, ey], hx, hy⟩
theorem ptc_rt (x y : Rat) : AV.agg (ptc (rt x, rt y)) = pa x y := rfl
section
variable {h : Heap} {x y u v : Rat}


theorem k_minus (hx : Rz x 8000) (hy : Rz y 8000) (hu : Rz u 8000) (hv : Rz v 8000) : byVal (callW gp) h fid.zf3a [pa x y, pa u v] = some (.tup [pa (x - u) (y - v), .int .i64 0]) := byVal_imm (imm_L2 imm_pa imm_pa) (by
  rw [zf3a.eq]
  unfold zf3a.f
  have := fun h => k_each (h := h) (f := fid.zf3q) (F := fun a b => a - b) (fun h p q => v_rsub) hx hy hu hv
  simp (disch := first | exact dD | fail) only [Wd, W2d, W3d, Nat.reduceAdd, Nat.reduceMul, Nat.reduceSub, this])
theorem k_pair {f : Nat} {F : Rat → Rat → Rat} (hF : ∀ h p q, Rz p 8000 → Rz q 8000 → byVal (callW gp) h fid.zf46 [.fn f [], ra p, ra q] = some (ra (F p q))) (hx : Rz x 4000) (hy : Rz y 4000) (hu : Rz u 4000) (hv : Rz v 4000) :
    byVal (callW gp) h fid.zf3p [ra x, ra u, ra y, ra v, .fn f []] = some (.tup [ra (F (x * u) (y * v)), .int .i64 0]) := byVal_imm (fun c hc => by
    simp only [List.mem_cons, List.not_mem_nil, or_false] at hc
    rcases hc with rfl | rfl | rfl | rfl | rfl <;> first | exact imm_r3 | exact imm_fn0) (by
  rw [zf3p.eq]
  unfold zf3p.f
  have x' := hx.mono (m := 8000) (by omega)
  have y' := hy.mono (m := 8000) (by omega)
  have u' := hu.mono (m := 8000) (by omega)
  have v' := hv.mono (m := 8000) (by omega)
  have m1 : Rz (x * u) 8000 := hx.mul hu
  have m2 : Rz (y * v) 8000 := hy.mul hv
  simp (disch := first | exact dD | fail) only [Wd, W2d, W3d, Nat.reduceAdd, Nat.reduceMul, Nat.reduceSub, k_vnum4, v_rmul, hF])
theorem k_dot (hx : Rz x 3900) (hy : Rz y 3900) (hu : Rz u 3900) (hv : Rz v 3900) : byVal (callW gp) h fid.zf3k [pa x y, pa u v] = some (.tup [ra (x * u + y * v), .int .i64 0]) := byVal_imm (imm_L2 imm_pa imm_pa) (by
  rw [zf3k.eq]
  unfold zf3k.f
  have := fun h => k_pair (h := h) (f := fid.zf44) (F := fun a b => a + b) (fun h p q => v_radd) (hx.mono (m := 4000) (by omega)) (hy.mono (m := 4000) (by omega)) (hu.mono (m := 4000) (by omega)) (hv.mono (m := 4000) (by omega))
  simp (disch := first | exact dD | fail) only [Wd, W2d, W3d, Nat.reduceAdd, Nat.reduceMul, Nat.reduceSub, this])
theorem k_cross (hx : Rz x 3900) (hy : Rz y 3900) (hu : Rz u 3900) (hv : Rz v 3900) : byVal (callW gp) h fid.zf39 [pa x y, pa u v] = some (.tup [ra (x * v - y * u), .int .i64 0]) := byVal_imm (imm_L2 imm_pa imm_pa) (by
  rw [zf39.eq]
  unfold zf39.f
  have x' := hx.mono (m := 8000) (by omega)
  have y' := hy.mono (m := 8000) (by omega)
  have u' := hu.mono (m := 8000) (by omega)
  have v' := hv.mono (m := 8000) (by omega)
  have := fun h => k_pair (h := h) (x := x) (u := v) (y := y) (v := u) (f := fid.zf3q) (F := fun a b => a - b) (fun h p q => v_rsub) (hx.mono (m := 4000) (by omega)) (hy.mono (m := 4000) (by omega)) (hv.mono (m := 4000) (by omega)) (hu.mono (m := 4000) (by omega))
  simp (disch := first | exact dD | fail) only [Wd, W2d, W3d, Nat.reduceAdd, Nat.reduceMul, Nat.reduceSub, k_vpts, this])

end


theorem eqCells_cons_b {x y : Bool} {L : List LK} {l r : List AV} : eqCells (.b :: L) (.bool x :: l) (.bool y :: r) = if x = y then eqCells L l r else some false := by
  show (bif x == y then eqCells L l r else some false) = _
  cases x <;> cases y <;> rfl
theorem eqCells_cons_s {m n : List Nat} {L : List LK} {l r : List AV} (hm : ∀ x ∈ m, x < 256) (hn : ∀ x ∈ n, x < 256) : eqCells (.s :: L) (str m :: l) (str n :: r) = if m = n then eqCells L l r else some false := by
  show (bif (ByteArray.mk (m.map UInt8.ofNat).toArray).toList == (ByteArray.mk (n.map UInt8.ofNat).toArray).toList then eqCells L l r else some false) = _
  rw [toList_str, toList_str, str_eq hm hn]
  by_cases h : m = n <;> simp [h]
theorem eqa_eq {L : List LK} {xs ys : List AV} (h1 : xs.length = L.length) (h2 : ys.length = L.length) : opEqa false L (.agg xs) (.agg ys) = (eqCells L xs ys).map fun b => .bool b := by
  unfold opEqa
  simp only
  rw [if_pos ⟨h1, h2⟩]
  rfl
theorem eqa_r {p q : Rat} : opEqa false [.b, .s, .s] (ra p) (ra q) = some (.bool (decide (p = q))) := by
  rw [eqa_eq rfl rfl, eqCells_cons_b, eqCells_cons_s (nb_lt _) (nb_lt _), eqCells_cons_s (nb_lt _) (nb_lt _)]
  have hn : eqCells [] [] [] = some true := rfl
  rw [hn]
  by_cases h : p = q
  · subst h; simp
  · have hne : ¬ (decide (p.num < 0) = decide (q.num < 0) ∧ nb p.num.natAbs = nb q.num.natAbs ∧ nb p.den = nb q.den) := fun ⟨h1, h2, h3⟩ => h (ra_inj (by unfold ra; rw [h1, h2, h3]))
    rw [decide_eq_false h]
    by_cases h1 : decide (p.num < 0) = decide (q.num < 0)
    · by_cases h2 : nb p.num.natAbs = nb q.num.natAbs
      · by_cases h3 : nb p.den = nb q.den
        · exact absurd ⟨h1, h2, h3⟩ hne
        · simp [h1, h2, h3]
      · simp [h1, h2]
    · simp [h1]
end Go.Proofs.YtiblnpnfaadmcaaGreat.Am
/- Orders of whole and of rational numbers. -/
set_option linter.unusedVariables false
set_option linter.unusedSimpArgs false
namespace Go.Proofs.YtiblnpnfaadmcaaGreat.Am
open Go

def cmpZ (x y : Int) : Int := if x < y then -1 else if y < x then 1 else 0
def cmpQ (p q : Rat) : Int := if p < q then -1 else if q < p then 1 else 0
theorem cmpQ_z (p q : Rat) : cmpQ p q = cmpZ (p.num * q.den) (q.num * p.den) := by
  unfold cmpQ cmpZ
  simp only [Rat.lt_iff]
theorem cmpI_bd (a b : Nat) : -1 ≤ cmpI a b ∧ cmpI a b ≤ 1 := by unfold cmpI; split <;> (try split) <;> omega
theorem cmpZ_signs (x y : Int) : cmpZ x y = if x < 0 then (if y < 0 then -(cmpI x.natAbs y.natAbs) else -1) else (if y < 0 then 1 else cmpI x.natAbs y.natAbs) := by
  unfold cmpZ cmpI
  by_cases h1 : x < 0 <;> by_cases h2 : y < 0 <;> simp only [h1, h2, if_true, if_false] <;> (repeat' split) <;> omega


def area (ax ay bx b_ cx cy : Rat) : Rat := (bx - ax) * (cy - ay) - (b_ - ay) * (cx - ax)
def farQ (ax ay bx b_ : Rat) : Rat := (bx - ax) * (bx - ax) + (b_ - ay) * (b_ - ay)
section
variable {ax ay bx b_ cx cy : Rat} {n1 n2 n3 n4 n5 n6 : Nat}
theorem Rz_area (h1 : Rz ax n1) (h2 : Rz ay n2) (h3 : Rz bx n3) (h4 : Rz b_ n4) (h5 : Rz cx n5) (h6 : Rz cy n6) : Rz (area ax ay bx b_ cx cy) (n3 + n1 + 1 + (n6 + n2 + 1) + (n4 + n2 + 1 + (n5 + n1 + 1)) + 1) :=
  ((h3.sub h1).mul (h6.sub h2)).sub ((h4.sub h2).mul (h5.sub h1))
theorem Rz_far (h1 : Rz ax n1) (h2 : Rz ay n2) (h3 : Rz bx n3) (h4 : Rz b_ n4) : Rz (farQ ax ay bx b_) (n3 + n1 + 1 + (n3 + n1 + 1) + (n4 + n2 + 1 + (n4 + n2 + 1)) + 1) :=
  ((h3.sub h1).mul (h3.sub h1)).add ((h4.sub h2).mul (h4.sub h2))
end
theorem Rz_int {z : Int} (h1 : -9223372036854775808 ≤ z) (h2 : z ≤ 9223372036854775807) : Rz (z : Rat) 8 := by
  refine ⟨?_, ?_⟩
  · have e : ((z : Rat)).num = z := rfl
    rw [e]
    unfold isz
    rw [nb_len]
    exact dig_len_lt (by decide) (show z.natAbs < 256 ^ 8 by omega)
  · have e : ((z : Rat)).den = 1 := rfl
    rw [e, nb_one]; simp
theorem Rz_divInt' {z d : Int} (h1 : -9223372036854775808 ≤ z) (h2 : z ≤ 9223372036854775807) (h3 : -9223372036854775808 ≤ d) (h4 : d ≤ 9223372036854775807) (hd : d ≠ 0) : Rz (Rat.divInt z d) 8 := by
  have e : ∀ z : Int, -9223372036854775808 ≤ z → z ≤ 9223372036854775807 → isz z ≤ 8 := fun z a b => (Rz_int a b).num
  exact Rz_divInt hd (e z h1 h2) (e d h3 h4)
theorem rzT {p : Prop} (h : p := by (apply Rz.mono; (focus (repeat' (first | assumption | apply Rz_area | apply Rz_far | apply Rz.div | apply Rz.sub | apply Rz.add | apply Rz.mul | (apply Rz_int <;> omega) | (apply Rz_divInt' <;> omega)))); omega)) : p := h
theorem dE {p : Prop} (h : p := by first | omega | assumption | rfl | exact of_decide_eq_true rfl | exact ⟨rfl, rfl⟩ | (simp only [List.length_append, List.length_cons, List.length_nil]; omega) | exact rzT | fail) : p := h
example {x y : Rat} (hx : Rz x 60) (hy : Rz y 60) : Rz (x * ((2 : Int) : Rat) - farQ x y y x / area x y x y x y) 8000 := by exact rzT

section
variable {h : Heap}
theorem k_cmp {a b : Nat} (la : (dig B64 a).length ≤ 4000) (lb : (dig B64 b).length ≤ 4000) : byVal (callW gp) h fid.zf2u [nats (dig B64 a), nats (dig B64 b)] = some (.tup [.int .i64 (cmpI a b), .int .i64 0]) := by
  rw [c_cmp (dig_Dg b64_two a) (dig_Dg b64_two b) la lb, val_dig b64_two, val_dig b64_two]
theorem k_wcmp {x y : Int} (hx : isz x ≤ 32000) (hy : isz y ≤ 32000) : byVal (callW gp) h fid.zf28 [ia x, ia y] = some (.tup [.int .i64 (cmpZ x y), .int .i64 0]) := byVal_imm (imm_L2 imm_i2 imm_i2) (by
  rw [zf28.eq, cmpZ_signs]
  unfold zf28.f
  have l1 : (dig B64 x.natAbs).length ≤ 4000 := bytes64 (by have : (nb x.natAbs).length ≤ 32000 := hx; omega)
  have l2 : (dig B64 y.natAbs).length ≤ 4000 := bytes64 (by have : (nb y.natAbs).length ≤ 32000 := hy; omega)
  have hb := cmpI_bd x.natAbs y.natAbs
  have rd := fun hh => read2 (hh := hh) (@ia_ne x) (@ia_ne y) hx hy
  simp (disch := first | exact dD | fail) only [Wd, W2d, W3d, Nat.reduceAdd, Nat.reduceMul, Nat.reduceSub, rd, k_cmp]
  by_cases h1 : x < 0 <;> by_cases h2 : y < 0 <;> simp only [h1, h2, if_true, if_false] <;> simp (disch := first | exact dD | fail) only [Wd, W2d, W3d, Nat.reduceAdd, Nat.reduceMul, Nat.reduceSub, rd, k_cmp, un_neg, decide_eq_true, decide_eq_false, h1, h2, zf28.j0])
theorem k_rcmp {p q : Rat} (hp : Rz p 8000) (hq : Rz q 8000) : byVal (callW gp) h fid.zf1i [ra p, ra q] = some (.tup [.int .i64 (cmpQ p q), .int .i64 0]) := byVal_imm (imm_L2 imm_r3 imm_r3) (by
  rw [zf1i.eq, cmpQ_z]
  unfold zf1i.f
  have n1 : isz p.num ≤ 16000 := Nat.le_trans hp.num (by omega)
  have n2 : isz q.num ≤ 16000 := Nat.le_trans hq.num (by omega)
  have d1 : (nb p.den).length ≤ 16000 := Nat.le_trans hp.den (by omega)
  have d2 : (nb q.den).length ≤ 16000 := Nat.le_trans hq.den (by omega)
  have i1 : isz (p.num * q.den) ≤ 32000 := isz_mul n1 (by rw [isz_nat]; exact d2)
  have i2 : isz (q.num * p.den) ≤ 32000 := isz_mul n2 (by rw [isz_nat]; exact d1)
  simp (disch := first | exact dD | fail) only [Wd, W2d, W3d, Nat.reduceAdd, Nat.reduceMul, Nat.reduceSub, k_rboth, c_den, d_muld, k_wcmp])
end
end Go.Proofs.YtiblnpnfaadmcaaGreat.Am
/- What cons and the document compute, as numbers. -/
set_option linter.unusedVariables false
set_option linter.unusedSimpArgs false
namespace Go.Proofs.YtiblnpnfaadmcaaGreat.Am
open Go

def discQ (ax ay bx b_ px py : Rat) : Rat := (ax - px) * (bx - px) + (ay - py) * (b_ - py)
theorem sq_nn (a : Rat) : 0 ≤ a * a := by
  by_cases h : 0 ≤ a
  · exact Rat.mul_nonneg h h
  · have := Rat.mul_nonneg (a := -a) (b := -a) (by grind) (by grind)
    grind
theorem rsgn_zero {q : Rat} : rsgn q = 0 ↔ q = 0 := by
  unfold rsgn
  rw [← Rat.num_eq_zero]
  by_cases h : q.num < 0
  · rw [if_pos h]; omega
  · rw [if_neg h]; by_cases h2 : q.num = 0 <;> simp [h2]
theorem rsgn_le {q : Rat} : rsgn q ≤ 0 ↔ q ≤ 0 := by
  unfold rsgn
  have e1 := @Rat.num_nonneg q
  have e2 := @Rat.num_eq_zero q
  by_cases h : q.num < 0
  · rw [if_pos h]
    have : ¬ (0 : Rat) ≤ q := fun h3 => by have := e1.2 h3; omega
    have : q ≤ 0 := by grind
    simp [this]
  · rw [if_neg h]
    have h3 : (0 : Rat) ≤ q := e1.1 (by omega)
    by_cases h2 : q.num = 0
    · have : q = 0 := e2.1 h2
      rw [if_pos h2, this]; simp
    · have : q ≠ 0 := fun hh => h2 (e2.2 hh)
      have : ¬ q ≤ 0 := by grind
      rw [if_neg h2]; simp [this]
theorem rsgn_ge {q : Rat} : 0 ≤ rsgn q ↔ 0 ≤ q := by
  unfold rsgn
  rw [← Rat.num_nonneg]
  by_cases h : q.num < 0
  · rw [if_pos h]; omega
  · rw [if_neg h]; by_cases h2 : q.num = 0
    · rw [if_pos h2]; omega
    · rw [if_neg h2]; omega
def minQ (p q : Rat) : Rat := if p ≤ q then p else q
theorem Rz_min {p q : Rat} {n : Nat} (hp : Rz p n) (hq : Rz q n) : Rz (minQ p q) n := by unfold minQ; split <;> assumption
def nearQ (ax ay bx b_ cx cy : Rat) : Rat :=
  if (cx - ax) * (bx - ax) + (cy - ay) * (b_ - ay) ≤ 0 then farQ cx cy ax ay
  else if 0 ≤ (cx - bx) * (bx - ax) + (cy - b_) * (b_ - ay) then farQ cx cy bx b_
  else ((bx - ax) * (cy - ay) - (b_ - ay) * (cx - ax)) * ((bx - ax) * (cy - ay) - (b_ - ay) * (cx - ax)) / ((bx - ax) * (bx - ax) + (b_ - ay) * (b_ - ay))
end Go.Proofs.YtiblnpnfaadmcaaGreat.Am
/- Laws of numbers that the statements on cons come down to. -/
set_option linter.unusedVariables false
set_option linter.unusedSimpArgs false
namespace Go.Proofs.YtiblnpnfaadmcaaGreat.Am
open Go

variable {ax ay bx b_ cx cy px py s : Rat}
theorem c0 : ((0 : Int) : Rat) = 0 := rfl
theorem c1 : ((1 : Int) : Rat) = 1 := rfl
theorem c2 : ((2 : Int) : Rat) = 2 := rfl
theorem c4 : ((4 : Int) : Rat) = 4 := rfl


theorem parts : area ax ay bx b_ cx cy = area ax ay bx b_ px py + (area bx b_ cx cy px py + area cx cy ax ay px py) := by unfold area; grind


def S (x y z : Rat) : Prop := 0 < x + y - z ∧ x * y < (x + y - z) * (x + y - z)
end Go.Proofs.YtiblnpnfaadmcaaGreat.Am
/- Arguments that are numbers and points, opened. -/
set_option linter.unusedVariables false
set_option linter.unusedSimpArgs false
namespace Go.Proofs.YtiblnpnfaadmcaaGreat.Am
open Go

variable {P : Program}

def isStrT (P : Program) (t : TypeId) : Bool := P.cellsOf t == 1 && match P.underlying t with | some .string => true | _ => false
def isBoolT (P : Program) (t : TypeId) : Bool := P.cellsOf t == 1 && match P.underlying t with | some .bool => true | _ => false
def isIntT (P : Program) (t : TypeId) : Bool := P.cellsOf t == 2 && match P.underlying t with
  | some (.struct fs) => match fs.toList with
    | [f, g] => f.offset == 0 && g.offset == 1 && isBoolT P f.type && isStrT P g.type
    | _ => false
  | _ => false
def isRatT (P : Program) (t : TypeId) : Bool := P.cellsOf t == 3 && match P.underlying t with
  | some (.struct fs) => match fs.toList with
    | [f, g] => f.offset == 0 && g.offset == 2 && isIntT P f.type && isStrT P g.type
    | _ => false
  | _ => false
def isPtT (P : Program) (t : TypeId) : Bool := P.cellsOf t == 6 && match P.underlying t with
  | some (.struct fs) => match fs.toList with
    | [f, g] => f.offset == 0 && g.offset == 3 && isRatT P f.type && isRatT P g.type
    | _ => false
  | _ => false
def isPt3T (P : Program) (t : TypeId) : Bool := P.cellsOf t == 18 && match P.underlying t with
  | some (.struct fs) => match fs.toList with
    | [f, g, k] => f.offset == 0 && g.offset == 6 && k.offset == 12 && isPtT P f.type && isPtT P g.type && isPtT P k.type
    | _ => false
  | _ => false

theorem bool_cells {k : Nat} {t : TypeId} {cs : List AV} (ht : isBoolT P t = true) (h : Dat P (k + 1) t cs) : ∃ b, cs = [.bool b] := by
  unfold isBoolT at ht
  simp only [Bool.and_eq_true] at ht
  have h2 := ht.2
  split at h2
  · rename_i hu
    unfold Dat at h
    rw [hu] at h
    exact h
  · cases h2
theorem cells_of_T {t : TypeId} : (isStrT P t = true → P.cellsOf t = 1) ∧ (isBoolT P t = true → P.cellsOf t = 1) ∧ (isIntT P t = true → P.cellsOf t = 2) ∧ (isRatT P t = true → P.cellsOf t = 3) ∧ (isPtT P t = true → P.cellsOf t = 6) ∧ (isPt3T P t = true → P.cellsOf t = 18) := by
  refine ⟨fun h => by unfold isStrT at h; simp only [Bool.and_eq_true, beq_iff_eq] at h; exact h.1, fun h => by unfold isBoolT at h; simp only [Bool.and_eq_true, beq_iff_eq] at h; exact h.1, fun h => by unfold isIntT at h; simp only [Bool.and_eq_true, beq_iff_eq] at h; exact h.1, fun h => by unfold isRatT at h; simp only [Bool.and_eq_true, beq_iff_eq] at h; exact h.1, fun h => by unfold isPtT at h; simp only [Bool.and_eq_true, beq_iff_eq] at h; exact h.1, fun h => by unfold isPt3T at h; simp only [Bool.and_eq_true, beq_iff_eq] at h; exact h.1⟩
theorem dats2 {k : Nat} {t u : TypeId} {xs : List AV} (h : Dats P k [t, u] xs) : ∃ x y, xs = [x, y] ∧ DatV P k t x ∧ DatV P k u y := by
  match xs, h with
  | [x, y], ⟨h, h2, _⟩ => exact ⟨x, y, rfl, h, h2⟩
abbrev T3 := PT × PT × PT
def T3.ok (t : T3) : Prop := t.1.ok ∧ t.2.1.ok ∧ t.2.2.ok
end Go.Proofs.YtiblnpnfaadmcaaGreat.Am
