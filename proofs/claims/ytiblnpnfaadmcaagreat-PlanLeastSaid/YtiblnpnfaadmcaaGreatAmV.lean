import Derived.Test.YtiblnpnfaadmcaaGreatAmR
import Derived.Test.YtiblnpnfaadmcaaGreatTVec
import Derived.Test.YtiblnpnfaadmcaaGreatAmM
/- Points and products: layer 4, but for determinants. -/
set_option linter.unusedVariables false
set_option maxRecDepth 10000
set_option linter.unusedSimpArgs false
namespace Go.Proofs.YtiblnpnfaadmcaaGreat.Am
open Go

theorem live_old {h : Heap} {id : Nat} {x : Option (List AV)} (hl : id < h.length) : live (h ++ [x]) id = live h id := zya7 hl


def zye2 (sz : Nat) : Nat → List (List AV) → List (Nat × Nat × AV)
 | _, [] => []
 | j, a :: l => (j * sz, sz, .agg a) :: zye2 sz (j + 1) l
theorem zy5f {sz : Nat} {z : List AV} (hz : z.length = sz) : ∀ (l : List (List AV)) (j : Nat) (pre : List AV), (∀ a ∈ l, a.length = sz) → pre.length = j * sz → fillA (pre ++ zeros z l.length) (zye2 sz j l) = some (pre ++ l.flatten)
 | [], j, pre, _, _ => by simp [zeros, zye2, fillA]
 | a :: l, j, pre, ha, hp => by
  have hal := ha a (List.mem_cons_self ..)
  rw [zye2, zy5e hal (by rw [List.length_append, zyio, List.length_cons, Nat.add_mul, hz]; omega)]
  have e1 : (pre ++ zeros z (a :: l).length).take (j * sz) = pre := by rw [← hp]; simp
  have e2 : (pre ++ zeros z (a :: l).length).drop (j * sz + sz) = zeros z l.length := by
   rw [← hp, List.drop_append, List.drop_of_length_le (by omega), List.nil_append]
   rw [show pre.length + sz - pre.length = sz by omega, List.length_cons, zeros]
   rw [← hz, List.drop_left]
  rw [e1, e2]
  have := zy5f hz l (j + 1) (pre ++ a) (fun x hx => ha x (List.mem_cons_of_mem _ hx)) (by rw [List.length_append, hp, hal, Nat.add_mul]; omega)
  rw [this]
  simp
theorem zy1f {sz n : Nat} {z : List AV} {ps : List (Nat × AV)} (l : List (List AV)) (hz : z.length = sz) (hl : ∀ a ∈ l, a.length = sz) (hn : n = l.length) (hp : ps.map (fun p => (p.1 * sz, sz, p.2)) = zye2 sz 0 l) : zycy sz n z ps = some (.is n true l.flatten) := by
 unfold zycy
 rw [hp, hn]
 have := zy5f hz l 0 [] hl (by simp)
 rw [List.nil_append] at this
 rw [this]; rfl
theorem bslc_a3 {sz : Nat} {z a b c : List AV} (hz : z.length = sz) (ha : a.length = sz) (hb : b.length = sz) (hc : c.length = sz) : zycy sz 3 z [(0, .agg a), (1, .agg b), (2, .agg c)] = some (.is 3 true (a ++ b ++ c)) := by
 exact (zy1f (n := 3) [a, b, c] hz (by simp [ha, hb, hc]) rfl rfl).trans (by simp)
theorem bslc_a4 {sz : Nat} {z a b c d : List AV} (hz : z.length = sz) (ha : a.length = sz) (hb : b.length = sz) (hc : c.length = sz) (hd : d.length = sz) : zycy sz 4 z [(0, .agg a), (1, .agg b), (2, .agg c), (3, .agg d)] = some (.is 4 true (a ++ b ++ c ++ d)) := by
 exact (zy1f (n := 4) [a, b, c, d] hz (by simp [ha, hb, hc, hd]) rfl rfl).trans (by simp)

theorem zy4f {α : Type} {f : α → List AV} {n : Nat} (hf : ∀ x, (f x).length = n) : ∀ (xs : List α) (i : Nat), (xs.flatMap f).drop (i * n) = (xs.drop i).flatMap f
 | xs, 0 => by simp
 | [], i + 1 => by simp
 | x :: xs, i + 1 => by
  rw [List.flatMap_cons, List.drop_succ_cons, Nat.add_mul, Nat.one_mul, Nat.add_comm, ← hf x, List.drop_append, List.drop_of_length_le (by omega), List.nil_append]
  rw [show (f x).length + i * (f x).length - (f x).length = i * (f x).length by omega, hf x]
  exact zy4f hf xs i
theorem zy9x {α : Type} {f : α → List AV} {n : Nat} (hf : ∀ x, (f x).length = n) (xs : List α) : (xs.flatMap f).length = xs.length * n := by
 induction xs with
 | nil => simp
 | cons x xs ih => rw [List.flatMap_cons, List.length_append, ih, hf, List.length_cons, Nat.add_mul]; omega

theorem zy1o {G : Prog} {h : Heap} {g n : Nat} {f : Bool} {cs : List AV} {r : Option AV} (ha : ∀ c ∈ cs, Imm 10 c) (hc : cv G g [.is n false cs] = r) : byVal (callW G) h g [.is n f cs] = r := by
 rw [zy1k]
 have h1 : [AV.is n f cs].mapM (zy5v h) = some [.is n false cs] := by
  refine mapM1 ?_
  show zy5w 12 h (.is n f cs) = _
  rw [fz_is, zy7i ha (by omega)]; rfl
 have h2 : [AV.is n f cs].all noRef = true := by
  have : noRef (.is n f cs) = true := zy78 ha (n := 11) (by omega)
  simp [this]
 rw [h1]
 simp only [Option.bind_some, hc, h2, Bool.true_or, if_true]
 cases r <;> rfl


structure RT where
 s : Bool
 m : List Nat
 d : List Nat
def RT.ok (t : RT) : Prop := (∀ x ∈ t.m, x < 256) ∧ ∀ x ∈ t.d, x < 256
def RT.chk (t : RT) : Int := rchk t.s t.m t.d
def rtc (t : RT) : List AV := [.bool t.s, str t.m, str t.d]
theorem rtc_len (t : RT) : (rtc t).length = 3 := rfl
theorem zy7q (t : RT) : ∀ c ∈ rtc t, Imm 1 c := zy7s imm_bool imm_strl imm_strl
abbrev PT := RT × RT
def PT.ok (p : PT) : Prop := p.1.ok ∧ p.2.ok
def pchk (p : PT) : Int := if p.1.chk = 0 then p.2.chk else p.1.chk
def ptc (p : PT) : List AV := rtc p.1 ++ rtc p.2
theorem zye8 (p : PT) : (ptc p).length = 6 := rfl
theorem zy7o (p : PT) : ∀ c ∈ ptc p, Imm 1 c := fun c hc => (List.mem_append.1 hc).elim (zy7q p.1 c) (zy7q p.2 c)
theorem zy7n {p : PT} : Imm 12 (.agg (ptc p)) := (zy77 (zy7o p)).mono (by omega)
theorem zy79 {α : Type} {f : α → List AV} {d : Nat} (hf : ∀ x, ∀ c ∈ f x, Imm d c) (xs : List α) : ∀ c ∈ xs.flatMap f, Imm d c := fun c hc => by
 obtain ⟨x, _, hx⟩ := List.mem_flatMap.1 hc
 exact hf x c hx

def zy5n : List Int → Int
 | [] => 0
 | x :: l => if x = 0 then zy5n l else x

theorem frz_p {h : Heap} {b b' : Bool} {l m l' m' : List Nat} : zy5v h (.agg [.bool b, str l, str m, .bool b', str l', str m']) = some (.agg [.bool b, str l, str m, .bool b', str l', str m']) := Eq.trans rfl rfl
theorem frz_be {h : Heap} {b : Bool} {k : IntKind} {z : Int} : zy5v h (.tup [.bool b, .int k z]) = some (.tup [.bool b, .int k z]) := Eq.trans rfl rfl
theorem rc18 {a0 a1 a2 a3 a4 a5 a6 a7 a8 a9 a10 a11 a12 a13 a14 a15 a16 a17 : AV} {l : List AV} : zyem (a0 :: a1 :: a2 :: a3 :: a4 :: a5 :: a6 :: a7 :: a8 :: a9 :: a10 :: a11 :: a12 :: a13 :: a14 :: a15 :: a16 :: a17 :: l) (some 18) = some (.agg [a0, a1, a2, a3, a4, a5, a6, a7, a8, a9, a10, a11, a12, a13, a14, a15, a16, a17]) := Eq.trans rfl rfl
theorem frz_pe {h : Heap} {b b' : Bool} {l m l' m' : List Nat} {k : IntKind} {z : Int} : zy5v h (.tup [.agg [.bool b, str l, str m, .bool b', str l', str m'], .int k z]) = some (.tup [.agg [.bool b, str l, str m, .bool b', str l', str m'], .int k z]) := Eq.trans rfl rfl

set_option linter.defProp false in
def W3d := And.intro @bslc_a3 <| And.intro @bslc_a4 <| And.intro @frz_p <| And.intro @frz_pe <| And.intro @live_old <| And.intro @zya9 <| And.intro @zyfv <| And.intro @frz_be <| @rc18
section
variable {h : Heap}

theorem zycg {xs : List RT} {f : Bool} (hb : ∀ t ∈ xs, t.ok) (hn : xs.length ≤ 1000000) : ∀ (k i : Nat) (hh : Heap), i + k = xs.length → zf38.l0 (.is xs.length f (xs.flatMap rtc)) (.int .i64 xs.length) (.int .i64 (i : Nat)) hh = some (.int .i64 (zy5n ((xs.drop i).map RT.chk))) := by
 intro k
 induction k with
 | zero =>
  intro i hh hik
  rw [zf38.l0_eq]
  simp (disch := first | exact dD | fail) only [Wd, W2d, Nat.reduceAdd, Nat.reduceMul, Nat.reduceSub]
  rw [List.drop_of_length_le (by omega)]
  rfl
 | succ k ih =>
  intro i hh hik
  rw [zf38.l0_eq]
  have hi : i < xs.length := by omega
  have ht := hb _ (List.getElem_mem hi)
  have e : (xs.flatMap rtc).drop (i * 3) = .bool xs[i].s :: str xs[i].m :: str xs[i].d :: (xs.drop (i + 1)).flatMap rtc := by
   rw [zy4f rtc_len, List.drop_eq_getElem_cons hi, List.flatMap_cons]; rfl
  simp (disch := first | exact dD | fail) only [Wd, W2d, Nat.reduceAdd, Nat.reduceMul, Nat.reduceSub, e, zya9, zyfv]
  rw [zy28 ht.1 ht.2]
  rw [List.drop_eq_getElem_cons hi, List.map_cons, zy5n]
  simp (disch := first | exact dD | fail) only [Wd, W2d, Nat.reduceAdd, Nat.reduceMul, Nat.reduceSub, zy3c]
  by_cases h0 : xs[i].chk = 0
  ·have h1 : rchk xs[i].s xs[i].m xs[i].d = 0 := h0
   rw [if_pos h0, if_neg (by simpa using h1)]
   exact ih (i + 1) _ (by omega)
  ·have h1 : ¬ rchk xs[i].s xs[i].m xs[i].d = 0 := h0
   rw [if_neg h0, if_pos h1]
   rfl
theorem zy91 {xs : List RT} {f : Bool} (hb : ∀ t ∈ xs, t.ok) (hn : xs.length ≤ 1000000) : byVal (callW gp) h fid.zf38 [.is xs.length f (xs.flatMap rtc)] = some (.int .i64 (zy5n (xs.map RT.chk))) := zy1o (fun c hc => (zy79 zy7q xs c hc).mono (by omega)) (by
 rw [zf38.eq]
 unfold zf38.f
 simp only [zy9y, zy13]
 exact zycg hb hn xs.length 0 [] (by omega))
theorem zy92 {a b : RT} {f : Bool} (ha : a.ok) (hb : b.ok) : byVal (callW gp) h fid.zf38 [.is 2 f [.bool a.s, str a.m, str a.d, .bool b.s, str b.m, str b.d]] = some (.int .i64 (if a.chk = 0 then b.chk else a.chk)) := by
 have := zy91 (h := h) (xs := [a, b]) (f := f) (fun t ht => by
  simp only [List.mem_cons, List.not_mem_nil, or_false] at ht
  rcases ht with rfl | rfl <;> assumption) (by simp)
 have e : zy5n ([a, b].map RT.chk) = if a.chk = 0 then b.chk else a.chk := by
  show (if a.chk = 0 then (if b.chk = 0 then 0 else b.chk) else a.chk) = _
  by_cases h : b.chk = 0 <;> simp [h]
 rw [e] at this
 exact this
theorem zy93 {a b c d : RT} {f : Bool} (ha : a.ok) (hb : b.ok) (hc : c.ok) (hd : d.ok) : byVal (callW gp) h fid.zf38 [.is 4 f [.bool a.s, str a.m, str a.d, .bool b.s, str b.m, str b.d, .bool c.s, str c.m, str c.d, .bool d.s, str d.m, str d.d]] = some (.int .i64 (if pchk (a, b) = 0 then pchk (c, d) else pchk (a, b))) := by
 have := zy91 (h := h) (xs := [a, b, c, d]) (f := f) (fun t ht => by
  simp only [List.mem_cons, List.not_mem_nil, or_false] at ht
  rcases ht with rfl | rfl | rfl | rfl <;> assumption) (by simp)
 have e : zy5n ([a, b, c, d].map RT.chk) = if pchk (a, b) = 0 then pchk (c, d) else pchk (a, b) := by
  show (if a.chk = 0 then (if b.chk = 0 then (if c.chk = 0 then (if d.chk = 0 then 0 else d.chk) else c.chk) else b.chk) else a.chk) = _
  unfold pchk
  by_cases h1 : a.chk = 0 <;> by_cases h2 : b.chk = 0 <;> by_cases h3 : c.chk = 0 <;> by_cases h4 : d.chk = 0 <;> simp [h1, h2, h3, h4]
 rw [e] at this
 exact this
theorem zy2c {p : PT} (hp : p.ok) : byVal (callW gp) h fid.zf2o [.agg (ptc p)] = some (.int .i64 (pchk p)) := zy1m (zy72 zy7n) (by
 obtain ⟨a, b⟩ := p
 rw [zf2o.eq]
 unfold zf2o.f pchk ptc rtc
 simp (disch := first | exact dD | fail) only [Wd, W2d, Nat.reduceAdd, Nat.reduceMul, Nat.reduceSub, zy92 hp.1 hp.2])
theorem points_l0 {xs : List PT} {f : Bool} (hb : ∀ t ∈ xs, t.ok) (hn : xs.length ≤ 1000000) : ∀ (k i : Nat) (hh : Heap), i + k = xs.length → zf3o.l0 (.is xs.length f (xs.flatMap ptc)) (.int .i64 xs.length) (.int .i64 (i : Nat)) hh = some (.int .i64 (zy5n ((xs.drop i).map pchk))) := by
 intro k
 induction k with
 | zero =>
  intro i hh hik
  rw [zf3o.l0_eq]
  simp (disch := first | exact dD | fail) only [Wd, W2d, Nat.reduceAdd, Nat.reduceMul, Nat.reduceSub]
  rw [List.drop_of_length_le (by omega)]
  rfl
 | succ k ih =>
  intro i hh hik
  rw [zf3o.l0_eq]
  have hi : i < xs.length := by omega
  have ht := hb _ (List.getElem_mem hi)
  have e : (xs.flatMap ptc).drop (i * 6) = .bool xs[i].1.s :: str xs[i].1.m :: str xs[i].1.d :: .bool xs[i].2.s :: str xs[i].2.m :: str xs[i].2.d :: (xs.drop (i + 1)).flatMap ptc := by
   rw [zy4f zye8, List.drop_eq_getElem_cons hi, List.flatMap_cons]; rfl
  simp (disch := first | exact dD | fail) only [Wd, W2d, Nat.reduceAdd, Nat.reduceMul, Nat.reduceSub, e, zya9, zyfv]
  have hc := fun h => zy2c (h := h) ht
  unfold ptc rtc at hc
  simp only [List.cons_append, List.nil_append] at hc
  rw [hc]
  rw [List.drop_eq_getElem_cons hi, List.map_cons, zy5n]
  simp (disch := first | exact dD | fail) only [Wd, W2d, Nat.reduceAdd, Nat.reduceMul, Nat.reduceSub, zy3c]
  by_cases h0 : pchk xs[i] = 0
  ·rw [if_pos h0, if_neg (by simpa using h0)]
   exact ih (i + 1) _ (by omega)
  ·rw [if_neg h0, if_pos h0]
theorem k_points {xs : List PT} {f : Bool} (hb : ∀ t ∈ xs, t.ok) (hn : xs.length ≤ 1000000) : byVal (callW gp) h fid.zf3o [.is xs.length f (xs.flatMap ptc)] = some (.int .i64 (zy5n (xs.map pchk))) := zy1o (fun c hc => (zy79 zy7o xs c hc).mono (by omega)) (by
 rw [zf3o.eq]
 unfold zf3o.f
 simp only [zy9y, zy13]
 exact points_l0 hb hn xs.length 0 [] (by omega))
theorem k_points2 {p q : PT} {f : Bool} (hp : p.ok) (hq : q.ok) : byVal (callW gp) h fid.zf3o [.is 2 f [.bool p.1.s, str p.1.m, str p.1.d, .bool p.2.s, str p.2.m, str p.2.d, .bool q.1.s, str q.1.m, str q.1.d, .bool q.2.s, str q.2.m, str q.2.d]] = some (.int .i64 (if pchk p = 0 then pchk q else pchk p)) := by
 have := k_points (h := h) (xs := [p, q]) (f := f) (fun t ht => by
  simp only [List.mem_cons, List.not_mem_nil, or_false] at ht
  rcases ht with rfl | rfl <;> assumption) (by simp)
 have e : zy5n ([p, q].map pchk) = if pchk p = 0 then pchk q else pchk p := by
  show (if pchk p = 0 then (if pchk q = 0 then 0 else pchk q) else pchk p) = _
  by_cases h : pchk q = 0 <;> simp [h]
 rw [e] at this
 exact this


def rt (q : Rat) : RT := ⟨decide (q.num < 0), nb q.num.natAbs, nb q.den⟩
theorem rt_ok (q : Rat) : (rt q).ok := ⟨nb_lt _, nb_lt _⟩
theorem rt_chk {q : Rat} (h : Rz q 8000) : (rt q).chk = 0 := zyek h
theorem zye7 {x y : Rat} (hx : Rz x 8000) (hy : Rz y 8000) : pchk (rt x, rt y) = 0 := by
 unfold pchk; rw [rt_chk hx, if_pos rfl, rt_chk hy]
theorem pt_ok (x y : Rat) : PT.ok (rt x, rt y) := ⟨rt_ok x, rt_ok y⟩
abbrev pa (x y : Rat) : AV := .agg [.bool (decide (x.num < 0)), str (nb x.num.natAbs), str (nb x.den), .bool (decide (y.num < 0)), str (nb y.num.natAbs), str (nb y.den)]
theorem zy7m {x y : Rat} : Imm 12 (pa x y) := zy7n (p := (rt x, rt y))
theorem RT.rat {t : RT} (hb : t.ok) (h : t.chk = 0) : ∃ q, t = rt q := by
 obtain ⟨h1, h2, h3⟩ := rchk_zero.1 h
 obtain ⟨q, e1, e2, e3⟩ := rok_rat hb.1 hb.2 h3
 exact ⟨q, by cases t; simp only [rt, RT.mk.injEq]; exact ⟨e1, e2, e3⟩⟩

theorem c_vof {f : Nat} {p q r : Rat} {e : AV} (hf : gp.refm f = false) (hc : ∀ h, byVal (callW gp) h f [ra p, ra q] = some (.tup [ra r, e])) : byVal (callW gp) h fid.zf46 [.fn f [], ra p, ra q] = some (ra r) := zy1m (zy75 zy7a zy7p zy7p) (by
 rw [zf46.eq]
 unfold zf46.f zy2i
 simp (disch := first | exact dD | fail) only [Wd, W2d, Nat.reduceAdd, Nat.reduceMul, Nat.reduceSub, hf, cond_false, hc])
theorem refm_radd : gp.refm fid.zf44 = false := by kernel_rfl
theorem refm_rsub : gp.refm fid.zf3q = false := by kernel_rfl
theorem refm_rmul : gp.refm fid.zf3m = false := by kernel_rfl
theorem v_radd {p q : Rat} (hp : Rz p 8000) (hq : Rz q 8000) : byVal (callW gp) h fid.zf46 [.fn fid.zf44 [], ra p, ra q] = some (ra (p + q)) := c_vof refm_radd fun _ => k_radd hp hq
theorem v_rsub {p q : Rat} (hp : Rz p 8000) (hq : Rz q 8000) : byVal (callW gp) h fid.zf46 [.fn fid.zf3q [], ra p, ra q] = some (ra (p - q)) := c_vof refm_rsub fun _ => k_rsub hp hq
theorem v_rmul {p q : Rat} (hp : Rz p 8000) (hq : Rz q 8000) : byVal (callW gp) h fid.zf46 [.fn fid.zf3m [], ra p, ra q] = some (ra (p * q)) := c_vof refm_rmul fun _ => k_rmul hp hq
theorem k_vpts {x y u v : Rat} {f : Bool} (hx : Rz x 8000) (hy : Rz y 8000) (hu : Rz u 8000) (hv : Rz v 8000) : byVal (callW gp) h fid.zf3o [.is 2 f [.bool (decide (x.num < 0)), str (nb x.num.natAbs), str (nb x.den), .bool (decide (y.num < 0)), str (nb y.num.natAbs), str (nb y.den), .bool (decide (u.num < 0)), str (nb u.num.natAbs), str (nb u.den), .bool (decide (v.num < 0)), str (nb v.num.natAbs), str (nb v.den)]] = some (.int .i64 0) := by
 have := k_points2 (h := h) (f := f) (pt_ok x y) (pt_ok u v)
 rw [zye7 hx hy, zye7 hu hv, if_pos rfl] at this
 exact this
theorem k_vnum4 {x y u v : Rat} {f : Bool} (hx : Rz x 8000) (hy : Rz y 8000) (hu : Rz u 8000) (hv : Rz v 8000) : byVal (callW gp) h fid.zf38 [.is 4 f [.bool (decide (x.num < 0)), str (nb x.num.natAbs), str (nb x.den), .bool (decide (y.num < 0)), str (nb y.num.natAbs), str (nb y.den), .bool (decide (u.num < 0)), str (nb u.num.natAbs), str (nb u.den), .bool (decide (v.num < 0)), str (nb v.num.natAbs), str (nb v.den)]] = some (.int .i64 0) := by
 have := zy93 (h := h) (f := f) (rt_ok x) (rt_ok y) (rt_ok u) (rt_ok v)
 rw [zye7 hx hy, zye7 hu hv, if_pos rfl] at this
 exact this

theorem k_each {f : Nat} {F : Rat → Rat → Rat} {x y u v : Rat} (hF : ∀ h p q, Rz p 8000 → Rz q 8000 → byVal (callW gp) h fid.zf46 [.fn f [], ra p, ra q] = some (ra (F p q))) (hx : Rz x 8000) (hy : Rz y 8000) (hu : Rz u 8000) (hv : Rz v 8000) :
  byVal (callW gp) h fid.zf3r [pa x y, pa u v, .fn f []] = some (.tup [pa (F x u) (F y v), .int .i64 0]) := zy1m (zy75 zy7m zy7m zy7a) (by
 rw [zf3r.eq]
 unfold zf3r.f
 simp (disch := first | exact dD | fail) only [Wd, W2d, Nat.reduceAdd, Nat.reduceMul, Nat.reduceSub, k_vpts, hF, frz_pe])
end
end Go.Proofs.YtiblnpnfaadmcaaGreat.Am
/- Points and products: both texts. -/
set_option linter.unusedVariables false
set_option linter.unusedSimpArgs false
namespace Go.Proofs.YtiblnpnfaadmcaaGreat.Am
open Go

theorem RT.ratz {t : RT} {n : Nat} (hb : t.ok) (h : t.chk = 0) (hl : t.m.length ≤ n ∧ t.d.length ≤ n) : ∃ q, t = rt q ∧ Rz q n := by
 obtain ⟨q, rfl⟩ := RT.rat hb h
 exact ⟨q, rfl, hl.1, hl.2⟩
theorem pchk_zero {p : PT} : pchk p = 0 ↔ p.1.chk = 0 ∧ p.2.chk = 0 := by
 unfold pchk
 by_cases h : p.1.chk = 0 <;> simp [h]
theorem PT.ratz {p : PT} {n : Nat} (hb : p.ok) (h : pchk p = 0) (h1 : p.1.m.length ≤ n ∧ p.1.d.length ≤ n) (h2 : p.2.m.length ≤ n ∧ p.2.d.length ≤ n) : ∃ x y, p = (rt x, rt y) ∧ Rz x n ∧ Rz y n := by
 obtain ⟨a, b⟩ := pchk_zero.1 h
 obtain ⟨x, ex, hx⟩ := RT.ratz hb.1 a h1
 obtain ⟨y, ey, hy⟩ := RT.ratz hb.2 b h2
 exact ⟨x, y, by cases p; simp only at ex ey; rw [ex, ey], hx, hy⟩
theorem ptc_rt (x y : Rat) : AV.agg (ptc (rt x, rt y)) = pa x y := rfl
section
variable {h : Heap} {x y u v : Rat}


theorem k_minus (hx : Rz x 8000) (hy : Rz y 8000) (hu : Rz u 8000) (hv : Rz v 8000) : byVal (callW gp) h fid.zf3a [pa x y, pa u v] = some (.tup [pa (x - u) (y - v), .int .i64 0]) := zy1m (zy73 zy7m zy7m) (by
 rw [zf3a.eq]
 unfold zf3a.f
 have := fun h => k_each (h := h) (f := fid.zf3q) (F := fun a b => a - b) (fun h p q => v_rsub) hx hy hu hv
 simp (disch := first | exact dD | fail) only [Wd, W2d, W3d, Nat.reduceAdd, Nat.reduceMul, Nat.reduceSub, this])
theorem k_pair {f : Nat} {F : Rat → Rat → Rat} (hF : ∀ h p q, Rz p 8000 → Rz q 8000 → byVal (callW gp) h fid.zf46 [.fn f [], ra p, ra q] = some (ra (F p q))) (hx : Rz x 4000) (hy : Rz y 4000) (hu : Rz u 4000) (hv : Rz v 4000) :
  byVal (callW gp) h fid.zf3p [ra x, ra u, ra y, ra v, .fn f []] = some (.tup [ra (F (x * u) (y * v)), .int .i64 0]) := zy1m (fun c hc => by
  simp only [List.mem_cons, List.not_mem_nil, or_false] at hc
  rcases hc with rfl | rfl | rfl | rfl | rfl <;> first | exact zy7p | exact zy7a) (by
 rw [zf3p.eq]
 unfold zf3p.f
 have x' := hx.mono (m := 8000) (by omega)
 have y' := hy.mono (m := 8000) (by omega)
 have u' := hu.mono (m := 8000) (by omega)
 have v' := hv.mono (m := 8000) (by omega)
 have m1 : Rz (x * u) 8000 := hx.mul hu
 have m2 : Rz (y * v) 8000 := hy.mul hv
 simp (disch := first | exact dD | fail) only [Wd, W2d, W3d, Nat.reduceAdd, Nat.reduceMul, Nat.reduceSub, k_vnum4, v_rmul, hF])
theorem k_dot (hx : Rz x 3900) (hy : Rz y 3900) (hu : Rz u 3900) (hv : Rz v 3900) : byVal (callW gp) h fid.zf3k [pa x y, pa u v] = some (.tup [ra (x * u + y * v), .int .i64 0]) := zy1m (zy73 zy7m zy7m) (by
 rw [zf3k.eq]
 unfold zf3k.f
 have := fun h => k_pair (h := h) (f := fid.zf44) (F := fun a b => a + b) (fun h p q => v_radd) (hx.mono (m := 4000) (by omega)) (hy.mono (m := 4000) (by omega)) (hu.mono (m := 4000) (by omega)) (hv.mono (m := 4000) (by omega))
 simp (disch := first | exact dD | fail) only [Wd, W2d, W3d, Nat.reduceAdd, Nat.reduceMul, Nat.reduceSub, this])
theorem k_cross (hx : Rz x 3900) (hy : Rz y 3900) (hu : Rz u 3900) (hv : Rz v 3900) : byVal (callW gp) h fid.zf39 [pa x y, pa u v] = some (.tup [ra (x * v - y * u), .int .i64 0]) := zy1m (zy73 zy7m zy7m) (by
 rw [zf39.eq]
 unfold zf39.f
 have x' := hx.mono (m := 8000) (by omega)
 have y' := hy.mono (m := 8000) (by omega)
 have u' := hu.mono (m := 8000) (by omega)
 have v' := hv.mono (m := 8000) (by omega)
 have := fun h => k_pair (h := h) (x := x) (u := v) (y := y) (v := u) (f := fid.zf3q) (F := fun a b => a - b) (fun h p q => v_rsub) (hx.mono (m := 4000) (by omega)) (hy.mono (m := 4000) (by omega)) (hv.mono (m := 4000) (by omega)) (hu.mono (m := 4000) (by omega))
 simp (disch := first | exact dD | fail) only [Wd, W2d, W3d, Nat.reduceAdd, Nat.reduceMul, Nat.reduceSub, k_vpts, this])

theorem c_4check {p : PT} (hp : p.ok) : byVal (callW gp) h fid.zf10 [.agg (ptc p)] = some (.int .i64 (pchk p)) := zy1m (zy72 zy7n) (by
 obtain ⟨a, b⟩ := p
 rw [zf10.eq]
 unfold zf10.f pchk ptc rtc RT.chk
 simp (disch := first | exact dD | fail) only [Wd, W2d, W3d, Nat.reduceAdd, Nat.reduceMul, Nat.reduceSub, c_3both hp.1.1 hp.1.2 hp.2.1 hp.2.2])
theorem k_4plus (hx : Rz x 20000) (hy : Rz y 20000) (hu : Rz u 20000) (hv : Rz v 20000) : byVal (callW gp) h fid.zf1v [pa x y, pa u v] = some (pa (x + u) (y + v)) := zy1m (zy73 zy7m zy7m) (by
 rw [zf1v.eq]
 unfold zf1v.f
 simp (disch := first | exact dD | fail) only [Wd, W2d, W3d, Nat.reduceAdd, Nat.reduceMul, Nat.reduceSub, k_3sum])
theorem zy8o (hx : Rz x 20000) (hy : Rz y 20000) (hu : Rz u 20000) (hv : Rz v 20000) : byVal (callW gp) h fid.zf1d [pa x y, pa u v] = some (pa (x - u) (y - v)) := zy1m (zy73 zy7m zy7m) (by
 rw [zf1d.eq]
 unfold zf1d.f
 simp (disch := first | exact dD | fail) only [Wd, W2d, W3d, Nat.reduceAdd, Nat.reduceMul, Nat.reduceSub, k_3less])
theorem k_4scale (hx : Rz x 20000) (hy : Rz y 20000) (hu : Rz u 20000) : byVal (callW gp) h fid.zf1w [pa x y, ra u] = some (pa (x * u) (y * u)) := zy1m (zy73 zy7m zy7p) (by
 rw [zf1w.eq]
 unfold zf1w.f
 simp (disch := first | exact dD | fail) only [Wd, W2d, W3d, Nat.reduceAdd, Nat.reduceMul, Nat.reduceSub, k_3mul])
theorem zy8n (hx : Rz x 9000) (hy : Rz y 9000) (hu : Rz u 9000) (hv : Rz v 9000) : byVal (callW gp) h fid.zf1u [pa x y, pa u v] = some (ra (x * u + y * v)) := zy1m (zy73 zy7m zy7m) (by
 rw [zf1u.eq]
 unfold zf1u.f
 have x' := hx.mono (m := 20000) (by omega)
 have y' := hy.mono (m := 20000) (by omega)
 have u' := hu.mono (m := 20000) (by omega)
 have v' := hv.mono (m := 20000) (by omega)
 have m1 := (hx.mul hu).mono (m := 20000) (by omega)
 have m2 := (hy.mul hv).mono (m := 20000) (by omega)
 simp (disch := first | exact dD | fail) only [Wd, W2d, W3d, Nat.reduceAdd, Nat.reduceMul, Nat.reduceSub, k_3mul, k_3sum])
theorem k_4cross (hx : Rz x 9000) (hy : Rz y 9000) (hu : Rz u 9000) (hv : Rz v 9000) : byVal (callW gp) h fid.zf1s [pa x y, pa u v] = some (ra (x * v - y * u)) := zy1m (zy73 zy7m zy7m) (by
 rw [zf1s.eq]
 unfold zf1s.f
 have x' := hx.mono (m := 20000) (by omega)
 have y' := hy.mono (m := 20000) (by omega)
 have u' := hu.mono (m := 20000) (by omega)
 have v' := hv.mono (m := 20000) (by omega)
 have m1 := (hx.mul hv).mono (m := 20000) (by omega)
 have m2 := (hy.mul hu).mono (m := 20000) (by omega)
 simp (disch := first | exact dD | fail) only [Wd, W2d, W3d, Nat.reduceAdd, Nat.reduceMul, Nat.reduceSub, k_3mul, k_3less])
theorem zy8p (hx : Rz x 9000) (hy : Rz y 9000) : byVal (callW gp) h fid.zf1c [pa x y] = some (ra (x * x + y * y)) := zy1m (zy72 zy7m) (by
 rw [zf1c.eq]
 unfold zf1c.f
 simp (disch := first | exact dD | fail) only [Wd, W2d, W3d, Nat.reduceAdd, Nat.reduceMul, Nat.reduceSub, zy8n])
end


theorem zy4o {x y : Bool} {L : List LK} {l r : List AV} : zy4n (.b :: L) (.bool x :: l) (.bool y :: r) = if x = y then zy4n L l r else some false := by
 show (bif x == y then zy4n L l r else some false) = _
 cases x <;> cases y <;> rfl
theorem zy4p {m n : List Nat} {L : List LK} {l r : List AV} (hm : ∀ x ∈ m, x < 256) (hn : ∀ x ∈ n, x < 256) : zy4n (.s :: L) (str m :: l) (str n :: r) = if m = n then zy4n L l r else some false := by
 show (bif (ByteArray.mk (m.map UInt8.ofNat).toArray).toList == (ByteArray.mk (n.map UInt8.ofNat).toArray).toList then zy4n L l r else some false) = _
 rw [zyhd, zyhd, str_eq hm hn]
 by_cases h : m = n <;> simp [h]
theorem eqa_eq {L : List LK} {xs ys : List AV} (h1 : xs.length = L.length) (h2 : ys.length = L.length) : opEqa false L (.agg xs) (.agg ys) = (zy4n L xs ys).map fun b => .bool b := by
 unfold opEqa
 simp only
 rw [if_pos ⟨h1, h2⟩]
 rfl
theorem eqa_r {p q : Rat} : opEqa false [.b, .s, .s] (ra p) (ra q) = some (.bool (decide (p = q))) := by
 rw [eqa_eq rfl rfl, zy4o, zy4p (nb_lt _) (nb_lt _), zy4p (nb_lt _) (nb_lt _)]
 have hn : zy4n [] [] [] = some true := rfl
 rw [hn]
 by_cases h : p = q
 ·subst h; simp
 ·have hne : ¬ (decide (p.num < 0) = decide (q.num < 0) ∧ nb p.num.natAbs = nb q.num.natAbs ∧ nb p.den = nb q.den) := fun ⟨h1, h2, h3⟩ => h (ra_inj (by unfold ra; rw [h1, h2, h3]))
  rw [decide_eq_false h]
  by_cases h1 : decide (p.num < 0) = decide (q.num < 0)
  ·by_cases h2 : nb p.num.natAbs = nb q.num.natAbs
   ·by_cases h3 : nb p.den = nb q.den
    ·exact absurd ⟨h1, h2, h3⟩ hne
    ·simp [h1, h2, h3]
   ·simp [h1, h2]
  ·simp [h1]
end Go.Proofs.YtiblnpnfaadmcaaGreat.Am
/- Orders of whole and of rational numbers. -/
set_option linter.unusedVariables false
set_option linter.unusedSimpArgs false
namespace Go.Proofs.YtiblnpnfaadmcaaGreat.Am
open Go

def cmpZ (x y : Int) : Int := if x < y then -1 else if y < x then 1 else 0
def cmpQ (p q : Rat) : Int := if p < q then -1 else if q < p then 1 else 0
theorem cmpQ_z (p q : Rat) : cmpQ p q = cmpZ (p.num * q.den) (q.num * p.den) := by
 unfold cmpQ cmpZ
 simp only [Rat.lt_iff]
theorem cmpI_bd (a b : Nat) : -1 ≤ cmpI a b ∧ cmpI a b ≤ 1 := by unfold cmpI; split <;> (try split) <;> omega
theorem zy34 (x y : Int) : cmpZ x y = if x < 0 then (if y < 0 then -(cmpI x.natAbs y.natAbs) else -1) else (if y < 0 then 1 else cmpI x.natAbs y.natAbs) := by
 unfold cmpZ cmpI
 by_cases h1 : x < 0 <;> by_cases h2 : y < 0 <;> simp only [h1, h2, if_true, if_false] <;> (repeat' split) <;> omega


def area (ax ay bx b_ cx cy : Rat) : Rat := (bx - ax) * (cy - ay) - (b_ - ay) * (cx - ax)
def farQ (ax ay bx b_ : Rat) : Rat := (bx - ax) * (bx - ax) + (b_ - ay) * (b_ - ay)
section
variable {ax ay bx b_ cx cy : Rat} {n1 n2 n3 n4 n5 n6 : Nat}
theorem Rz_area (h1 : Rz ax n1) (h2 : Rz ay n2) (h3 : Rz bx n3) (h4 : Rz b_ n4) (h5 : Rz cx n5) (h6 : Rz cy n6) : Rz (area ax ay bx b_ cx cy) (n3 + n1 + 1 + (n6 + n2 + 1) + (n4 + n2 + 1 + (n5 + n1 + 1)) + 1) :=
 ((h3.sub h1).mul (h6.sub h2)).sub ((h4.sub h2).mul (h5.sub h1))
theorem zy06 (h1 : Rz ax n1) (h2 : Rz ay n2) (h3 : Rz bx n3) (h4 : Rz b_ n4) : Rz (farQ ax ay bx b_) (n3 + n1 + 1 + (n3 + n1 + 1) + (n4 + n2 + 1 + (n4 + n2 + 1)) + 1) :=
 ((h3.sub h1).mul (h3.sub h1)).add ((h4.sub h2).mul (h4.sub h2))
end
theorem zy07 {z : Int} (h1 : -9223372036854775808 ≤ z) (h2 : z ≤ 9223372036854775807) : Rz (z : Rat) 8 := by
 refine ⟨?_, ?_⟩
 ·have e : ((z : Rat)).num = z := rfl
  rw [e]
  unfold isz
  rw [zybu]
  exact zy3z (by decide) (show z.natAbs < 256 ^ 8 by omega)
 ·have e : ((z : Rat)).den = 1 := rfl
  rw [e, nb_one]; simp
theorem zy05 {z d : Int} (h1 : -9223372036854775808 ≤ z) (h2 : z ≤ 9223372036854775807) (h3 : -9223372036854775808 ≤ d) (h4 : d ≤ 9223372036854775807) (hd : d ≠ 0) : Rz (Rat.divInt z d) 8 := by
 have e : ∀ z : Int, -9223372036854775808 ≤ z → z ≤ 9223372036854775807 → isz z ≤ 8 := fun z a b => (zy07 a b).num
 exact zy04 hd (e z h1 h2) (e d h3 h4)
theorem rzT {p : Prop} (h : p := by (apply Rz.mono; (focus (repeat' (first | assumption | apply Rz_area | apply zy06 | apply Rz.div | apply Rz.sub | apply Rz.add | apply Rz.mul | (apply zy07 <;> omega) | (apply zy05 <;> omega)))); omega)) : p := h
theorem dE {p : Prop} (h : p := by first | omega | assumption | rfl | exact of_decide_eq_true rfl | exact ⟨rfl, rfl⟩ | (simp only [List.length_append, List.length_cons, List.length_nil]; omega) | exact rzT | fail) : p := h
example {x y : Rat} (hx : Rz x 60) (hy : Rz y 60) : Rz (x * ((2 : Int) : Rat) - farQ x y y x / area x y x y x y) 8000 := by exact rzT

section
variable {h : Heap}
theorem k_cmp {a b : Nat} (la : (dig B64 a).length ≤ 4000) (lb : (dig B64 b).length ≤ 4000) : byVal (callW gp) h fid.zf2u [nats (dig B64 a), nats (dig B64 b)] = some (.tup [.int .i64 (cmpI a b), .int .i64 0]) := by
 rw [c_cmp (zy3s zy0u a) (zy3s zy0u b) la lb, zyhy zy0u, zyhy zy0u]
theorem k_wcmp {x y : Int} (hx : isz x ≤ 32000) (hy : isz y ≤ 32000) : byVal (callW gp) h fid.zf28 [ia x, ia y] = some (.tup [.int .i64 (cmpZ x y), .int .i64 0]) := zy1m (zy73 zy7b zy7b) (by
 rw [zf28.eq, zy34]
 unfold zf28.f
 have l1 : (dig B64 x.natAbs).length ≤ 4000 := zy1v (by have : (nb x.natAbs).length ≤ 32000 := hx; omega)
 have l2 : (dig B64 y.natAbs).length ≤ 4000 := zy1v (by have : (nb y.natAbs).length ≤ 32000 := hy; omega)
 have hb := cmpI_bd x.natAbs y.natAbs
 have rd := fun hh => read2 (hh := hh) (@ia_ne x) (@ia_ne y) hx hy
 simp (disch := first | exact dD | fail) only [Wd, W2d, W3d, Nat.reduceAdd, Nat.reduceMul, Nat.reduceSub, rd, k_cmp]
 by_cases h1 : x < 0 <;> by_cases h2 : y < 0 <;> simp only [h1, h2, if_true, if_false] <;> simp (disch := first | exact dD | fail) only [Wd, W2d, W3d, Nat.reduceAdd, Nat.reduceMul, Nat.reduceSub, rd, k_cmp, zyhr, decide_eq_true, decide_eq_false, h1, h2, zf28.j0])
theorem k_rcmp {p q : Rat} (hp : Rz p 8000) (hq : Rz q 8000) : byVal (callW gp) h fid.zf1i [ra p, ra q] = some (.tup [.int .i64 (cmpQ p q), .int .i64 0]) := zy1m (zy73 zy7p zy7p) (by
 rw [zf1i.eq, cmpQ_z]
 unfold zf1i.f
 have n1 : isz p.num ≤ 16000 := Nat.le_trans hp.num (by omega)
 have n2 : isz q.num ≤ 16000 := Nat.le_trans hq.num (by omega)
 have d1 : (nb p.den).length ≤ 16000 := Nat.le_trans hp.den (by omega)
 have d2 : (nb q.den).length ≤ 16000 := Nat.le_trans hq.den (by omega)
 have i1 : isz (p.num * q.den) ≤ 32000 := zy8b n1 (by rw [zy8c]; exact d2)
 have i2 : isz (q.num * p.den) ≤ 32000 := zy8b n2 (by rw [zy8c]; exact d1)
 simp (disch := first | exact dD | fail) only [Wd, W2d, W3d, Nat.reduceAdd, Nat.reduceMul, Nat.reduceSub, zy98, c_den, d_muld, k_wcmp])
theorem zy8k {x y : Int} (hx : isz x ≤ 100000) (hy : isz y ≤ 100000) : byVal (callW gp) h fid.zf11 [ia x, ia y] = some (.int .i64 (cmpZ x y)) := zy1m (zy73 zy7b zy7b) (by
 rw [zf11.eq, zy34]
 unfold zf11.f
 have hx' : (nb x.natAbs).length ≤ 100000 := hx
 have hy' : (nb y.natAbs).length ≤ 100000 := hy
 have l1 : (dig B32 x.natAbs).length ≤ 25000 := zy1u (by omega)
 have l2 : (dig B32 y.natAbs).length ≤ 25000 := zy1u (by omega)
 have hb := cmpI_bd x.natAbs y.natAbs
 by_cases h1 : x < 0
 ·have e1 : decide (x < 0) = true := decide_eq_true h1
  rw [if_pos h1]
  by_cases h2 : y < 0
  ·have e2 : decide (y < 0) = true := decide_eq_true h2
   rw [if_pos h2]
   simp (disch := first | exact dD | fail) only [Wd, W2d, W3d, Nat.reduceAdd, Nat.reduceMul, Nat.reduceSub, e1, e2, zy8y, zy29, zyhr, beq_self_eq_true, Bool.not_true, Bool.not_false, Bool.true_beq, Bool.false_beq]
  ·have e2 : decide (y < 0) = false := decide_eq_false h2
   rw [if_neg h2]
   simp (disch := first | exact dD | fail) only [Wd, W2d, W3d, Nat.reduceAdd, Nat.reduceMul, Nat.reduceSub, e1, e2, zy8y, zy29, zyhr, beq_self_eq_true, Bool.not_true, Bool.not_false, Bool.true_beq, Bool.false_beq]
 ·have e1 : decide (x < 0) = false := decide_eq_false h1
  rw [if_neg h1]
  by_cases h2 : y < 0
  ·have e2 : decide (y < 0) = true := decide_eq_true h2
   rw [if_pos h2]
   simp (disch := first | exact dD | fail) only [Wd, W2d, W3d, Nat.reduceAdd, Nat.reduceMul, Nat.reduceSub, e1, e2, zy8y, zy29, zyhr, beq_self_eq_true, Bool.not_true, Bool.not_false, Bool.true_beq, Bool.false_beq]
  ·have e2 : decide (y < 0) = false := decide_eq_false h2
   rw [if_neg h2]
   simp (disch := first | exact dD | fail) only [Wd, W2d, W3d, Nat.reduceAdd, Nat.reduceMul, Nat.reduceSub, e1, e2, zy8y, zy29, zyhr, beq_self_eq_true, Bool.not_true, Bool.not_false, Bool.true_beq, Bool.false_beq])
theorem zy8l {p q : Rat} (hp : Rz p 20000) (hq : Rz q 20000) : byVal (callW gp) h fid.zf0e [ra p, ra q] = some (.int .i64 (cmpQ p q)) := zy1m (zy73 zy7p zy7p) (by
 rw [zf0e.eq, cmpQ_z]
 unfold zf0e.f
 have n1 := hp.num
 have n2 := hq.num
 have d1 := hp.den
 have d2 := hq.den
 have m1 : isz p.num ≤ 100000 := by omega
 have m2 : isz q.num ≤ 100000 := by omega
 have i1 : isz (p.num * q.den) ≤ 40000 := zy8b n1 (by rw [zy8c]; exact d2)
 have i2 : isz (q.num * p.den) ≤ 40000 := zy8b n2 (by rw [zy8c]; exact d1)
 have j1 : isz (p.num * q.den) ≤ 100000 := by omega
 have j2 : isz (q.num * p.den) ≤ 100000 := by omega
 have g1 := nb_lt p.den
 have g2 := nb_lt q.den
 by_cases hd : p.den = q.den
 ·have e : cmpZ (p.num * q.den) (q.num * p.den) = cmpZ p.num q.num := by
   have hpos : (0 : Int) < q.den := by have := q.den_nz; omega
   unfold cmpZ
   rw [hd]
   have e1 : (p.num * (q.den : Int) < q.num * q.den) = (p.num < q.num) := propext (Int.mul_lt_mul_right hpos)
   have e2 : (q.num * (q.den : Int) < p.num * q.den) = (q.num < p.num) := propext (Int.mul_lt_mul_right hpos)
   simp only [e1, e2]
  rw [e]
  simp (disch := first | exact dD | fail) only [Wd, W2d, W3d, Nat.reduceAdd, Nat.reduceMul, Nat.reduceSub, zyh1, hd, zy8k]
 ·have hne : nb p.den ≠ nb q.den := fun h => hd (nb_inj h)
  simp (disch := first | exact dD | fail) only [Wd, W2d, W3d, Nat.reduceAdd, Nat.reduceMul, Nat.reduceSub, zyh1, zy22, zy8j, zy8k])
end
end Go.Proofs.YtiblnpnfaadmcaaGreat.Am
/- What cons and the document compute, as numbers. -/
set_option linter.unusedVariables false
set_option linter.unusedSimpArgs false
namespace Go.Proofs.YtiblnpnfaadmcaaGreat.Am
open Go

def discQ (ax ay bx b_ px py : Rat) : Rat := (ax - px) * (bx - px) + (ay - py) * (b_ - py)
theorem sq_nn (a : Rat) : 0 ≤ a * a := by
 by_cases h : 0 ≤ a
 ·exact Rat.mul_nonneg h h
 ·have := Rat.mul_nonneg (a := -a) (b := -a) (by grind) (by grind)
  grind
theorem rsgn_zero {q : Rat} : rsgn q = 0 ↔ q = 0 := by
 unfold rsgn
 rw [← Rat.num_eq_zero]
 by_cases h : q.num < 0
 ·rw [if_pos h]; omega
 ·rw [if_neg h]; by_cases h2 : q.num = 0 <;> simp [h2]
theorem rsgn_le {q : Rat} : rsgn q ≤ 0 ↔ q ≤ 0 := by
 unfold rsgn
 have e1 := @Rat.num_nonneg q
 have e2 := @Rat.num_eq_zero q
 by_cases h : q.num < 0
 ·rw [if_pos h]
  have : ¬ (0 : Rat) ≤ q := fun h3 => by have := e1.2 h3; omega
  have : q ≤ 0 := by grind
  simp [this]
 ·rw [if_neg h]
  have h3 : (0 : Rat) ≤ q := e1.1 (by omega)
  by_cases h2 : q.num = 0
  ·have : q = 0 := e2.1 h2
   rw [if_pos h2, this]; simp
  ·have : q ≠ 0 := fun hh => h2 (e2.2 hh)
   have : ¬ q ≤ 0 := by grind
   rw [if_neg h2]; simp [this]
theorem rsgn_ge {q : Rat} : 0 ≤ rsgn q ↔ 0 ≤ q := by
 unfold rsgn
 rw [← Rat.num_nonneg]
 by_cases h : q.num < 0
 ·rw [if_pos h]; omega
 ·rw [if_neg h]; by_cases h2 : q.num = 0
  ·rw [if_pos h2]; omega
  ·rw [if_neg h2]; omega
theorem rsgn_lt {q : Rat} : rsgn q < 0 ↔ q < 0 := by
 have := @rsgn_ge q
 rw [← Rat.not_le, ← this]; omega
theorem cmpQ_gt {p q : Rat} : 0 < cmpQ p q ↔ q < p := by
 unfold cmpQ
 by_cases h : p < q
 ·rw [if_pos h]; have : ¬ q < p := by grind
  simp [this]
 ·rw [if_neg h]; by_cases h2 : q < p <;> simp [h, h2]
theorem cmpQ_le {p q : Rat} : cmpQ p q ≤ 0 ↔ p ≤ q := by
 have := @cmpQ_gt p q
 rw [← Rat.not_lt, ← this]; omega
def minQ (p q : Rat) : Rat := if p ≤ q then p else q
theorem Rz_min {p q : Rat} {n : Nat} (hp : Rz p n) (hq : Rz q n) : Rz (minQ p q) n := by unfold minQ; split <;> assumption
def nearQ (ax ay bx b_ cx cy : Rat) : Rat :=
 if (cx - ax) * (bx - ax) + (cy - ay) * (b_ - ay) ≤ 0 then farQ cx cy ax ay
 else if 0 ≤ (cx - bx) * (bx - ax) + (cy - b_) * (b_ - ay) then farQ cx cy bx b_
 else ((bx - ax) * (cy - ay) - (b_ - ay) * (cx - ax)) * ((bx - ax) * (cy - ay) - (b_ - ay) * (cx - ax)) / ((bx - ax) * (bx - ax) + (b_ - ay) * (b_ - ay))
def near6 (ax ay bx b_ cx cy : Rat) : Rat := if (bx - ax) * (bx - ax) + (b_ - ay) * (b_ - ay) = 0 then minQ (farQ cx cy ax ay) (farQ cx cy bx b_) else if (((cx - ax) * (bx - ax) + (cy - ay) * (b_ - ay)) / ((bx - ax) * (bx - ax) + (b_ - ay) * (b_ - ay))) < 0 then minQ (farQ cx cy ax ay) (farQ cx cy bx b_) else if ((1 : Int) : Rat) < (((cx - ax) * (bx - ax) + (cy - ay) * (b_ - ay)) / ((bx - ax) * (bx - ax) + (b_ - ay) * (b_ - ay))) then minQ (farQ cx cy ax ay) (farQ cx cy bx b_) else farQ cx cy (ax + (bx - ax) * (((cx - ax) * (bx - ax) + (cy - ay) * (b_ - ay)) / ((bx - ax) * (bx - ax) + (b_ - ay) * (b_ - ay)))) (ay + (b_ - ay) * (((cx - ax) * (bx - ax) + (cy - ay) * (b_ - ay)) / ((bx - ax) * (bx - ax) + (b_ - ay) * (b_ - ay))))
end Go.Proofs.YtiblnpnfaadmcaaGreat.Am
/- Laws of numbers that the statements on cons come down to. -/
set_option linter.unusedVariables false
set_option linter.unusedSimpArgs false
namespace Go.Proofs.YtiblnpnfaadmcaaGreat.Am
open Go

variable {ax ay bx b_ cx cy px py s : Rat}
theorem c0 : ((0 : Int) : Rat) = 0 := rfl
theorem c1 : ((1 : Int) : Rat) = 1 := rfl
theorem c2 : ((2 : Int) : Rat) = 2 := rfl
theorem c4 : ((4 : Int) : Rat) = 4 := rfl
theorem zy5b : 0 ≤ farQ ax ay bx b_ := by
 have a1 := sq_nn (bx - ax)
 have a2 := sq_nn (b_ - ay)
 unfold farQ; grind
theorem far_zero (h : farQ ax ay bx b_ = 0) : ax = bx ∧ ay = b_ := by
 have a1 := sq_nn (bx - ax)
 have a2 := sq_nn (b_ - ay)
 unfold farQ at h
 have e1 : (bx - ax) * (bx - ax) = 0 := by grind
 have e2 : (b_ - ay) * (b_ - ay) = 0 := by grind
 constructor
 ·rcases Rat.mul_eq_zero.1 e1 with h | h <;> grind
 ·rcases Rat.mul_eq_zero.1 e2 with h | h <;> grind

theorem far_foot {t : Rat} : farQ cx cy (ax + (bx - ax) * t) (ay + (b_ - ay) * t) = farQ cx cy ax ay - 2 * t * ((cx - ax) * (bx - ax) + (cy - ay) * (b_ - ay)) + t * t * ((bx - ax) * (bx - ax) + (b_ - ay) * (b_ - ay)) := by
 unfold farQ; grind
theorem far_ends : farQ cx cy bx b_ = farQ cx cy ax ay - 2 * ((cx - ax) * (bx - ax) + (cy - ay) * (b_ - ay)) + ((bx - ax) * (bx - ax) + (b_ - ay) * (b_ - ay)) := by
 unfold farQ; grind
theorem dot_ends : (cx - bx) * (bx - ax) + (cy - b_) * (b_ - ay) = ((cx - ax) * (bx - ax) + (cy - ay) * (b_ - ay)) - ((bx - ax) * (bx - ax) + (b_ - ay) * (b_ - ay)) := by grind
theorem lagr : ((bx - ax) * (cy - ay) - (b_ - ay) * (cx - ax)) * ((bx - ax) * (cy - ay) - (b_ - ay) * (cx - ax)) = farQ cx cy ax ay * ((bx - ax) * (bx - ax) + (b_ - ay) * (b_ - ay)) - ((cx - ax) * (bx - ax) + (cy - ay) * (b_ - ay)) * ((cx - ax) * (bx - ax) + (cy - ay) * (b_ - ay)) := by
 unfold farQ; grind
theorem norm_pos : 0 ≤ (bx - ax) * (bx - ax) + (b_ - ay) * (b_ - ay) := zy5b
theorem norm_dot (h : (bx - ax) * (bx - ax) + (b_ - ay) * (b_ - ay) = 0) : (cx - ax) * (bx - ax) + (cy - ay) * (b_ - ay) = 0 := by
 have := far_zero (ax := ax) (ay := ay) (bx := bx) (b_ := b_) h
 obtain ⟨rfl, rfl⟩ := this
 grind
theorem near_eq : nearQ ax ay bx b_ cx cy = near6 ax ay bx b_ cx cy := by
 unfold nearQ near6
 rw [far_foot, dot_ends, lagr, far_ends (ax := ax) (ay := ay) (bx := bx) (b_ := b_), c1]
 have hn := @norm_pos ax ay bx b_
 have hz := @norm_dot ax ay bx b_ cx cy
 generalize (bx - ax) * (bx - ax) + (b_ - ay) * (b_ - ay) = n at *
 generalize (cx - ax) * (bx - ax) + (cy - ay) * (b_ - ay) = d at *
 generalize farQ cx cy ax ay = f
 unfold minQ
 by_cases n0 : n = 0
 ·have d0 := hz n0
  subst d0 n0
  grind
 ·have hp : 0 < n := by grind
  rw [if_neg n0]
  have e1 : d / n * n = d := by grind
  have q1 : d / n < 0 ↔ d < 0 := by rw [Rat.div_lt_iff hp]; simp
  have q2 : 1 < d / n ↔ n < d := by rw [Rat.lt_div_iff hp]; simp
  simp only [q1, q2]
  by_cases h1 : d < 0
  ·rw [if_pos (by grind), if_pos h1, if_pos (by grind)]
  rw [if_neg h1]
  by_cases h2 : d = 0
  ·subst h2
   rw [if_pos (by grind), if_neg (by grind)]
   grind
  rw [if_neg (by grind)]
  by_cases h3 : n < d
  ·rw [if_pos (by grind), if_pos h3]
   split <;> grind
  rw [if_neg h3]
  by_cases h4 : n = d
  ·subst h4
   rw [if_pos (by grind)]
   grind
  rw [if_neg (by grind)]
  grind

theorem parts : area ax ay bx b_ cx cy = area ax ay bx b_ px py + (area bx b_ cx cy px py + area cx cy ax ay px py) := by unfold area; grind


def S (x y z : Rat) : Prop := 0 < x + y - z ∧ x * y < (x + y - z) * (x + y - z)
end Go.Proofs.YtiblnpnfaadmcaaGreat.Am
/- Arguments that are numbers and points, opened. -/
set_option linter.unusedVariables false
set_option linter.unusedSimpArgs false
namespace Go.Proofs.YtiblnpnfaadmcaaGreat.Am
open Go

variable {P : Program}

def zy88 (P : Program) (t : TypeId) : Bool := P.cellsOf t == 1 && match P.underlying t with | some .string => true | _ => false
def zy83 (P : Program) (t : TypeId) : Bool := P.cellsOf t == 1 && match P.underlying t with | some .bool => true | _ => false
def zy85 (P : Program) (t : TypeId) : Bool := P.cellsOf t == 2 && match P.underlying t with
 | some (.struct fs) => match fs.toList with
  | [f, g] => f.offset == 0 && g.offset == 1 && zy83 P f.type && zy88 P g.type
  | _ => false
 | _ => false
def zy87 (P : Program) (t : TypeId) : Bool := P.cellsOf t == 3 && match P.underlying t with
 | some (.struct fs) => match fs.toList with
  | [f, g] => f.offset == 0 && g.offset == 2 && zy85 P f.type && zy88 P g.type
  | _ => false
 | _ => false
def isPtT (P : Program) (t : TypeId) : Bool := P.cellsOf t == 6 && match P.underlying t with
 | some (.struct fs) => match fs.toList with
  | [f, g] => f.offset == 0 && g.offset == 3 && zy87 P f.type && zy87 P g.type
  | _ => false
 | _ => false
def isPt3T (P : Program) (t : TypeId) : Bool := P.cellsOf t == 18 && match P.underlying t with
 | some (.struct fs) => match fs.toList with
  | [f, g, k] => f.offset == 0 && g.offset == 6 && k.offset == 12 && isPtT P f.type && isPtT P g.type && isPtT P k.type
  | _ => false
 | _ => false

theorem zyh0 {k : Nat} {t : TypeId} {cs : List AV} (ht : zy88 P t = true) (h : Dat P (k + 1) t cs) : ∃ l, cs = [str l] ∧ ∀ x ∈ l, x < 256 := by
 unfold zy88 at ht
 simp only [Bool.and_eq_true] at ht
 have h2 := ht.2
 split at h2
 ·rename_i hu
  unfold Dat at h
  rw [hu] at h
  obtain ⟨s, hs, _⟩ := h
  exact ⟨zy1w s, by rw [hs, zygz], zy20 s⟩
 ·cases h2
theorem zy1d {k : Nat} {t : TypeId} {cs : List AV} (ht : zy83 P t = true) (h : Dat P (k + 1) t cs) : ∃ b, cs = [.bool b] := by
 unfold zy83 at ht
 simp only [Bool.and_eq_true] at ht
 have h2 := ht.2
 split at h2
 ·rename_i hu
  unfold Dat at h
  rw [hu] at h
  exact h
 ·cases h2
theorem cells_of_T {t : TypeId} : (zy88 P t = true → P.cellsOf t = 1) ∧ (zy83 P t = true → P.cellsOf t = 1) ∧ (zy85 P t = true → P.cellsOf t = 2) ∧ (zy87 P t = true → P.cellsOf t = 3) ∧ (isPtT P t = true → P.cellsOf t = 6) ∧ (isPt3T P t = true → P.cellsOf t = 18) := by
 refine ⟨fun h => by unfold zy88 at h; simp only [Bool.and_eq_true, beq_iff_eq] at h; exact h.1, fun h => by unfold zy83 at h; simp only [Bool.and_eq_true, beq_iff_eq] at h; exact h.1, fun h => by unfold zy85 at h; simp only [Bool.and_eq_true, beq_iff_eq] at h; exact h.1, fun h => by unfold zy87 at h; simp only [Bool.and_eq_true, beq_iff_eq] at h; exact h.1, fun h => by unfold isPtT at h; simp only [Bool.and_eq_true, beq_iff_eq] at h; exact h.1, fun h => by unfold isPt3T at h; simp only [Bool.and_eq_true, beq_iff_eq] at h; exact h.1⟩
theorem int_cells {k : Nat} {t : TypeId} {cs : List AV} (ht : zy85 P t = true) (h : Dat P (k + 2) t cs) : ∃ b l, cs = [.bool b, str l] ∧ ∀ x ∈ l, x < 256 := by
 unfold zy85 at ht
 simp only [Bool.and_eq_true, beq_iff_eq] at ht
 obtain ⟨h0, h2⟩ := ht
 split at h2
 ·rename_i fs hu
  split at h2
  ·rename_i f g hfs
   simp only [Bool.and_eq_true, beq_iff_eq] at h2
   obtain ⟨⟨⟨e1, e2⟩, e3⟩, e4⟩ := h2
   unfold Dat at h
   rw [hu] at h
   obtain ⟨hl, hf⟩ := h
   rw [hfs, h0] at *
   have a := hf f (by simp)
   have b := hf g (by simp)
   rw [e1, cells_of_T.2.1 e3] at a
   rw [e2, cells_of_T.1 e4] at b
   obtain ⟨b0, hb0⟩ := zy1d e3 a
   obtain ⟨l, hl0, hl1⟩ := zyh0 e4 b
   match cs, hl with
   | [x, y], _ =>
    simp only [List.drop_zero, List.take_succ_cons, List.take_zero, List.drop_succ_cons, List.cons.injEq, and_true] at hb0 hl0
    exact ⟨b0, l, by rw [hb0, hl0], hl1⟩
  ·cases h2
 ·cases h2
theorem zyej {k : Nat} {t : TypeId} {cs : List AV} (ht : zy87 P t = true) (h : Dat P (k + 3) t cs) : ∃ r : RT, cs = rtc r ∧ r.ok := by
 unfold zy87 at ht
 simp only [Bool.and_eq_true, beq_iff_eq] at ht
 obtain ⟨h0, h2⟩ := ht
 split at h2
 ·rename_i fs hu
  split at h2
  ·rename_i f g hfs
   simp only [Bool.and_eq_true, beq_iff_eq] at h2
   obtain ⟨⟨⟨e1, e2⟩, e3⟩, e4⟩ := h2
   unfold Dat at h
   rw [hu] at h
   obtain ⟨hl, hf⟩ := h
   rw [hfs, h0] at *
   have a := hf f (by simp)
   have b := hf g (by simp)
   rw [e1, cells_of_T.2.2.1 e3] at a
   rw [e2, cells_of_T.1 e4] at b
   obtain ⟨b0, m, hb0, hm⟩ := int_cells e3 a
   obtain ⟨l, hl0, hl1⟩ := zyh0 e4 b
   match cs, hl with
   | [x, y, z], _ =>
    simp only [List.drop_zero, List.take_succ_cons, List.take_zero, List.drop_succ_cons, List.cons.injEq, and_true] at hb0 hl0
    exact ⟨⟨b0, m, l⟩, by rw [hb0.1, hb0.2, hl0]; rfl, hm, hl1⟩
  ·cases h2
 ·cases h2
theorem pt_cells {k : Nat} {t : TypeId} {cs : List AV} (ht : isPtT P t = true) (h : Dat P (k + 4) t cs) : ∃ p : PT, cs = ptc p ∧ p.ok := by
 unfold isPtT at ht
 simp only [Bool.and_eq_true, beq_iff_eq] at ht
 obtain ⟨h0, h2⟩ := ht
 split at h2
 ·rename_i fs hu
  split at h2
  ·rename_i f g hfs
   simp only [Bool.and_eq_true, beq_iff_eq] at h2
   obtain ⟨⟨⟨e1, e2⟩, e3⟩, e4⟩ := h2
   unfold Dat at h
   rw [hu] at h
   obtain ⟨hl, hf⟩ := h
   rw [hfs, h0] at *
   have a := hf f (by simp)
   have b := hf g (by simp)
   rw [e1, cells_of_T.2.2.2.1 e3] at a
   rw [e2, cells_of_T.2.2.2.1 e4] at b
   obtain ⟨x, hx, ox⟩ := zyej e3 a
   obtain ⟨y, hy, oy⟩ := zyej e4 b
   refine ⟨(x, y), ?_, ox, oy⟩
   show cs = rtc x ++ rtc y
   rw [← hx, ← hy, List.drop_zero, List.take_of_length_le (l := cs.drop 3) (by simp; omega), List.take_append_drop]
  ·cases h2
 ·cases h2
theorem dats2 {k : Nat} {t u : TypeId} {xs : List AV} (h : Dats P k [t, u] xs) : ∃ x y, xs = [x, y] ∧ DatV P k t x ∧ DatV P k u y := by
 match xs, h with
 | [x, y], ⟨h, h2, _⟩ => exact ⟨x, y, rfl, h, h2⟩
abbrev T3 := PT × PT × PT
def T3.ok (t : T3) : Prop := t.1.ok ∧ t.2.1.ok ∧ t.2.2.ok
end Go.Proofs.YtiblnpnfaadmcaaGreat.Am
