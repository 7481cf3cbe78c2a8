import Derived.Test.YtcpmkohlmjakmaaGreatDoorAmPoly2
/- Sums with weights: the program's. -/
set_option linter.unusedVariables false
set_option maxRecDepth 10000
set_option linter.unusedSimpArgs false
namespace Go.Proofs.YtcpmkohlmjakmaaGreatDoor.Am
open Go

/-- Sums with weights, of rows. -/
def weF : List Rat → List Int → Rat → Rat
  | v :: vs, w :: ws, s => weF vs ws (weS s v w)
  | _, _, s => s
theorem Sz_weS {s v : Rat} {w : Int} {D b k : Nat} (hs : Sz s D (b + 1 + k)) (hv : Sz v D b) (hw : w.natAbs ≤ 256) : Sz (weS s v w) D (b + 1 + (k + 1)) := by
  unfold weS
  split
  · exact hs.up (by omega)
  · have h1 : Sz (w : Rat) 1 1 := Sz_int (by rw [Nat.pow_one]; exact hw)
    have h2 := hv.mul h1
    rw [Nat.mul_one] at h2
    exact hs.add (h2.up (by omega))
theorem Sz_divn {q : Rat} {D b : Nat} {z : Int} (h : Sz q D b) (h1 : 1 ≤ z) : Sz (q / (z : Rat)) (D * z.natAbs) b := by
  obtain ⟨⟨n, hn⟩, h2, h3⟩ := h
  have e : ((z.natAbs : Nat) : Rat) = (z : Rat) := by
    have : ((z.natAbs : Nat) : Int) = z := by omega
    conv => rhs; rw [← this]
    rfl
  have hz : (1 : Rat) ≤ (z : Rat) := Rat.intCast_le_intCast.2 (show (1 : Int) ≤ z from h1)
  have hB := natc_nn (256 ^ b)
  have hd : q / (z : Rat) * (z : Rat) = q := by
    generalize (z : Rat) = t at *
    grind
  refine ⟨⟨n, ?_⟩, ?_, ?_⟩
  · rw [natc_mul, e, ← hn]
    generalize (z : Rat) = t at *
    generalize (D : Rat) = d at *
    grind
  · generalize ((256 ^ b : Nat) : Rat) = B at *
    generalize (z : Rat) = t at *
    generalize q / t = r at *
    by_cases hr : -B ≤ r
    · exact hr
    · have k1 := Rat.mul_nonneg (a := B) (b := t - 1) hB (by grind)
      have k2 := Rat.mul_pos (a := -r - B) (b := t) (by grind) (by grind)
      grind
  · generalize ((256 ^ b : Nat) : Rat) = B at *
    generalize (z : Rat) = t at *
    generalize q / t = r at *
    by_cases hr : r ≤ B
    · exact hr
    · have k1 := Rat.mul_nonneg (a := B) (b := t - 1) hB (by grind)
      have k2 := Rat.mul_pos (a := r - B) (b := t) (by grind) (by grind)
      grind
def P6.l (v : P6) : List Rat := [v.p0, v.p1, v.p2, v.p3, v.p4, v.p5]
def W6.l (w : W6) : List Int := [w.w0, w.w1, w.w2, w.w3, w.w4, w.w5]
def W6.ok (w : W6) : Prop := ∀ x ∈ w.l, x.natAbs ≤ 256
def wc (w : W6) : List AV := w.l.map (.int .i64)
theorem imm_wc {w : W6} : Imm 12 (.agg (wc w)) := (imm_agg (d := 1) (fun c hc => by
  obtain ⟨z, _, rfl⟩ := List.mem_map.1 hc
  exact imm_int)).mono (by omega)
theorem weF_eq (v : P6) (w : W6) : weF v.l w.l ((0 : Int) : Rat) = weQ v w := rfl
theorem Sz_weF {vs : List Rat} {ws : List Int} {D b : Nat} (hv : ∀ v ∈ vs, Sz v D b) (hw : ∀ w ∈ ws, w.natAbs ≤ 256) : ∀ {k s}, Sz s D (b + 1 + k) → Sz (weF vs ws s) D (b + 1 + k + vs.length) := by
  induction vs generalizing ws with
  | nil => intro k s hs; cases ws <;> exact hs
  | cons v vs ih =>
    intro k s hs
    cases ws with
    | nil => exact hs.up (by omega)
    | cons w ws =>
      have h1 := Sz_weS hs (hv v (List.mem_cons_self ..)) (hw w (List.mem_cons_self ..))
      have := ih (ws := ws) (fun x hx => hv x (List.mem_cons_of_mem _ hx)) (fun x hx => hw x (List.mem_cons_of_mem _ hx)) h1
      exact this.up (by rw [List.length_cons]; omega)
theorem Pz.l {v : P6} {D b : Nat} (hv : Pz v D b) : ∀ x ∈ v.l, Sz x D b := fun x hx => by
  unfold P6.l at hx
  simp only [List.mem_cons, List.not_mem_nil, or_false] at hx
  rcases hx with rfl | rfl | rfl | rfl | rfl | rfl
  · exact hv.z0
  · exact hv.z1
  · exact hv.z2
  · exact hv.z3
  · exact hv.z4
  · exact hv.z5
theorem Sz_zero {D b : Nat} : Sz ((0 : Int) : Rat) D b := (Sz_int (z := 0) (b := 0) (by decide)).mono (Nat.one_dvd _) (by omega)
theorem Sz_weQ {v : P6} {w : W6} {D b : Nat} (hv : Pz v D b) (hw : w.ok) : Sz (weQ v w) D (b + 7) := by
  rw [← weF_eq]
  exact (Sz_weF (k := 0) hv.l hw Sz_zero).up (by show b + 1 + 0 + 6 ≤ _; omega)
theorem Sz_wed {v : P6} {w : W6} {a : Rat} {by_ : Int} {D E b c : Nat} (hv : Pz v D b) (hw : w.ok) (ha : Sz a E c) (h1 : 1 ≤ by_) : Sz (wedQ v w a by_) (D * E * by_.natAbs) (b + 7 + c) :=
  Sz_divn ((Sz_weQ hv hw).mul ha) h1
theorem imm_q4 {a b c d : AV} (ha : Imm 12 a) (hb : Imm 12 b) (hc : Imm 12 c) (hd : Imm 12 d) : ∀ x ∈ [a, b, c, d], Imm 12 x := fun x hx => by
  rcases List.mem_cons.1 hx with rfl | hx
  · exact ha
  · exact imm_three hb hc hd x hx
theorem flat6 (v : P6) : r6c (rt6 v) = v.l.flatMap fun q => rtc (rt q) := rfl
theorem len_rtq (q : Rat) : (rtc (rt q)).length = 3 := rfl
section
variable {h : Heap} {a : Rat} {by_ : Int} {v : P6} {w : W6} {D E b c m n : Nat}
theorem wei_l0 (hv : Pz v D b) (hw : w.ok) (ha : Sz a E c) (d0 : 0 < D) (e0 : 0 < E) (hD : D < P256 m) (hE : E < P256 n) (hs : m + n + b + c + 12 ≤ 8000) (b1 : 1 ≤ by_) (b2 : by_ ≤ 1000) : ∀ (k i : Nat) (s : Rat), i + k = 6 → Sz s D (b + 1 + i) → poly_weighed.l0 (.int .i64 by_) (.rp 0 0) (.rp 2 0) (.rp 3 0) (.rp 4 0) (.agg (wc w)) (.int .i64 (i : Nat)) [some (r6c (rt6 v)), some (wc w), some [.bool (decide (a.num < 0)), str (nb a.num.natAbs), str (nb a.den)], some [.bool false, .str ⟨#[]⟩, .str ⟨#[]⟩], some [.bool (decide (s.num < 0)), str (nb s.num.natAbs), str (nb s.den)]] = some (ra (weF (v.l.drop i) (w.l.drop i) s * a / (by_ : Rat))) := by
  have ra8 : Rz a 8000 := ha.rz e0 hE (by omega)
  intro k
  induction k with
  | zero =>
    intro i s hik hz
    obtain rfl : i = 6 := by omega
    have e : weF (v.l.drop 6) (w.l.drop 6) s = s := rfl
    rw [e, poly_weighed.l0_eq]
    have rs : Rz s 8000 := hz.rz d0 hD (by omega)
    have rsa : Rz (s * a) 8000 := (hz.mul ha).rz (Nat.mul_pos d0 e0) (pw_mul hD hE) (by omega)
    have rb : Rz (by_ : Rat) 8000 := (Rz_int (by omega) (by omega)).mono (by omega)
    have nb0 : ((by_ : Int) : Rat) ≠ 0 := fun hh => by
      have := Rat.intCast_inj.1 (show (by_ : Rat) = ((0 : Int) : Rat) from hh)
      omega
    have ro := fun h => k_rof (h := h) (z := by_) (by omega) (by omega)
    clear hs hD hE
    simp (disch := first | exact dD | fail) only [Wd, W2d, W3d, Nat.reduceAdd, Nat.reduceMul, Nat.reduceSub, c_pprod, ro, k_rdiv]
  | succ k ih =>
    intro i s hik hz
    rw [poly_weighed.l0_eq]
    have hi6 : i < 6 := by omega
    have hlt : ((i : Nat) : Int) < 6 := by omega
    have hiw : i < w.l.length := hi6
    have hi : i < v.l.length := hi6
    have e : (r6c (rt6 v)).drop (i * 3) = .bool (decide ((v.l[i]'hi).num < 0)) :: str (nb (v.l[i]'hi).num.natAbs) :: str (nb (v.l[i]'hi).den) :: (v.l.drop (i + 1)).flatMap fun q => rtc (rt q) := by
      rw [flat6, drop_flatMap len_rtq, List.drop_eq_getElem_cons hi, List.flatMap_cons]; rfl
    have ew : (wc w).drop i = .int .i64 (w.l[i]'hiw) :: (w.l.drop (i + 1)).map (.int .i64) := by
      unfold wc
      rw [← List.map_drop, List.drop_eq_getElem_cons hiw, List.map_cons]
    have sv : Sz (v.l[i]'hi) D b := hv.l _ (List.getElem_mem hi)
    have sw : ((w.l[i]'hiw)).natAbs ≤ 256 := hw _ (List.getElem_mem hiw)
    have nx := Sz_weS hz sv sw
    rw [List.drop_eq_getElem_cons hi, List.drop_eq_getElem_cons hiw, weF]
    by_cases h0 : (w.l[i]'hiw) = 0
    · have ews : weS s (v.l[i]'hi) (w.l[i]'hiw) = s := by unfold weS; rw [if_pos h0]
      rw [ews] at nx ⊢
      simp (disch := first | exact dD | fail) only [Wd, W2d, W3d, Nat.reduceAdd, Nat.reduceMul, Nat.reduceSub, e, ew, aidx_n, idx_n, cond_d, h0]
      exact ih (i + 1) s (by omega) nx
    · have ews : weS s (v.l[i]'hi) (w.l[i]'hiw) = s + (v.l[i]'hi) * ((w.l[i]'hiw) : Rat) := by unfold weS; rw [if_neg h0]
      rw [ews] at nx ⊢
      have rs : Rz s 8000 := hz.rz d0 hD (by omega)
      have rv : Rz (v.l[i]'hi) 8000 := sv.rz d0 hD (by omega)
      have s1 : Sz ((w.l[i]'hiw) : Rat) 1 1 := Sz_int (by rw [Nat.pow_one]; exact sw)
      have rw1 : Rz ((w.l[i]'hiw) : Rat) 8000 := (Rz_int (by omega) (by omega)).mono (by omega)
      have svw := sv.mul s1
      rw [Nat.mul_one] at svw
      have rvw : Rz ((v.l[i]'hi) * ((w.l[i]'hiw) : Rat)) 8000 := svw.rz d0 hD (by omega)
      have ro := fun h => k_rof (h := h) (z := (w.l[i]'hiw)) (by omega) (by omega)
      simp (disch := first | exact dD | fail) only [Wd, W2d, W3d, Nat.reduceAdd, Nat.reduceMul, Nat.reduceSub, e, ew, aidx_n, idx_n, cond_d, h0, ro, c_pprod, c_psum]
      exact ih (i + 1) _ (by omega) nx
theorem c_weighed (hv : Pz v D b) (hw : w.ok) (ha : Sz a E c) (d0 : 0 < D) (e0 : 0 < E) (hD : D < P256 m) (hE : E < P256 n) (hs : m + n + b + c + 12 ≤ 8000) (b1 : 1 ≤ by_) (b2 : by_ ≤ 1000) : byVal (callW gp) h fid.poly_weighed [sa v, .agg (wc w), ra a, .int .i64 by_] = some (ra (wedQ v w a by_)) := byVal_imm (imm_q4 imm_sa imm_wc imm_r3 (imm_int.mono (by omega))) (by
  rw [poly_weighed.eq]
  unfold poly_weighed.f
  have hl := wei_l0 hv hw ha d0 e0 hD hE hs b1 b2 6 0 ((0 : Int) : Rat) (by omega) Sz_zero
  clear hs hD hE
  have rcw : readCells (wc w) (some 6) = some (.agg (wc w)) := Eq.trans rfl rfl
  simp (disch := first | exact dD | fail) only [Wd, W2d, W3d, Nat.reduceAdd, Nat.reduceMul, Nat.reduceSub, k_rof, rcw]
  exact hl)
end
end Go.Proofs.YtcpmkohlmjakmaaGreatDoor.Am