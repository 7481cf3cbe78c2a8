import Derived.Test.YtechbfodaallkaaGreatAmGeom
import Derived.Test.YtechbfodaallkaaGreatTPoly
/- Polynomials: what may be asked (out of AmPoly). -/
set_option linter.unusedVariables false
set_option maxRecDepth 10000
set_option linter.unusedSimpArgs false
namespace Go.Proofs.YtechbfodaallkaaGreat.Am
open Go

section
variable {sz len id o i : Nat} {k : IntKind} {ag : Option Nat} {cs : List AV}
theorem aidx_n (h : i < len) : opAidx sz len (.rp id o) (.int k ((i : Nat) : Int)) = some (.rp id (o + i * sz)) := by
  show (if 0 ≤ (i : Int) ∧ (i : Int) < (len : Int) then some (AV.rp id (o + Int.toNat (i : Int) * sz)) else none) = _
  rw [if_pos ⟨by omega, by omega⟩]; simp
end
theorem arrs_rp7 {H : Heap} {sz len id off : Nat} (hl : (live H id).map (fun cs => decide (off + len * sz ≤ cs.length)) = some true) : opArrs H sz len (.rp id off) = some (.rs sz id off len) := by
  show ((live H id).bind fun cs => if off + len * sz ≤ cs.length then some (AV.rs sz id off len) else none) = _
  cases hv : live H id with
  | none => rw [hv] at hl; cases hl
  | some cs =>
    rw [hv] at hl
    simp only [Option.map_some, Option.some.injEq, decide_eq_true_eq] at hl
    rw [Option.bind_some, if_pos hl]

/-! ### What may be asked -/
/-- Why a number is not taken. -/
def askr (t : RT) : Int := if 100 < t.m.length ∨ 100 < t.d.length then 5 else t.chk
theorem askr_rat {x : Rat} (hx : Rz x 100) : askr (rt x) = 0 := by
  unfold askr
  have h1 := hx.num
  have h2 := hx.den
  rw [if_neg (by
    show ¬ (100 < (nb x.num.natAbs).length ∨ 100 < (nb x.den).length)
    unfold isz at h1
    omega)]
  exact rchk_rat (hx.mono (by omega))
section
variable {h : Heap}
theorem pasked_l0 {xs : List RT} {f : Bool} (hb : ∀ t ∈ xs, t.ok) (hn : xs.length ≤ 1000000) : ∀ (k i : Nat) (hh : Heap), i + k = xs.length → poly_asked.l0 (.is xs.length f (xs.flatMap rtc)) (.int .i64 xs.length) (.int .i64 (i : Nat)) hh = some (.int .i64 (firstE ((xs.drop i).map askr))) := by
  intro k
  induction k with
  | zero =>
    intro i hh hik
    rw [poly_asked.l0_eq]
    simp (disch := first | exact dD | fail) only [Wd, W2d, W3d, Nat.reduceAdd, Nat.reduceMul, Nat.reduceSub]
    rw [List.drop_of_length_le (by omega)]
    rfl
  | succ k ih =>
    intro i hh hik
    rw [poly_asked.l0_eq]
    have hi : i < xs.length := by omega
    have ht := hb _ (List.getElem_mem hi)
    have e : (xs.flatMap rtc).drop (i * 3) = .bool xs[i].s :: str xs[i].m :: str xs[i].d :: (xs.drop (i + 1)).flatMap rtc := by
      rw [drop_flatMap rtc_len, List.drop_eq_getElem_cons hi, List.flatMap_cons]; rfl
    rw [List.drop_eq_getElem_cons hi, List.map_cons, firstE]
    by_cases h1 : 100 < xs[i].m.length
    · have ea : askr xs[i] = 5 := by unfold askr; rw [if_pos (.inl h1)]
      rw [ea, if_neg (by omega)]
      simp (disch := first | exact dD | fail) only [Wd, W2d, W3d, Nat.reduceAdd, Nat.reduceMul, Nat.reduceSub, e, live_app_self, set_app_self]
    by_cases h2 : 100 < xs[i].d.length
    · have ea : askr xs[i] = 5 := by unfold askr; rw [if_pos (.inr h2)]
      rw [ea, if_neg (by omega)]
      simp (disch := first | exact dD | fail) only [Wd, W2d, W3d, Nat.reduceAdd, Nat.reduceMul, Nat.reduceSub, e, live_app_self, set_app_self]
    have ea : askr xs[i] = xs[i].chk := by unfold askr; rw [if_neg (by omega)]
    rw [ea]
    simp (disch := first | exact dD | fail) only [Wd, W2d, W3d, Nat.reduceAdd, Nat.reduceMul, Nat.reduceSub, e, live_app_self, set_app_self, c_rcheck ht.1 ht.2, cond_d]
    by_cases h0 : xs[i].chk = 0
    · have h1 : rchk xs[i].s xs[i].m xs[i].d = 0 := h0
      rw [if_pos h0, if_neg (by simpa using h1)]
      exact ih (i + 1) _ (by omega)
    · have h1 : ¬ rchk xs[i].s xs[i].m xs[i].d = 0 := h0
      rw [if_neg h0, if_pos h1]
      rfl
theorem c_pasked {xs : List RT} {H : Heap} {x : AV} (hb : ∀ t ∈ xs, t.ok) (hn : xs.length ≤ 1000) (hx : freeze H x = some (.is xs.length false (xs.flatMap rtc))) : byVal (callW gp) H fid.poly_asked [x] = some (.int .i64 (firstE (xs.map askr))) := by
  have hc : cv gp fid.poly_asked [.is xs.length false (xs.flatMap rtc)] = some (.int .i64 (firstE (xs.map askr))) := by
    rw [poly_asked.eq]
    unfold poly_asked.f
    simp only [len_is, bind_s]
    exact pasked_l0 hb (by omega) xs.length 0 [] (by omega)
  exact byVal_flat (mapM1 hx) hc rfl
/-- Six numbers in a row. -/
abbrev R6 := RT × RT × RT × RT × RT × RT
def R6.l (t : R6) : List RT := [t.1, t.2.1, t.2.2.1, t.2.2.2.1, t.2.2.2.2.1, t.2.2.2.2.2]
def r6c (t : R6) : List AV := t.l.flatMap rtc
def R6.ok (t : R6) : Prop := ∀ x ∈ t.l, x.ok
theorem imm_r6 {t : R6} : Imm 12 (.agg (r6c t)) := (imm_agg (d := 1) (imm_flat imm_rtc t.l)).mono (by omega)
/-- Why a polynomial is not taken. -/
def ask6 (t : R6) : Int := firstE (t.l.map askr)
theorem k_pcheck {t : R6} (ht : t.ok) : byVal (callW gp) h fid.poly_Check [.agg (r6c t)] = some (.int .i64 (ask6 t)) := byVal_imm (imm_L1 imm_r6) (by
  rw [poly_Check.eq]
  unfold poly_Check.f
  have hk : byVal (callW gp) [some (r6c t)] fid.poly_asked [.rs 3 0 0 6] = some (.int .i64 (ask6 t)) := c_pasked (xs := t.l) ht (by show 6 ≤ 1000; omega) rfl
  have ha : opArrs [some (r6c t)] 3 6 (.rp 0 0) = some (.rs 3 0 0 6) := arrs_rp7 rfl
  simp (disch := first | exact dD | fail) only [Wd, W2d, W3d, Nat.reduceAdd, Nat.reduceMul, Nat.reduceSub, ha, hk])
end
end Go.Proofs.YtechbfodaallkaaGreat.Am
