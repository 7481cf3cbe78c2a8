import Derived.Test.YtcpmkohlmjakmaaGreatDoorAmV
/- Sizes of numbers that have a common denominator. -/
set_option linter.unusedVariables false
set_option maxRecDepth 10000
set_option linter.unusedSimpArgs false
namespace Go.Proofs.YtcpmkohlmjakmaaGreatDoor.Am
open Go

/-- A number that is whole when times D, and not above 256^b. -/
structure Sz (q : Rat) (D b : Nat) : Prop where
  whole : ∃ n : Int, q * (D : Rat) = (n : Rat)
  lo : -(((256 ^ b : Nat) : Nat) : Rat) ≤ q
  hi : q ≤ (((256 ^ b : Nat) : Nat) : Rat)

theorem natc_mul (a b : Nat) : ((a * b : Nat) : Rat) = (a : Rat) * b := by rw [Rat.natCast_mul]
theorem natc_nn (a : Nat) : (0 : Rat) ≤ (a : Rat) := Rat.natCast_nonneg
theorem natc_le {a b : Nat} (h : a ≤ b) : (a : Rat) ≤ (b : Rat) := Rat.natCast_le_natCast.2 h
theorem pow_le' {b c : Nat} (h : b ≤ c) : ((256 ^ b : Nat) : Rat) ≤ ((256 ^ c : Nat) : Rat) := natc_le (Nat.pow_le_pow_right (by omega) h)
theorem Sz.mono {q : Rat} {D E b c : Nat} (h : Sz q D b) (hD : D ∣ E) (hb : b ≤ c) : Sz q E c := by
  obtain ⟨⟨n, hn⟩, h1, h2⟩ := h
  obtain ⟨k, rfl⟩ := hD
  have hp := pow_le' hb
  exact ⟨⟨n * k, by rw [natc_mul, ← Rat.mul_assoc, hn, Rat.intCast_mul]; rfl⟩, by grind, by grind⟩
theorem Sz.up {q : Rat} {D b c : Nat} (h : Sz q D b) (hb : b ≤ c) : Sz q D c := h.mono (Nat.dvd_refl _) hb
theorem Sz.add {p q : Rat} {D b : Nat} (hp : Sz p D b) (hq : Sz q D b) : Sz (p + q) D (b + 1) := by
  obtain ⟨⟨n, hn⟩, h1, h2⟩ := hp
  obtain ⟨⟨m, hm⟩, h3, h4⟩ := hq
  have e : ((256 ^ (b + 1) : Nat) : Rat) = ((256 ^ b : Nat) : Rat) * 256 := by rw [Nat.pow_succ, natc_mul]; rfl
  have := natc_nn (256 ^ b)
  refine ⟨⟨n + m, by rw [Rat.add_mul, hn, hm, Rat.intCast_add]⟩, ?_, ?_⟩
  · rw [e]
    generalize ((256 ^ b : Nat) : Rat) = B at *
    grind
  · rw [e]
    generalize ((256 ^ b : Nat) : Rat) = B at *
    grind
theorem Sz.neg {p : Rat} {D b : Nat} (hp : Sz p D b) : Sz (-p) D b := by
  obtain ⟨⟨n, hn⟩, h1, h2⟩ := hp
  exact ⟨⟨-n, by rw [Rat.neg_mul, hn, Rat.intCast_neg]⟩, by grind, by grind⟩
theorem Sz.sub {p q : Rat} {D b : Nat} (hp : Sz p D b) (hq : Sz q D b) : Sz (p - q) D (b + 1) := by
  rw [Rat.sub_eq_add_neg]; exact hp.add hq.neg
theorem Sz.mul {p q : Rat} {D E b c : Nat} (hp : Sz p D b) (hq : Sz q E c) : Sz (p * q) (D * E) (b + c) := by
  obtain ⟨⟨n, hn⟩, h1, h2⟩ := hp
  obtain ⟨⟨m, hm⟩, h3, h4⟩ := hq
  have e : ((256 ^ (b + c) : Nat) : Rat) = ((256 ^ b : Nat) : Rat) * ((256 ^ c : Nat) : Rat) := by rw [Nat.pow_add, natc_mul]
  have hP := natc_nn (256 ^ b)
  have hQ := natc_nn (256 ^ c)
  refine ⟨⟨n * m, by rw [natc_mul, Rat.intCast_mul, ← hn, ← hm]; grind⟩, ?_, ?_⟩
  · rw [e]
    generalize ((256 ^ b : Nat) : Rat) = B at *
    generalize ((256 ^ c : Nat) : Rat) = C at *
    have k1 := Rat.mul_nonneg (a := B - p) (b := C - q) (by grind) (by grind)
    have k2 := Rat.mul_nonneg (a := B + p) (b := C + q) (by grind) (by grind)
    grind
  · rw [e]
    generalize ((256 ^ b : Nat) : Rat) = B at *
    generalize ((256 ^ c : Nat) : Rat) = C at *
    have k1 := Rat.mul_nonneg (a := B - p) (b := C + q) (by grind) (by grind)
    have k2 := Rat.mul_nonneg (a := B + p) (b := C - q) (by grind) (by grind)
    grind
theorem mul_den (q : Rat) : q * (q.den : Rat) = (q.num : Rat) := by
  have h1 : q = (q.num : Rat) / (q.den : Rat) := by
    conv => lhs; rw [← Rat.mkRat_self q]
    exact Rat.mkRat_eq_div _ _
  have h2 : (q.den : Rat) ≠ 0 := fun e => q.den_nz (Rat.natCast_inj.1 (show (q.den : Rat) = ((0 : Nat) : Rat) from e))
  generalize (q.den : Rat) = d at *
  generalize (q.num : Rat) = n at *
  rw [h1]; grind
/-- What is below it has so many bytes. -/
def P256 (n : Nat) : Nat := 256 ^ n
theorem Sz.rz {q : Rat} {D b d n : Nat} (h : Sz q D b) (h0 : 0 < D) (hd : D < P256 d) (hn : b + d ≤ n) : Rz q n := by
  unfold P256 at hd
  obtain ⟨⟨k, hk⟩, h1, h2⟩ := h
  have hD : (D : Rat) ≠ 0 := fun e => by have := Rat.natCast_inj.1 (show (D : Rat) = ((0 : Nat) : Rat) from e); omega
  have hq : q = mkRat k D := by
    rw [Rat.mkRat_eq_div, ← hk]
    grind
  have hdvd : q.den ≤ D := by
    rw [hq, Rat.den_mkRat, if_neg (by omega)]
    exact Nat.div_le_self _ _
  have hnum : q.num.natAbs ≤ 256 ^ b * q.den := by
    have e1 := mul_den q
    have g := natc_nn q.den
    have k1 := Rat.mul_nonneg (a := ((256 ^ b : Nat) : Rat) - q) (b := (q.den : Rat)) (by grind) g
    have k2 := Rat.mul_nonneg (a := ((256 ^ b : Nat) : Rat) + q) (b := (q.den : Rat)) (by grind) g
    have l1 : (q.num : Rat) ≤ (((256 ^ b * q.den : Nat) : Int) : Rat) := by
      rw [← e1]
      show _ ≤ ((256 ^ b * q.den : Nat) : Rat)
      rw [natc_mul]; grind
    have l2 : ((-q.num : Int) : Rat) ≤ (((256 ^ b * q.den : Nat) : Int) : Rat) := by
      rw [Rat.intCast_neg, ← e1]
      show _ ≤ ((256 ^ b * q.den : Nat) : Rat)
      rw [natc_mul]; grind
    have m1 := Rat.intCast_le_intCast.1 l1
    have m2 := Rat.intCast_le_intCast.1 l2
    omega
  have hlt : 256 ^ b * q.den < 256 ^ (b + d) := by
    rw [Nat.pow_add]
    exact Nat.mul_lt_mul_of_pos_left (by omega) (Nat.pow_pos (by omega))
  refine ⟨?_, ?_⟩
  · unfold isz
    rw [nb_len]
    exact Nat.le_trans (dig_len_lt (by decide) (show q.num.natAbs < 256 ^ (b + d) by omega)) hn
  · rw [nb_len]
    exact Nat.le_trans (dig_len_lt (by decide) (show q.den < 256 ^ d by omega)) (by omega)
theorem Sz_of {q : Rat} {n D : Nat} (h : Rz q n) (hD : q.den ∣ D) : Sz q D n := by
  have e1 := mul_den q
  have hlt : q.num.natAbs < 256 ^ n := by
    have := h.num
    unfold isz at this
    rw [nb_len] at this
    by_cases hh : q.num.natAbs < 256 ^ n
    · exact hh
    · have := (dig_len_gt (B := 256) (by decide) (n := q.num.natAbs) (i := n)).2 (by omega)
      omega
  have hd : 1 ≤ q.den := by have := q.den_nz; omega
  have hd' : (1 : Rat) ≤ (q.den : Rat) := natc_le (a := 1) hd
  have m1 : (q.num : Rat) ≤ (((256 ^ n : Nat) : Int) : Rat) := Rat.intCast_le_intCast.2 (by omega)
  have m2 : (((-(256 ^ n : Nat) : Int)) : Rat) ≤ (q.num : Rat) := Rat.intCast_le_intCast.2 (by omega)
  rw [Rat.intCast_neg] at m2
  have m1' : q * (q.den : Rat) ≤ ((256 ^ n : Nat) : Rat) := by rw [e1]; exact m1
  have m2' : -((256 ^ n : Nat) : Rat) ≤ q * (q.den : Rat) := by rw [e1]; exact m2
  have hB := natc_nn (256 ^ n)
  have base : Sz q q.den n := by
    refine ⟨⟨q.num, e1⟩, ?_, ?_⟩
    · generalize ((256 ^ n : Nat) : Rat) = B at *
      generalize (q.den : Rat) = d at *
      by_cases hq : -B ≤ q
      · exact hq
      · have := Rat.mul_nonneg (a := -q - B) (b := d) (by grind) (by grind)
        have := Rat.mul_nonneg (a := B) (b := d - 1) (by grind) (by grind)
        have h3 : (0 : Rat) < (-q - B) := by grind
        have := Rat.mul_pos (a := -q - B) (b := d) h3 (by grind)
        grind
    · generalize ((256 ^ n : Nat) : Rat) = B at *
      generalize (q.den : Rat) = d at *
      by_cases hq : q ≤ B
      · exact hq
      · have := Rat.mul_nonneg (a := B) (b := d - 1) (by grind) (by grind)
        have h3 : (0 : Rat) < (q - B) := by grind
        have := Rat.mul_pos (a := q - B) (b := d) h3 (by grind)
        grind
  exact base.mono hD (Nat.le_refl _)
theorem den_lt {q : Rat} {n : Nat} (h : Rz q n) : q.den < P256 n := by
  unfold P256
  have := h.den
  rw [nb_len] at this
  by_cases hh : q.den < 256 ^ n
  · exact hh
  · have := (dig_len_gt (B := 256) (by decide) (n := q.den) (i := n)).2 (by omega)
    omega
/-- A whole number. -/
theorem Sz_int {z : Int} {b : Nat} (h : z.natAbs ≤ 256 ^ b) : Sz (z : Rat) 1 b := by
  refine ⟨⟨z, by show (z : Rat) * ((1 : Nat) : Rat) = z; exact Rat.mul_one _⟩, ?_, ?_⟩
  · have : (((-(256 ^ b : Nat) : Int)) : Rat) ≤ (z : Rat) := Rat.intCast_le_intCast.2 (by omega)
    rw [Rat.intCast_neg] at this
    exact this
  · exact Rat.intCast_le_intCast.2 (by omega : z ≤ ((256 ^ b : Nat) : Int))
theorem Sz_neg1 {q : Rat} {D b : Nat} (h : Sz (-q) D b) : Sz q D b := by have := h.neg; rwa [Rat.neg_neg] at this
end Go.Proofs.YtcpmkohlmjakmaaGreatDoor.Am