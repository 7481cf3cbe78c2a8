/- Numbers and their digits. No program in sight. -/
set_option linter.unusedVariables false
set_option maxRecDepth 10000
set_option linter.unusedSimpArgs false
namespace Go.Proofs.YtiblnpnfaadmcaaGreat.Am

def val (B : Nat) : List Nat → Nat
 | [] => 0
 | d :: l => d + B * val B l

def Dg (B : Nat) (l : List Nat) : Prop := ∀ x ∈ l, x < B

def dig (B : Nat) (n : Nat) : List Nat := if h : n = 0 ∨ B < 2 then [] else n % B :: dig B (n / B)
termination_by n
decreasing_by exact Nat.div_lt_self (by omega) (by omega)

def tl : List Nat → Nat
 | [] => 0
 | x :: l => if tl l = 0 then (if x = 0 then 0 else 1) else tl l + 1

variable {B : Nat}

theorem val_nil : val B [] = 0 := rfl
theorem zyhw (d : Nat) (l : List Nat) : val B (d :: l) = d + B * val B l := rfl
theorem Dg.nil : Dg B [] := fun x hx => by simp at hx
theorem Dg.cons {d : Nat} {l : List Nat} (h : d < B) (hl : Dg B l) : Dg B (d :: l) := fun x hx => by
 rcases List.mem_cons.1 hx with rfl | hx
 ·exact h
 ·exact hl x hx
theorem Dg.head {d : Nat} {l : List Nat} (h : Dg B (d :: l)) : d < B := h d (List.mem_cons_self ..)
theorem Dg.tail {d : Nat} {l : List Nat} (h : Dg B (d :: l)) : Dg B l := fun x hx => h x (List.mem_cons_of_mem _ hx)
theorem Dg.append {l m : List Nat} (hl : Dg B l) (hm : Dg B m) : Dg B (l ++ m) := fun x hx => (List.mem_append.1 hx).elim (hl x) (hm x)
theorem Dg.take {l : List Nat} (h : Dg B l) (n : Nat) : Dg B (l.take n) := fun x hx => h x (List.mem_of_mem_take hx)
theorem Dg.drop {l : List Nat} (h : Dg B l) (n : Nat) : Dg B (l.drop n) := fun x hx => h x (List.mem_of_mem_drop hx)
theorem Dg.getD {l : List Nat} (h : Dg B l) {i : Nat} (hB : 0 < B) : l.getD i 0 < B := by
 rw [List.getD_eq_getElem?_getD]
 rcases Nat.lt_or_ge i l.length with hi | hi
 ·rw [List.getElem?_eq_getElem hi]; exact h _ (List.getElem_mem hi)
 ·rw [List.getElem?_eq_none hi]; exact hB
theorem Dg.set {l : List Nat} (h : Dg B l) {i a : Nat} (ha : a < B) : Dg B (l.set i a) := fun x hx => by
 rcases List.mem_or_eq_of_mem_set hx with hx | rfl
 ·exact h x hx
 ·exact ha
theorem Dg.replicate (n : Nat) (hB : 0 < B) : Dg B (List.replicate n 0) := fun x hx => by
 rw [List.eq_of_mem_replicate hx]; exact hB

theorem zyhv (l m : List Nat) : val B (l ++ m) = val B l + B ^ l.length * val B m := by
 induction l with
 | nil => simp [val]
 | cons d l ih =>
  simp only [List.cons_append, val, ih, List.length_cons, Nat.pow_succ]
  rw [Nat.mul_add, Nat.add_assoc, Nat.mul_comm (B ^ l.length) B, Nat.mul_assoc]
theorem zyi4 (l : List Nat) (a : Nat) : val B (l ++ [a]) = val B l + B ^ l.length * a := by rw [zyhv]; simp [val]
theorem zyi9 (n : Nat) : val B (List.replicate n 0) = 0 := by
 induction n with
 | zero => rfl
 | succ n ih => rw [List.replicate_succ, zyhw, ih, Nat.mul_zero]
theorem zyi1 {l : List Nat} (h : Dg B l) : val B l < B ^ l.length := by
 induction l with
 | nil => simp [val]
 | cons d l ih =>
  have h1 := h.head
  have h2 := ih h.tail
  rw [zyhw, List.length_cons, Nat.pow_succ]
  have h3 : B * (val B l + 1) ≤ B * B ^ l.length := Nat.mul_le_mul_left B h2
  rw [Nat.mul_add, Nat.mul_one] at h3
  rw [Nat.mul_comm (B ^ l.length) B]
  omega
theorem zyi5 (l : List Nat) (i : Nat) : val B l = val B (l.take i) + B ^ (l.take i).length * val B (l.drop i) := by
 rw [← zyhv, List.take_append_drop]
theorem zyh8 (l : List Nat) (i : Nat) (hi : i < l.length) : l.take (i + 1) = l.take i ++ [l.getD i 0] := by
 rw [List.take_add_one, List.getD_eq_getElem?_getD, List.getElem?_eq_getElem hi]
 rfl
theorem zy4e (l : List Nat) (i : Nat) (hi : i < l.length) : l.drop i = l.getD i 0 :: l.drop (i + 1) := by
 rw [List.drop_eq_getElem_cons hi, List.getD_eq_getElem?_getD, List.getElem?_eq_getElem hi]
 rfl
theorem zyi7 (l : List Nat) (i : Nat) (hi : i < l.length) : val B (l.take (i + 1)) = val B (l.take i) + B ^ i * l.getD i 0 := by
 rw [zyh8 l i hi, zyi4, List.length_take, Nat.min_eq_left (by omega)]
theorem getD_drop (l : List Nat) (i j : Nat) : (l.drop i).getD j 0 = l.getD (i + j) 0 := by
 rw [List.getD_eq_getElem?_getD, List.getElem?_drop, List.getD_eq_getElem?_getD]
theorem zy6e (l : List Nat) (i j a : Nat) : (l.set i a).getD j 0 = if i = j ∧ i < l.length then a else l.getD j 0 := by
 rw [List.getD_eq_getElem?_getD, List.getElem?_set, List.getD_eq_getElem?_getD]
 by_cases h : i = j
 ·subst h
  by_cases h2 : i < l.length
  ·simp [h2]
  ·simp [h2]
 ·simp [h]
theorem zy6d (l : List Nat) (j : Nat) (h : l.length ≤ j) : l.getD j 0 = 0 := by
 rw [List.getD_eq_getElem?_getD, List.getElem?_eq_none h]; rfl

theorem zy43 : dig B 0 = [] := by unfold dig; simp
theorem zy41 {n : Nat} (hB : 2 ≤ B) (h : n ≠ 0) : dig B n = n % B :: dig B (n / B) := by
 conv => lhs; unfold dig
 rw [dif_neg (by omega)]
theorem zyhy (hB : 2 ≤ B) (n : Nat) : val B (dig B n) = n := by
 induction n using Nat.strongRecOn with
 | _ n ih =>
  by_cases h : n = 0
  ·subst h; rw [zy43]; rfl
  ·rw [zy41 hB h, zyhw, ih _ (Nat.div_lt_self (by omega) hB)]
   have := Nat.div_add_mod n B
   omega
theorem zy3s (hB : 2 ≤ B) (n : Nat) : Dg B (dig B n) := by
 induction n using Nat.strongRecOn with
 | _ n ih =>
  by_cases h : n = 0
  ·subst h; rw [zy43]; exact .nil
  ·rw [zy41 hB h]
   exact .cons (Nat.mod_lt _ (by omega)) (ih _ (Nat.div_lt_self (by omega) hB))
theorem zy3u (hB : 2 ≤ B) {n : Nat} : dig B n = [] ↔ n = 0 := by
 constructor
 ·intro h
  have := zyhy hB n
  rw [h] at this
  exact this.symm
 ·rintro rfl; exact zy43
theorem zy3w (hB : 2 ≤ B) {n : Nat} : (dig B n).length = 0 ↔ n = 0 := by rw [List.length_eq_zero_iff, zy3u hB]

theorem tl_le (l : List Nat) : tl l ≤ l.length := by
 induction l with
 | nil => exact Nat.le_refl _
 | cons x l ih => unfold tl; rw [List.length_cons]; split <;> (try split) <;> omega
theorem tl_zero {l : List Nat} (h : tl l = 0) : val B l = 0 := by
 induction l with
 | nil => rfl
 | cons x l ih =>
  unfold tl at h
  split at h
  ·rename_i h1
   split at h
   ·rename_i h2; rw [zyhw, ih h1, h2, Nat.mul_zero]
   ·omega
  ·omega
theorem zyh9 (hB : 2 ≤ B) {l : List Nat} (h : Dg B l) : l.take (tl l) = dig B (val B l) := by
 induction l with
 | nil => rw [val_nil, zy43]; rfl
 | cons x l ih =>
  have hx := h.head
  have ih' := ih h.tail
  unfold tl
  by_cases h0 : tl l = 0
  ·rw [if_pos h0]
   have hv := tl_zero (B := B) h0
   by_cases hx0 : x = 0
   ·rw [if_pos hx0, zyhw, hv, hx0]; simp [zy43]
   ·rw [if_neg hx0, zyhw, hv, Nat.mul_zero, Nat.add_zero, zy41 hB hx0, Nat.mod_eq_of_lt hx, Nat.div_eq_of_lt hx, zy43]
    rfl
  ·rw [if_neg h0, List.take_succ_cons, ih', zyhw]
   have hv : val B l ≠ 0 := fun e => by
    rw [e, zy43] at ih'
    have := congrArg List.length ih'
    rw [List.length_take, Nat.min_eq_left (tl_le l), List.length_nil] at this
    exact h0 this
   have hne : x + B * val B l ≠ 0 := by
    have : 0 < B * val B l := Nat.mul_pos (by omega) (by omega)
    omega
   rw [zy41 hB hne, Nat.add_mul_mod_self_left, Nat.mod_eq_of_lt hx, Nat.add_mul_div_left _ _ (by omega), Nat.div_eq_of_lt hx, Nat.zero_add]
theorem tl_eq (hB : 2 ≤ B) {l : List Nat} (h : Dg B l) : tl l = (dig B (val B l)).length := by
 rw [← zyh9 hB h, List.length_take, Nat.min_eq_left (tl_le l)]
theorem tl_snoc (l : List Nat) (a : Nat) : tl (l ++ [a]) = if a = 0 then tl l else l.length + 1 := by
 induction l with
 | nil => by_cases h : a = 0 <;> simp [tl, h]
 | cons x l ih =>
  rw [List.cons_append, tl, ih]
  by_cases h : a = 0
  ·simp only [if_pos h]; rfl
  ·simp only [if_neg h]; simp
theorem zyhb (l : List Nat) (k : Nat) (hk : k < l.length) : tl (l.take (k + 1)) = if l.getD k 0 = 0 then tl (l.take k) else k + 1 := by
 rw [zyh8 l k hk, tl_snoc, List.length_take, Nat.min_eq_left (by omega)]
theorem zy3y (hB : 2 ≤ B) {l : List Nat} (h : Dg B l) : (dig B (val B l)).length ≤ l.length := by
 rw [← tl_eq hB h]; exact tl_le l
theorem zy3z (hB : 2 ≤ B) {n k : Nat} (h : n < B ^ k) : (dig B n).length ≤ k := by
 induction k generalizing n with
 | zero =>
  have : n = 0 := by rw [Nat.pow_zero] at h; omega
  subst this; rw [zy43]; exact Nat.le_refl _
 | succ k ih =>
  by_cases h0 : n = 0
  ·subst h0; rw [zy43]; exact Nat.zero_le _
  ·rw [zy41 hB h0, List.length_cons]
   have : n / B < B ^ k := by rw [Nat.div_lt_iff_lt_mul (by omega)]; rw [Nat.pow_succ] at h; exact h
   have := ih this
   omega
theorem zyb0 (hB : 2 ≤ B) {n : Nat} : n < B ^ (dig B n).length := by
 have := zyi1 (zy3s hB n)
 rwa [zyhy hB] at this
theorem zy42 (hB : 2 ≤ B) {n : Nat} (h : n ≠ 0) : (dig B n).getD ((dig B n).length - 1) 0 ≠ 0 := by
 induction n using Nat.strongRecOn with
 | _ n ih =>
  rw [zy41 hB h]
  by_cases h1 : n / B = 0
  ·rw [h1, zy43]
   have : n % B = n := Nat.mod_eq_of_lt ((Nat.div_eq_zero_iff_lt (by omega)).1 h1)
   simpa [this] using h
  ·have h2 := ih _ (Nat.div_lt_self (by omega) hB) h1
   have h3 : (dig B (n / B)).length ≠ 0 := fun e => h1 ((zy3w hB).1 e)
   rw [List.length_cons, Nat.add_sub_cancel]
   obtain ⟨m, hm⟩ : ∃ m, (dig B (n / B)).length = m + 1 := ⟨_, (Nat.succ_pred_eq_of_ne_zero h3).symm⟩
   rw [hm] at h2 ⊢
   simpa using h2
theorem zye6 (hB : 2 ≤ B) {n : Nat} (h : n ≠ 0) : B ^ ((dig B n).length - 1) ≤ n := by
 induction n using Nat.strongRecOn with
 | _ n ih =>
  rw [zy41 hB h, List.length_cons, Nat.add_sub_cancel]
  by_cases h1 : n / B = 0
  ·rw [h1, zy43]; simp; omega
  ·have h2 := ih _ (Nat.div_lt_self (by omega) hB) h1
   have h3 : (dig B (n / B)).length ≠ 0 := fun e => h1 ((zy3w hB).1 e)
   obtain ⟨m, hm⟩ : ∃ m, (dig B (n / B)).length = m + 1 := ⟨_, (Nat.succ_pred_eq_of_ne_zero h3).symm⟩
   rw [hm] at h2 ⊢
   rw [Nat.add_sub_cancel] at h2
   rw [Nat.pow_succ]
   exact Nat.le_trans (Nat.mul_le_mul_right B h2) (Nat.div_mul_le_self n B)
theorem zyb1 (hB : 2 ≤ B) {a b : Nat} (h : (dig B a).length < (dig B b).length) : a < b := by
 have hb : b ≠ 0 := fun e => by rw [e, zy43] at h; simp at h
 have h1 := zyb0 hB (n := a)
 have h2 := zye6 hB hb
 exact Nat.lt_of_lt_of_le h1 (Nat.le_trans (Nat.pow_le_pow_right (by omega) (by omega)) h2)
theorem eq_dig (hB : 2 ≤ B) {l : List Nat} (h : Dg B l) (ht : tl l = l.length) : l = dig B (val B l) := by
 rw [← zyh9 hB h, ht, List.take_length]
theorem val_inj {l m : List Nat} (hl : Dg B l) (hm : Dg B m) (hlen : l.length = m.length) (h : val B l = val B m) : l = m := by
 induction l generalizing m with
 | nil => cases m with | nil => rfl | cons => simp at hlen
 | cons x l ih =>
  cases m with
  | nil => simp at hlen
  | cons y m =>
   rw [zyhw, zyhw] at h
   have hx := hl.head
   have hy := hm.head
   have h1 := congrArg (· % B) h
   simp only [Nat.add_mul_mod_self_left, Nat.mod_eq_of_lt hx, Nat.mod_eq_of_lt hy] at h1
   subst h1
   have h2 : B * val B l = B * val B m := by omega
   rw [ih hl.tail hm.tail (by simpa using hlen) (Nat.eq_of_mul_eq_mul_left (by omega) h2)]

def cmpI (a b : Nat) : Int := if a < b then -1 else if b < a then 1 else 0

theorem zyi2 {l m : List Nat} (hl : Dg B l) (hm : Dg B m) (i : Nat) (h1 : l.length = m.length) (hi : i < l.length) (hd : l.drop (i + 1) = m.drop (i + 1)) (hlt : l.getD i 0 < m.getD i 0) : val B l < val B m := by
 have e1 := zyi5 (B := B) l (i + 1)
 have e2 := zyi5 (B := B) m (i + 1)
 rw [e1, e2, hd, zyi7 l i hi, zyi7 m i (by omega), List.length_take, List.length_take, Nat.min_eq_left (by omega), Nat.min_eq_left (by omega)]
 have h3 : val B (l.take i) < B ^ i := by
  have := zyi1 (hl.take i)
  rwa [List.length_take, Nat.min_eq_left (by omega)] at this
 have h4 : B ^ i * (l.getD i 0 + 1) ≤ B ^ i * m.getD i 0 := Nat.mul_le_mul_left _ hlt
 rw [Nat.mul_add, Nat.mul_one] at h4
 omega

end Go.Proofs.YtiblnpnfaadmcaaGreat.Am
