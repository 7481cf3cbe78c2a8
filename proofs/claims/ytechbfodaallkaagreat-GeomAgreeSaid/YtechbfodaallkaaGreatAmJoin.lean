import Derived.Test.YtechbfodaallkaaGreatAmFix
/- A function's joins, each by itself: the code behind a join stands for an exit of its own. -/
set_option linter.unusedVariables false
set_option maxRecDepth 10000
namespace Go.Proofs.YtechbfodaallkaaGreat.Am
open Go

/-- The code at a place. -/
def AC.subAt : List Bool → AC → AC
  | [], c => c
  | d :: p, c => match c with
    | .seq a b => AC.subAt p (bif d then b else a)
    | .cond _ a b => AC.subAt p (bif d then b else a)
    | .block _ a => AC.subAt p a
    | _ => .bad
/-- At a place stands other code. -/
def AC.putAt : List Bool → AC → AC → AC
  | [], _, x => x
  | d :: p, c, x => match c with
    | .seq a b => bif d then .seq a (AC.putAt p b x) else .seq (AC.putAt p a x) b
    | .cond t a b => bif d then .cond t a (AC.putAt p b x) else .cond t (AC.putAt p a x) b
    | .block i a => .block i (AC.putAt p a x)
    | c => c
/-- What follows a place. -/
noncomputable def ctxK {R : Type} (C : Oracle) (refm : Nat → Bool) (It : Iter) : List Bool → AC → (Ex → St → Option R) → Ex → St → Option R
  | [], _, K => K
  | d :: p, c, K => match c with
    | .seq a b => bif d then ctxK C refm It p b K else ctxK C refm It p a (seqK (fun s' => evalC C refm It b s' K) K)
    | .cond _ a b => ctxK C refm It p (bif d then b else a) K
    | .block i a => ctxK C refm It p a (blockK i K)
    | _ => K
/-- An exit is followed by what it stands for. -/
def catchK {R : Type} (x : Nat) (J : St → Option R) (K : Ex → St → Option R) : Ex → St → Option R
  | .exit i, s => bif i == x then J s else K (.exit i) s
  | .normal, s => K .normal s
  | .ret, s => K .ret s
/-- A number that no exit and no block has; and no loop. -/
def AC.noX (x : Nat) : AC → Bool
  | .seq a b => a.noX x && b.noX x
  | .cond _ a b => a.noX x && b.noX x
  | .block i a => !(i == x) && a.noX x
  | .loop _ _ => false
  | .exit i => !(i == x)
  | _ => true
section
variable {R : Type} {C : Oracle} {refm : Nat → Bool} {It : Iter} {x : Nat}
theorem evalC_noX : ∀ {c : AC} {s : St} {K K' : Ex → St → Option R}, c.noX x = true → (∀ e s, e ≠ .exit x → K e s = K' e s) → evalC C refm It c s K = evalC C refm It c s K'
  | .skip, s, K, K', _, h => h _ _ (fun e => by cases e)
  | .ops l, s, K, K', _, h => by
    unfold evalC
    rw [show K .normal = K' .normal from funext fun s => h _ _ (fun e => by cases e)]
  | .any live os, s, K, K', _, h => by
    unfold evalC
    rw [show K .normal = K' .normal from funext fun s => h _ _ (fun e => by cases e)]
  | .seq a b, s, K, K', hn, h => by
    unfold AC.noX at hn
    rw [Bool.and_eq_true] at hn
    unfold evalC
    refine evalC_noX hn.1 fun e s he => ?_
    cases e with
    | normal => exact evalC_noX hn.2 h
    | exit i => exact h _ _ he
    | ret => exact h _ _ he
  | .cond t a b, s, K, K', hn, h => by
    unfold AC.noX at hn
    rw [Bool.and_eq_true] at hn
    unfold evalC
    rw [evalC_noX hn.1 h, evalC_noX hn.2 h]
  | .block i a, s, K, K', hn, h => by
    unfold AC.noX at hn
    rw [Bool.and_eq_true] at hn
    unfold evalC
    refine evalC_noX hn.2 fun e s he => ?_
    cases e with
    | normal => exact h _ _ he
    | exit j =>
      simp only [blockK]
      cases hj : j == i
      · exact h _ _ he
      · exact h _ _ (fun e => by cases e)
    | ret => exact h _ _ he
  | .loop _ _, _, _, _, hn, _ => by cases hn
  | .exit i, s, K, K', hn, h => by
    unfold AC.noX at hn
    unfold evalC
    refine h _ _ fun e => ?_
    cases e
    simp at hn
  | .ret, s, K, K', _, h => h _ _ (fun e => by cases e)
  | .bad, _, _, _, _, _ => rfl
theorem catch_ne {J : St → Option R} {K : Ex → St → Option R} : ∀ e s, e ≠ .exit x → K e s = catchK x J K e s
  | .normal, _, _ => rfl
  | .ret, _, _ => rfl
  | .exit i, s, h => by
    have : (i == x) = false := by simp; exact fun e => h (by rw [e])
    simp [catchK, this]
theorem join_eq : ∀ (p : List Bool) (c : AC) (s : St) (K : Ex → St → Option R), c.noX x = true → evalC C refm It c s K = evalC C refm It (AC.putAt p c (.exit x)) s (catchK x (fun s => evalC C refm It (AC.subAt p c) s (ctxK C refm It p c K)) K)
  | [], c, s, K, _ => by
    show _ = catchK x _ K (.exit x) s
    simp [catchK, AC.subAt, ctxK]
  | d :: p, c, s, K, hn => by
    cases c with
    | seq a b =>
      unfold AC.noX at hn
      rw [Bool.and_eq_true] at hn
      cases d with
      | true =>
        simp only [AC.putAt, AC.subAt, ctxK, cond_true]
        unfold evalC
        refine evalC_noX hn.1 fun e s he => ?_
        cases e with
        | normal => exact join_eq p b s K hn.2
        | exit i => exact catch_ne (J := fun s => evalC C refm It (AC.subAt p b) s (ctxK C refm It p b K)) (K := K) (.exit i) s he
        | ret => rfl
      | false =>
        simp only [AC.putAt, AC.subAt, ctxK, cond_false]
        unfold evalC
        rw [join_eq p a s _ hn.1]
        congr 1
        funext e s
        cases e with
        | normal => exact evalC_noX hn.2 catch_ne
        | exit i => rfl
        | ret => rfl
    | cond t a b =>
      unfold AC.noX at hn
      rw [Bool.and_eq_true] at hn
      cases d with
      | true =>
        simp only [AC.putAt, AC.subAt, ctxK, cond_true]
        unfold evalC
        rw [join_eq p b s K hn.2, evalC_noX (K' := catchK x (fun s => evalC C refm It (AC.subAt p b) s (ctxK C refm It p b K)) K) hn.1 catch_ne]
      | false =>
        simp only [AC.putAt, AC.subAt, ctxK, cond_false]
        unfold evalC
        rw [join_eq p a s K hn.1, evalC_noX (K' := catchK x (fun s => evalC C refm It (AC.subAt p a) s (ctxK C refm It p a K)) K) hn.2 catch_ne]
    | block i a =>
      unfold AC.noX at hn
      rw [Bool.and_eq_true] at hn
      simp only [AC.putAt, AC.subAt, ctxK]
      unfold evalC
      rw [join_eq p a s _ hn.2]
      congr 1
      funext e s
      cases e with
      | normal => rfl
      | ret => rfl
      | exit j =>
        have hi : (i == x) = false := by simpa using hn.1
        simp only [catchK, blockK]
        cases h1 : j == i
        · cases h2 : j == x <;> simp [h2, catchK]
        · have : j = i := by simpa using h1
          subst this
          simp [hi, catchK]
    | skip => exact evalC_noX hn catch_ne
    | ops l => exact evalC_noX hn catch_ne
    | any l o => exact evalC_noX hn catch_ne
    | loop l a => cases hn
    | exit i => exact evalC_noX hn catch_ne
    | ret => exact evalC_noX hn catch_ne
    | bad => exact evalC_noX hn catch_ne
end
end Go.Proofs.YtechbfodaallkaaGreat.Am
