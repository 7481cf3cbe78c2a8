import Derived.Test.YtojfiboeghonoaaGreatAmLoc9
import Derived.Test.YtojfiboeghonoaaGreatAmGeom3w
import Derived.Test.YtojfiboeghonoaaGreatTRef6
/- Where points lie in a mesh: the document's answer for At and Value. -/
set_option linter.unusedVariables false
set_option maxRecDepth 10000
set_option linter.unusedSimpArgs false
namespace Go.Proofs.YtojfiboeghonoaaGreat.Am
open Go

section
variable {h : Heap} {ax ay bx b_ cx cy : Rat}
end
section
variable {q : Mq} {i : Nat} {x y : Rat} {us : List Rat} {h : Heap}
theorem rnum_l0 {xs : List RT} {f : Bool} (hb : ∀ t ∈ xs, t.ok) (hn : xs.length ≤ 1000000) : ∀ (k i : Nat), i + k = xs.length → zf0n.l0 (.is xs.length f (xs.flatMap rtc)) (.int .i64 (i : Nat)) = some (.int .i64 (firstE ((xs.drop i).map RT.chk))) := by
  intro k
  induction k with
  | zero =>
    intro i hik
    rw [zf0n.l0_eq]
    rw [List.drop_of_length_le (show xs.length ≤ i by omega)]
    simp (disch := first | exact dD | fail) only [Wd, W2d, W3d, Nat.reduceAdd, Nat.reduceMul, Nat.reduceSub]
    rfl
  | succ k ih =>
    intro i hik
    rw [zf0n.l0_eq]
    have hi : i < xs.length := by omega
    have ht := hb _ (List.getElem_mem hi)
    have e : (xs.flatMap rtc).drop (i * 3) = .bool xs[i].s :: str xs[i].m :: str xs[i].d :: (xs.drop (i + 1)).flatMap rtc := by
      rw [drop_flatMap rtc_len, List.drop_eq_getElem_cons hi, List.flatMap_cons]; rfl
    have hc := fun h => c_3check (h := h) (s := xs[i].s) ht.1 ht.2
    have hc : ∀ h, byVal (callW gp) h fid.zf1f [.agg [.bool xs[i].s, str xs[i].m, str xs[i].d]] = some (.int .i64 xs[i].chk) := hc
    have lk : opBin .lss (.int .i64 (i : Int)) (.int .i64 (xs.length : Int)) = some (.bool true) := lssT (by omega)
    have s := fun f cs => sidxN (sz := 3) (f := f) (cs := cs) hi
    rw [List.drop_eq_getElem_cons hi, List.map_cons, firstE]
    generalize xs[i].chk = c at *
    by_cases h0 : c = 0
    · subst h0
      rw [if_pos rfl]
      simp (disch := first | exact dD | fail) only [Wd, W2d, W3d, Nat.reduceAdd, Nat.reduceMul, Nat.reduceSub, lk, s, e, hc, neqF]
      exact ih (i + 1) (by omega)
    · have nq := neqT h0
      rw [if_neg h0]
      simp (disch := first | exact dD | fail) only [Wd, W2d, W3d, Nat.reduceAdd, Nat.reduceMul, Nat.reduceSub, lk, s, e, hc, nq]
theorem k_rNum {xs : List RT} (hb : ∀ t ∈ xs, t.ok) (hn : xs.length ≤ 1000000) : byVal (callW gp) h fid.zf0n [.is xs.length false (xs.flatMap rtc)] = some (.int .i64 (firstE (xs.map RT.chk))) := byVal_imm (imm_L1 imm_rts) (by
  rw [zf0n.eq]
  unfold zf0n.f
  exact rnum_l0 hb hn xs.length 0 (by omega))
end
end Go.Proofs.YtojfiboeghonoaaGreat.Am
