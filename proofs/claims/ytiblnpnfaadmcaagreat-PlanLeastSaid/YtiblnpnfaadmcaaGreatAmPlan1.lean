import Derived.Test.YtiblnpnfaadmcaaGreatAmCons2
import Derived.Test.YtiblnpnfaadmcaaGreatAmPlain9b
import Derived.Test.YtiblnpnfaadmcaaGreatAmGeom3w
import Derived.Test.YtiblnpnfaadmcaaGreatTPlan
import Derived.Test.YtiblnpnfaadmcaaGreatTApart
/- Section 09: the small functions of plan. -/
set_option linter.unusedVariables false
set_option maxRecDepth 10000
set_option linter.unusedSimpArgs false
namespace Go.Proofs.YtiblnpnfaadmcaaGreat.Am
open Go

theorem zy74 {a b : AV} (ha : Imm 12 a) (hb : Imm 12 b) : ∀ x ∈ [a, b], Imm 12 x := zy7t ha hb
abbrev rcl (q : Rat) : List AV := [.bool (decide (q.num < 0)), str (nb q.num.natAbs), str (nb q.den)]
theorem zyel {q : Rat} : zyem (rcl q) (some 3) = some (ra q) := Eq.trans rfl rfl
abbrev z3 : List AV := [.bool false, .str ⟨#[]⟩, .str ⟨#[]⟩]
theorem notT : opUn .not (.bool true) = some (.bool false) := Eq.trans rfl rfl
theorem notF : opUn .not (.bool false) = some (.bool true) := Eq.trans rfl rfl
theorem zygj {h : Heap} {z v : List AV} {n : Nat} (hz : z.length = n) (hv : CellsOK v n) : zydm (h ++ [some z]) n (.rp h.length 0) (.agg v) = some (h ++ [some v]) := by
 rw [st_rp, zya9, Option.bind_some, zygl hv (by omega), zyfv, List.take_zero, List.nil_append, Nat.zero_add, List.drop_of_length_le (by omega), List.append_nil]
theorem sidxN {sz n i : Nat} {f : Bool} {cs : List AV} (h : i < n) : zydh sz (.is n f cs) (.int .i64 (i : Int)) = some (.ip (cs.drop (i * sz))) := by
 have := zyg8 (sz := sz) (n := n) (f := f) (cs := cs) (k := .i64) (z := (i : Int)) (by omega) (by omega)
 simpa using this
theorem lssT {x y : Int} (h : x < y) : opBin .lss (.int .i64 x) (.int .i64 y) = some (.bool true) := by rw [zy11, decide_eq_true h]
theorem lssF {x y : Int} (h : ¬ x < y) : opBin .lss (.int .i64 x) (.int .i64 y) = some (.bool false) := by rw [zy11, decide_eq_false h]
theorem zybz {ax ay bx b_ cx cy : Rat} (h1 : Rz ax 40) (h2 : Rz ay 40) (h3 : Rz bx 40) (h4 : Rz b_ 40) (h5 : Rz cx 40) (h6 : Rz cy 40) : Rz (nearQ ax ay bx b_ cx cy) 1500 := by
 unfold nearQ
 split
 ·exact (zy06 h5 h6 h1 h2).mono (by omega)
 ·split
  ·exact (zy06 h5 h6 h3 h4).mono (by omega)
  ·have c : Rz ((bx - ax) * (cy - ay) - (b_ - ay) * (cx - ax)) 400 := (Rz.area h1 h2 h3 h4 h5 h6).mono (by omega)
   have d : Rz ((bx - ax) * (bx - ax) + (b_ - ay) * (b_ - ay)) 400 := (zy06 h1 h2 h3 h4).mono (by omega)
   exact ((c.mul c).div d).mono (by omega)
theorem zero_z : Rz (0 : Rat) 8 := zy07 (z := 0) (by decide) (by decide)
theorem apart_z {ax ay bx b_ cx cy dx dy : Rat} (h1 : Rz ax 40) (h2 : Rz ay 40) (h3 : Rz bx 40) (h4 : Rz b_ 40) (h5 : Rz cx 40) (h6 : Rz cy 40) (h7 : Rz dx 40) (h8 : Rz dy 40) : Rz (zy0j ax ay bx b_ cx cy dx dy) 1500 := by
 unfold zy0j
 split
 ·exact zero_z.mono (by omega)
 ·exact Rz_min (Rz_min (zybz h1 h2 h3 h4 h5 h6) (zybz h1 h2 h3 h4 h7 h8)) (Rz_min (zybz h5 h6 h7 h8 h1 h2) (zybz h5 h6 h7 h8 h3 h4))
theorem zy5c {ax ay bx b_ : Rat} (h1 : Rz ax 40) (h2 : Rz ay 40) (h3 : Rz bx 40) (h4 : Rz b_ 40) : Rz (farQ ax ay bx b_) 1500 := (zy06 h1 h2 h3 h4).mono (by omega)
section
variable {h : Heap} {ax ay bx b_ cx cy dx dy x y : Rat}
theorem cmpQ_dec {p q : Rat} : decide (cmpQ p q < 0) = decide (p < q) := by
 unfold cmpQ
 by_cases h1 : p < q
 ·rw [if_pos h1]; simp [h1]
 ·rw [if_neg h1]; simp only [h1, decide_false]
  split <;> decide
theorem k_pless (hx : Rz x 8000) (hy : Rz y 8000) : byVal (callW gp) h fid.zf0y [ra x, ra y] = some (.bool (decide (x < y))) := zy1m (zy73 zy7p zy7p) (by
 rw [zf0y.eq]
 unfold zf0y.f
 simp (disch := first | exact dD | fail) only [Wd, W2d, W3d, Nat.reduceAdd, Nat.reduceMul, Nat.reduceSub, k_rcmp, cmpQ_dec])
theorem k_has {s : Sg} {v : Int} : byVal (callW gp) h fid.zf1e [.agg (sgc s), .int .i64 v] = some (.bool (decide (s.a = v) || decide (s.b = v))) := zy1m (zy74 imm_sg (imm_int.mono (by omega))) (by
 have fa : ∀ k id off, zyd1 k (.rp id off) = some (.rp id (off + k)) := fun _ _ _ => rfl
 have r0 : zyem (sgc s) none = some (.int .i64 s.a) := Eq.trans rfl rfl
 have r1 : zyem (List.drop 1 (sgc s)) none = some (.int .i64 s.b) := Eq.trans rfl rfl
 have q1 : ∀ x y : Int, opBin .eql (.int .i64 x) (.int .i64 y) = some (.bool (decide (x = y))) := fun x y => by
  simp only [opBin, zy7u]
  by_cases h : x = y <;> simp [h]
 rw [zf1e.eq]
 unfold zf1e.f
 simp (disch := first | exact dD | fail) only [Wd, W2d, W3d, Nat.reduceAdd, Nat.reduceMul, Nat.reduceSub, fa, r0, r1, q1]
 cases decide (s.a = v)
 ·simp (disch := first | exact dD | fail) only [Wd, W2d, W3d, Nat.reduceAdd, Nat.reduceMul, Nat.reduceSub]
  simp
 ·simp (disch := first | exact dD | fail) only [Wd, W2d, W3d, Nat.reduceAdd, Nat.reduceMul, Nat.reduceSub]
  simp)
theorem zy97 (h1 : Rz ax 100) (h2 : Rz ay 100) (h3 : Rz bx 100) (h4 : Rz b_ 100) (h5 : Rz cx 100) (h6 : Rz cy 100) : byVal (callW gp) h fid.zf1q [pa ax ay, pa bx b_, pa cx cy] = some (ra (nearQ ax ay bx b_ cx cy)) := zy1m (zy75 zy7m zy7m zy7m) (by
 have kn := fun h => k_near (h := h) h1 h2 h3 h4 h5 h6
 rw [zf1q.eq]
 unfold zf1q.f
 simp (disch := first | exact dD | fail) only [Wd, W2d, W3d, Nat.reduceAdd, Nat.reduceMul, Nat.reduceSub, kn])
def lsc : Option Rat → List AV
 | none => z3 ++ [.bool false]
 | some m => rcl m ++ [.bool true]
def UZ (s : Option Rat) (n : Nat) : Prop := ∀ m, s = some m → Rz m n
theorem zyhf {s : Option Rat} {d : Rat} {n : Nat} (hs : UZ s n) (hd : Rz d n) : UZ (told s d) n := fun m hm => by
 unfold told at hm
 split at hm
 ·cases hm; exact hd
 ·split at hm <;> cases hm
  ·exact hd
  ·exact hs _ rfl
theorem st_at4 {H : Heap} {id : Nat} {a b c d x y z : AV} (hc : [x, y, z].all AV.cell = true) (h : live H id = some [a, b, c, d]) : zydm H 3 (.rp id 0) (.agg [x, y, z]) = some (H.set id (some [x, y, z, d])) := by
 rw [st_rp, h, Option.bind_some, zygl (n := 3) (new := [x, y, z]) ⟨rfl, hc⟩ (by simp)]
 rfl
theorem st_b4 {H : Heap} {id : Nat} {a b c d : AV} {v : Bool} (h : live H id = some [a, b, c, d]) : zydm H 1 (.rp id 3) (.bool v) = some (H.set id (some [a, b, c, .bool v])) := by
 rw [st_rp, h, Option.bind_some]
 rfl
theorem zyag {H : Heap} {id : Nat} {v : Option (List AV)} (h : id < H.length) (j : Nat) : live (H.set id v) j = if j = id then v else live H j := by
 unfold live
 rw [List.getElem?_set]
 by_cases h1 : id = j
 ·subst h1; rw [if_pos rfl, if_pos rfl, if_pos h]; rfl
 ·rw [if_neg h1, if_neg (fun e => h1 e.symm)]
theorem told_j0 {H : Heap} {id k : Nat} {a b c w : AV} {d : Rat} (h1 : live H id = some [a, b, c, w]) (h2 : live H k = some (rcl d)) : ∃ H', zf1a.j0 (.rp id 0) (.rp k 0) (.bool true) H = some (.tup [], H') ∧ live H' id = some (rcl d ++ [.bool true]) ∧ H'.length = H.length ∧ ∀ j, j ≠ id → live H' j = live H j := by
 have fa : ∀ k id off, zyd1 k (.rp id off) = some (.rp id (off + k)) := fun _ _ _ => rfl
 have nc : ∀ id off, zydb (.rp id off) = some (.rp id off) := fun _ _ => rfl
 have hlt := zyae h1
 have s1 := st_at4 (H := H) (id := id) (x := .bool (decide (d.num < 0))) (y := str (nb d.num.natAbs)) (z := str (nb d.den)) rfl h1
 have h3 : live (H.set id (some (rcl d ++ [w]))) id = some (rcl d ++ [w]) := by rw [zyag hlt, if_pos rfl]
 have s2 := st_b4 (v := true) h3
 have hlt2 : id < (H.set id (some (rcl d ++ [w]))).length := by simpa using hlt
 refine ⟨(H.set id (some (rcl d ++ [w]))).set id (some (rcl d ++ [.bool true])), ?_, by rw [zyag hlt2, if_pos rfl], by simp, fun j hj => by rw [zyag hlt2, if_neg hj, zyag hlt, if_neg hj]⟩
 unfold zf1a.j0
 simp (disch := first | exact dD | fail) only [Wd, W2d, W3d, Nat.reduceAdd, Nat.reduceMul, Nat.reduceSub, fa, nc, h2, zyel, s1]
 rw [st_rp] at s2
 simp only [List.cons_append, List.nil_append] at s2 ⊢
 rw [s2]
 rfl
set_option maxHeartbeats 4000000 in
theorem zy27 {H : Heap} {id : Nat} {s : Option Rat} {d : Rat} (hl : live H id = some (lsc s)) (hd : Rz d 8000) (hs : UZ s 8000) : ∃ H', callW gp fid.zf1a [.rp id 0, ra d] H = some (.tup [], H') ∧ live H' id = some (lsc (told s d)) ∧ H'.length = H.length + 1 ∧ ∀ j, j ≠ id → j < H.length → live H' j = live H j := by
 have fa : ∀ k id off, zyd1 k (.rp id off) = some (.rp id (off + k)) := fun _ _ _ => rfl
 have nc : ∀ id off, zydb (.rp id off) = some (.rp id off) := fun _ _ => rfl
 have hid := zyae hl
 have g1 : live (H ++ [some (rcl d)]) id = some (lsc s) := zya8 hl
 have g2 : live (H ++ [some (rcl d)]) H.length = some (rcl d) := zya9
 have hb : opBox H (ra d) = some (.rp H.length 0, H ++ [some (rcl d)]) := rfl
 have keep : ∀ {H'}, (∀ j, j ≠ id → live H' j = live (H ++ [some (rcl d)]) j) → ∀ j, j ≠ id → j < H.length → live H' j = live H j := fun h j h1 h2 => by rw [h j h1, zya7 h2]
 rw [zf1a.eq]
 unfold zf1a.f
 cases s with
 | none =>
  have g1' : live (H ++ [some (rcl d)]) id = some [.bool false, .str ⟨#[]⟩, .str ⟨#[]⟩, .bool false] := g1
  obtain ⟨H', e1, e2, e3, e4⟩ := told_j0 (d := d) g1' g2
  refine ⟨H', ?_, e2, by simpa using e3, keep e4⟩
  have r3 : zyd4 (H ++ [some (rcl d)]) none (.rp id 3) = some (.bool false) := by
   show (live (H ++ [some (rcl d)]) id).bind _ = _
   rw [g1']; rfl
  simp (disch := first | exact dD | fail) only [Wd, W2d, W3d, Nat.reduceAdd, Nat.reduceMul, Nat.reduceSub, hb, fa, nc, r3, notT, notF]
  exact e1
 | some m =>
  have g1' : live (H ++ [some (rcl d)]) id = some [.bool (decide (m.num < 0)), str (nb m.num.natAbs), str (nb m.den), .bool true] := g1
  have r3 : zyd4 (H ++ [some (rcl d)]) none (.rp id 3) = some (.bool true) := by
   show (live (H ++ [some (rcl d)]) id).bind _ = _
   rw [g1']; rfl
  have r0 : zyd4 (H ++ [some (rcl d)]) (some 3) (.rp id 0) = some (ra m) := by
   show (live (H ++ [some (rcl d)]) id).bind _ = _
   rw [g1']; rfl
  have kp := fun h => k_pless (h := h) hd (hs m rfl)
  by_cases hlt : d < m
  ·rw [decide_eq_true hlt] at kp
   obtain ⟨H', e1, e2, e3, e4⟩ := told_j0 (d := d) g1' g2
   refine ⟨H', ?_, ?_, by simpa using e3, keep e4⟩
   ·simp (disch := first | exact dD | fail) only [Wd, W2d, W3d, Nat.reduceAdd, Nat.reduceMul, Nat.reduceSub, hb, fa, nc, r3, r0, notT, notF, g2, zyel, kp]
    exact e1
   ·rw [show told (some m) d = if d < m then some d else some m from rfl, if_pos hlt]; exact e2
  ·rw [decide_eq_false hlt] at kp
   refine ⟨H ++ [some (rcl d)], ?_, ?_, by simp, keep fun _ _ => rfl⟩
   ·simp (disch := first | exact dD | fail) only [Wd, W2d, W3d, Nat.reduceAdd, Nat.reduceMul, Nat.reduceSub, hb, fa, nc, r3, r0, notT, notF, g2, zyel, kp]
    unfold zf1a.j0
    rfl
   ·rw [show told (some m) d = if d < m then some d else some m from rfl, if_neg hlt]; exact g1
end
end Go.Proofs.YtiblnpnfaadmcaaGreat.Am
