import Derived.Test.YtiblnpnfaadmcaaGreatAmPlan7
import Derived.Test.YtiblnpnfaadmcaaGreatTApart
import Derived.Test.YtiblnpnfaadmcaaGreatTLaw09
/- Section 09: Apart2, Box, small points. -/
set_option linter.unusedVariables false
set_option maxRecDepth 10000
set_option linter.unusedSimpArgs false
namespace Go.Proofs.YtiblnpnfaadmcaaGreat.Am
open Go

theorem same_cons {R : Type} {x : R} {l : List (Option R)} : zyfm (some x :: some x :: l) = zyfm (some x :: l) := by
 refine propext ⟨fun ⟨r, hr⟩ => ⟨r, fun y hy => hr y (List.mem_cons_of_mem _ hy)⟩, fun ⟨r, hr⟩ => ⟨r, fun y hy => ?_⟩⟩
 rcases List.mem_cons.1 hy with rfl | hy
 ·exact hr _ (List.mem_cons_self ..)
 ·exact hr y hy
theorem same_one {R : Type} {x : R} : zyfm [some x] = True := eq_true ⟨x, fun y hy => by simpa using hy⟩
theorem ifP_T {R : Type} {A : Option R} : ifP True A = A := ifP_yes trivial
def z6 : List AV := [.bool false, .str ⟨#[]⟩, .str ⟨#[]⟩, .bool false, .str ⟨#[]⟩, .str ⟨#[]⟩]
section
variable {h : Heap} {ax ay bx b_ cx cy dx dy : Rat}
theorem fz_b {H : Heap} {z : Int} : zy5v H (.tup [.agg z6, .agg z6, .int .i64 z]) = some (.tup [.agg z6, .agg z6, .int .i64 z]) := Eq.trans rfl rfl
theorem zy7l {a : AV} (ha : Imm 12 a) : ∀ x ∈ [a], Imm 12 x := fun x hx => by simp at hx; exact hx ▸ ha
set_option maxHeartbeats 16000000 in
theorem k_box0 : byVal (callW gp) h fid.zf0b [.is 0 false []] = some (.tup [.agg z6, .agg z6, .int .i64 1]) := zy1m (zy7l ((zy7d (n := 0) (d := 1) (fun c hc => by cases hc)).mono (by omega))) (by
 have ka : ∀ h f, byVal (callW gp) h fid.zf0x [.is 0 f []] = some (.int .i64 0) := fun h f => zy96 (h := h) (f := f) (xs := []) (fun _ ht => by cases ht) (by simp)
 have c1 : opBin .gtr (.int .i64 ((0 : Nat) : Int)) (.int .i64 400) = some (.bool false) := gtrF (by omega)
 rw [zf0b.eq]
 unfold zf0b.f
 simp (disch := first | exact dD | fail) only [Wd, W2d, W3d, Nat.reduceAdd, Nat.reduceMul, Nat.reduceSub, c1, ka, neqF9, same_cons, same_one, ifP_T]
 exact fz_b)
set_option maxHeartbeats 4000000 in
theorem k_pApart (h1 : Rz ax 40) (h2 : Rz ay 40) (h3 : Rz bx 40) (h4 : Rz b_ 40) (h5 : Rz cx 40) (h6 : Rz cy 40) (h7 : Rz dx 40) (h8 : Rz dy 40) : byVal (callW gp) h fid.zf0f [pa ax ay, pa bx b_, pa cx cy, pa dx dy] = some (.tup [ra (zy0j ax ay bx b_ cx cy dx dy), .int .i64 0]) := zy1m (zy76 zy7m zy7m zy7m zy7m) (by
 rw [zf0f.eq]
 unfold zf0f.f
 have hk := fun h f => zy96 (h := h) (f := f) (ok4 (pt_ok ax ay) (pt_ok bx b_) (pt_ok cx cy) (pt_ok dx dy)) (by simp)
 rw [firstE4, zy5o, zy0r (h1.mono (by omega)) (h2.mono (by omega)), zy0r (h3.mono (by omega)) (h4.mono (by omega)), zy0r (h5.mono (by omega)) (h6.mono (by omega)), zy0r (h7.mono (by omega)) (h8.mono (by omega))] at hk
 simp only [if_true, List.flatMap_cons, List.flatMap_nil, List.length_cons, List.length_nil] at hk
 unfold ptc rtc rt at hk
 simp only [List.cons_append, List.nil_append, List.append_nil, Nat.zero_add, Nat.reduceAdd] at hk
 have kp := fun h => zy95 (h := h) h1 h2 h3 h4 h5 h6 h7 h8
 generalize zy0j ax ay bx b_ cx cy dx dy = M at *
 simp (disch := first | exact dD | fail) only [Wd, W2d, W3d, Nat.reduceAdd, Nat.reduceMul, Nat.reduceSub, hk, neqF9, kp])
set_option maxHeartbeats 4000000 in
theorem k_at9 {a b : Int} (h1 : -9223372036854775808 ≤ a) (h2 : a ≤ 9223372036854775807) (h3 : -9223372036854775808 ≤ b) (h4 : b ≤ 9223372036854775807) : byVal (callW gp) h fid.gussetlaw09_at [.int .i64 a, .int .i64 b] = some (pa (a : Rat) (b : Rat)) := zy1m (zy73 (imm_int.mono (by omega)) (imm_int.mono (by omega))) (by
 have ka := fun h => k_3of (h := h) h1 h2
 have kb := fun h => k_3of (h := h) h3 h4
 rw [gussetlaw09_at.eq]
 unfold gussetlaw09_at.f
 simp (disch := first | exact dD | fail) only [Wd, W2d, W3d, Nat.reduceAdd, Nat.reduceMul, Nat.reduceSub, ka, kb])
end
end Go.Proofs.YtiblnpnfaadmcaaGreat.Am
