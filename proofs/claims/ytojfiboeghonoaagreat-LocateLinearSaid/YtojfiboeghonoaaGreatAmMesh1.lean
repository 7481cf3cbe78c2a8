import Derived.Test.YtojfiboeghonoaaGreatAmMs
import Derived.Test.YtojfiboeghonoaaGreatTRef11
/- Meshes, the document's answer: edges, what is found. -/
set_option linter.unusedVariables false
set_option maxRecDepth 10000
set_option linter.unusedSimpArgs false
namespace Go.Proofs.YtojfiboeghonoaaGreat.Am
open Go

theorem rm12 : opBin .rem (.int .i64 1) (.int .i64 3) = some (.int .i64 1) := Eq.trans rfl rfl
theorem rm22 : opBin .rem (.int .i64 2) (.int .i64 3) = some (.int .i64 2) := Eq.trans rfl rfl
theorem rm32 : opBin .rem (.int .i64 3) (.int .i64 3) = some (.int .i64 0) := Eq.trans rfl rfl
theorem ad01 : opBin .add (.int .i64 0) (.int .i64 1) = some (.int .i64 1) := Eq.trans rfl rfl
theorem ad11 : opBin .add (.int .i64 1) (.int .i64 1) = some (.int .i64 2) := Eq.trans rfl rfl
theorem ad21 : opBin .add (.int .i64 2) (.int .i64 1) = some (.int .i64 3) := Eq.trans rfl rfl
theorem st_app3 {h : Heap} {z v : List AV} {n : Nat} (hz : z.length = n) (hv : CellsOK v n) : opStore (h ++ [some z]) n (.rp h.length 0) (.agg v) = some (h ++ [some v]) := by
  rw [st_rp, live_app_self, Option.bind_some, stc_agg hv (by omega), set_app_self, List.take_zero, List.nil_append, Nat.zero_add, List.drop_of_length_le (by omega), List.append_nil]
theorem imm_i {k : IntKind} {z : Int} : Imm 12 (.int k z) := imm_int.mono (by omega)
theorem sidxN {sz n i : Nat} {f : Bool} {cs : List AV} (h : i < n) : opSidx sz (.is n f cs) (.int .i64 (i : Int)) = some (.ip (cs.drop (i * sz))) := by
  have := sidx_is (sz := sz) (n := n) (f := f) (cs := cs) (k := .i64) (z := (i : Int)) (by omega) (by omega)
  simpa using this
section
variable {m : Ms} {h : Heap} {i : Nat}
set_option maxHeartbeats 4000000 in
theorem k_ends (hi : i < m.tris.length) {k : Nat} (hk : k < 3) : byVal (callW gp) h fid.zf15 [.agg (msc m), .int .i64 (i : Int), .int .i64 (k : Int)] = some (.tup [.int .i64 (edI m.tris i k).1, .int .i64 (edI m.tris i k).2]) := byVal_imm (imm_L3 imm_ms imm_i imm_i) (by
  have fa : ∀ k id off, opFaddr k (.rp id off) = some (.rp id (off + k)) := fun _ _ _ => rfl
  have e := tc_at hi
  have s := fun f cs => sidxN (sz := 3) (f := f) (cs := cs) hi
  rw [zf15.eq]
  unfold zf15.f
  rcases (by omega : k = 0 ∨ k = 1 ∨ k = 2) with rfl | rfl | rfl
  · simp (disch := first | exact dD | fail) only [Wd, W2d, W3d, Nat.reduceAdd, Nat.reduceMul, Nat.reduceSub, fa, ms_1, s, e, rm12, rm22, rm32, ad01, ad11, ad21, frz_tup2]
    rfl
  · simp (disch := first | exact dD | fail) only [Wd, W2d, W3d, Nat.reduceAdd, Nat.reduceMul, Nat.reduceSub, fa, ms_1, s, e, rm12, rm22, rm32, ad01, ad11, ad21, frz_tup2]
    rfl
  · simp (disch := first | exact dD | fail) only [Wd, W2d, W3d, Nat.reduceAdd, Nat.reduceMul, Nat.reduceSub, fa, ms_1, s, e, rm12, rm22, rm32, ad01, ad11, ad21, frz_tup2]
    rfl)
def fA : Option (Nat × Nat) → Int
  | some r => (r.1 : Int)
  | none => -1
def fB : Option (Nat × Nat) → Int
  | some r => (r.2 : Int)
  | none => 0
def fnd2 (r : Option (Nat × Nat)) : AV := .tup [.int .i64 (fA r), .int .i64 (fB r)]
theorem pairE {x y a b : Int} : (x, y) = (a, b) ↔ x = a ∧ y = b := by simp
theorem eqlTF {x a : Int} : opBin .eql (.int .i64 x) (.int .i64 a) = some (.bool (decide (x = a))) := bin_eql
theorem find_step {a b : Int} (hi : i < m.tris.length) {k : Nat} (hk : k < 3) (hn : m.tris.length ≤ 1000000) : zf1o.l1 (.int .i64 a) (.int .i64 b) (.rp 0 0) (.int .i64 (i : Int)) (.int .i64 (k : Int)) [some (msc m)] = if edI m.tris i k = (a, b) then some (fnd2 (some (i, k))) else zf1o.l1 (.int .i64 a) (.int .i64 b) (.rp 0 0) (.int .i64 (i : Int)) (.int .i64 ((k + 1 : Nat) : Int)) [some (msc m)] := by
  have e := fun h => k_ends (h := h) hi hk
  generalize edI m.tris i k = x at *
  obtain ⟨x, y⟩ := x
  simp only at e
  have lk : opBin .lss (.int .i64 (k : Int)) (.int .i64 3) = some (.bool true) := by
    show some (AV.bool (decide ((k : Int) < 3))) = _
    rw [decide_eq_true (by omega)]
  rw [zf1o.l1_eq]
  by_cases h1 : x = a
  · by_cases h2 : y = b
    · rw [if_pos (pairE.2 ⟨h1, h2⟩)]
      simp (disch := first | exact dD | fail) only [Wd, W2d, W3d, Nat.reduceAdd, Nat.reduceMul, Nat.reduceSub, lk, ms_rc, e, eqlTF, decide_eq_true h1, decide_eq_true h2, frz_tup2]
      rfl
    · rw [if_neg (fun g => h2 (pairE.1 g).2)]
      simp (disch := first | exact dD | fail) only [Wd, W2d, W3d, Nat.reduceAdd, Nat.reduceMul, Nat.reduceSub, lk, ms_rc, e, eqlTF, decide_eq_true h1, decide_eq_false h2]
  · rw [if_neg (fun g => h1 (pairE.1 g).1)]
    simp (disch := first | exact dD | fail) only [Wd, W2d, W3d, Nat.reduceAdd, Nat.reduceMul, Nat.reduceSub, lk, ms_rc, e, eqlTF, decide_eq_false h1]
theorem find_end {a b : Int} : zf1o.l1 (.int .i64 a) (.int .i64 b) (.rp 0 0) (.int .i64 (i : Int)) (.int .i64 ((3 : Nat) : Int)) [some (msc m)] = (opBin .add (.int .i64 (i : Int)) (.int .i64 1)).bind fun v => zf1o.l0 (.int .i64 a) (.int .i64 b) (.rp 0 0) v [some (msc m)] := by
  rw [zf1o.l1_eq]
  rfl
theorem find_l0 {a b : Int} (hn : m.tris.length ≤ 1000000) : ∀ (k i : Nat), i + k = m.tris.length → zf1o.l0 (.int .i64 a) (.int .i64 b) (.rp 0 0) (.int .i64 (i : Int)) [some (msc m)] = some (fnd2 (findI m.tris a b k i)) := by
  have fa : ∀ k id off, opFaddr k (.rp id off) = some (.rp id (off + k)) := fun _ _ _ => rfl
  intro k
  induction k with
  | zero =>
    intro i hik
    obtain rfl : i = m.tris.length := by omega
    rw [zf1o.l0_eq]
    simp (disch := first | exact dD | fail) only [Wd, W2d, W3d, Nat.reduceAdd, Nat.reduceMul, Nat.reduceSub, fa, ms_1, frz_tup2]
    rfl
  | succ k ih =>
    intro i hik
    have hi : i < m.tris.length := by omega
    have g := ih (i + 1) (by omega)
    have s0 := find_step (a := a) (b := b) hi (k := 0) (by omega) hn
    have s1 := find_step (a := a) (b := b) hi (k := 1) (by omega) hn
    have s2 := find_step (a := a) (b := b) hi (k := 2) (by omega) hn
    have ad : opBin .add (.int .i64 (i : Int)) (.int .i64 1) = some (.int .i64 ((i + 1 : Nat) : Int)) := by
      rw [int_add (by omega) (by omega)]; rfl
    have s3 : zf1o.l1 (.int .i64 a) (.int .i64 b) (.rp 0 0) (.int .i64 (i : Int)) (.int .i64 ((2 + 1 : Nat) : Int)) [some (msc m)] = some (fnd2 (findI m.tris a b k (i + 1))) := by
      rw [show (2 + 1 : Nat) = 3 from rfl, find_end, ad, Option.bind_some, g]
    rw [zf1o.l0_eq]
    simp (disch := first | exact dD | fail) only [Wd, W2d, W3d, Nat.reduceAdd, Nat.reduceMul, Nat.reduceSub, fa, ms_1]
    refine Eq.trans s0 ?_
    unfold findI
    by_cases h0 : edI m.tris i 0 = (a, b)
    · rw [if_pos h0, if_pos h0]
    rw [if_neg h0, if_neg h0, s1]
    by_cases h1 : edI m.tris i 1 = (a, b)
    · rw [if_pos h1, if_pos h1]
    rw [if_neg h1, if_neg h1, s2]
    by_cases h2 : edI m.tris i 2 = (a, b)
    · rw [if_pos h2, if_pos h2]
    rw [if_neg h2, if_neg h2, s3]
theorem k_find {a b : Int} (hn : m.tris.length ≤ 1000000) : byVal (callW gp) h fid.zf1o [.agg (msc m), .int .i64 a, .int .i64 b] = some (fnd2 (findI m.tris a b m.tris.length 0)) := byVal_imm (imm_L3 imm_ms imm_i imm_i) (by
  rw [zf1o.eq]
  unfold zf1o.f
  have := find_l0 (m := m) (a := a) (b := b) hn m.tris.length 0 (by omega)
  exact this)
def segN : Option Nat → Int
  | some r => (r : Int)
  | none => -1
def segV (r : Option Nat) : AV := .int .i64 (segN r)
theorem seg_l0 {ss : List Sg} {a b : Int} {fl : Bool} (hn : ss.length ≤ 1000000) : ∀ (k i : Nat), i + k = ss.length → zf1p.l0 (.is ss.length fl (ss.flatMap sgc)) (.int .i64 a) (.int .i64 b) (.int .i64 (i : Int)) = some (segV (segI ss a b k i)) := by
  intro k
  induction k with
  | zero =>
    intro i hik
    obtain rfl : i = ss.length := by omega
    rw [zf1p.l0_eq]
    simp (disch := first | exact dD | fail) only [Wd, W2d, W3d, Nat.reduceAdd, Nat.reduceMul, Nat.reduceSub]
    rfl
  | succ k ih =>
    intro i hik
    have hi : i < ss.length := by omega
    have g := ih (i + 1) (by omega)
    have e := sg_at hi
    have e1 : List.drop (i * 3 + 1) (ss.flatMap sgc) = .int .i64 (gat ss i).b :: .bool (gat ss i).f :: (ss.drop (i + 1)).flatMap sgc := by rw [← List.drop_drop, e]; rfl
    have s := fun f cs => sidxN (sz := 3) (f := f) (cs := cs) hi
    have fi : ∀ k cs, opFaddr k (.ip cs) = some (.ip (cs.drop k)) := fun _ _ => rfl
    rw [zf1p.l0_eq]
    unfold segI
    generalize gat ss i = w at *
    obtain ⟨x, y, f⟩ := w
    simp only at e e1
    by_cases hc : sameE ⟨x, y, f⟩ a b
    · rw [if_pos hc]
      unfold sameE at hc
      simp only at hc
      by_cases h1 : x = a <;> by_cases h2 : y = b <;> by_cases h3 : x = b <;> by_cases h4 : y = a
      all_goals
        first
          | (exfalso; omega)
          | (simp (disch := first | exact dD | fail) only [Wd, W2d, W3d, Nat.reduceAdd, Nat.reduceMul, Nat.reduceSub, s, e, e1, eqlTF, decide_eq_true h1, decide_eq_true h2, decide_eq_true h3, decide_eq_true h4, decide_eq_false h1, decide_eq_false h2, decide_eq_false h3, decide_eq_false h4]
             rfl)
          | (simp (disch := first | exact dD | fail) only [Wd, W2d, W3d, Nat.reduceAdd, Nat.reduceMul, Nat.reduceSub, s, e, e1, eqlTF, h1, h2, h3, h4, decide_true, decide_false]
             rfl)
    · rw [if_neg hc]
      unfold sameE at hc
      simp only at hc
      by_cases h1 : x = a <;> by_cases h2 : y = b <;> by_cases h3 : x = b <;> by_cases h4 : y = a
      all_goals
        first
          | (exfalso; omega)
          | (simp (disch := first | exact dD | fail) only [Wd, W2d, W3d, Nat.reduceAdd, Nat.reduceMul, Nat.reduceSub, s, e, e1, eqlTF, h1, h2, h3, h4, decide_true, decide_false]
             exact g)
theorem k_segof {ss : List Sg} {a b : Int} (hn : ss.length ≤ 1000000) : byVal (callW gp) h fid.zf1p [.is ss.length false (ss.flatMap sgc), .int .i64 a, .int .i64 b] = some (segV (segI ss a b ss.length 0)) := byVal_imm (imm_L3 ((imm_is (imm_flat imm_sgc ss)).mono (by omega)) imm_i imm_i) (by
  rw [zf1p.eq]
  unfold zf1p.f
  exact seg_l0 hn ss.length 0 (by omega))
end
end Go.Proofs.YtojfiboeghonoaaGreat.Am
