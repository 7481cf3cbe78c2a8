import Derived.Test.YtojfiboeghonoaaGreatAmLoc9
import Derived.Test.YtojfiboeghonoaaGreatAmGeom3w
import Derived.Test.YtojfiboeghonoaaGreatTRef6
/- Where points lie in a mesh: the document's answer for At and Value. -/
set_option linter.unusedVariables false
set_option maxRecDepth 10000
set_option linter.unusedSimpArgs false
namespace Go.Proofs.YtojfiboeghonoaaGreat.Am
open Go

section
variable {h : Heap} {ax ay bx b_ cx cy : Rat}
end
abbrev z6 : List AV := [.bool false, .str ⟨#[]⟩, .str ⟨#[]⟩, .bool false, .str ⟨#[]⟩, .str ⟨#[]⟩]
theorem fzp3 {H : Heap} {a b c d e f : Rat} : freeze H (.tup [pa a b, pa c d, pa e f]) = some (.tup [pa a b, pa c d, pa e f]) := frz_tup3 rfl rfl rfl
section
variable {q : Mq} {i : Nat} {x y : Rat} {us : List Rat} {h : Heap}
def cnr (q : Mq) (i : Nat) : AV := .tup [pa (ipx q.ps (tat q.ts i).1) (ipy q.ps (tat q.ts i).1), pa (ipx q.ps (tat q.ts i).2.1) (ipy q.ps (tat q.ts i).2.1), pa (ipx q.ps (tat q.ts i).2.2) (ipy q.ps (tat q.ts i).2.2)]
set_option maxHeartbeats 8000000 in
theorem k_cnr (hq : q.ok) (hi : i < q.ts.length) : byVal (callW gp) h fid.gussetref12_Corners [.agg (msc q.ms), .int .i64 (i : Int)] = some (cnr q i) := byVal_imm (imm_L2' imm_ms imm_i) (by
  have fa : ∀ k id off, opFaddr k (.rp id off) = some (.rp id (off + k)) := fun _ _ _ => rfl
  have e := tc_at hi
  have s := fun f cs => sidxN (sz := 3) (f := f) (cs := cs) hi
  have rd : ∀ T : List AV, readCells (.int .i64 (tat q.ts i).1 :: .int .i64 (tat q.ts i).2.1 :: .int .i64 (tat q.ts i).2.2 :: T) (some 3) = some (.agg (tc (tat q.ts i))) := fun T => Eq.trans rfl rfl
  have st := st_app3 (h := [some (msc q.ms), some z6, some z6, some z6]) (z := [.int .i64 0, .int .i64 0, .int .i64 0]) (v := tc (tat q.ts i)) (n := 3) rfl ⟨rfl, rfl⟩
  simp only [List.length_cons, List.length_nil, List.cons_append, List.nil_append, Nat.zero_add] at st
  have a0' : ∀ id o, opAidx 1 3 (.rp id o) (.int .i64 0) = some (.rp id (o + 0)) := fun id o => aixR (i := 0) (by omega)
  have a1' : ∀ id o, opAidx 1 3 (.rp id o) (.int .i64 1) = some (.rp id (o + 1)) := fun id o => aixR (i := 1) (by omega)
  have a2' : ∀ id o, opAidx 1 3 (.rp id o) (.int .i64 2) = some (.rp id (o + 2)) := fun id o => aixR (i := 2) (by omega)
  obtain ⟨⟨⟨a0, a1⟩, ⟨b0, b1⟩, ⟨c0, c1⟩⟩, hA⟩ := hq.tr i hi
  have hz := hq.zp
  unfold cnr
  rw [gussetref12_Corners.eq]
  unfold gussetref12_Corners.f
  generalize ht : tat q.ts i = t at *
  have ea := pcs_at (ps := q.ps) (i := t.1.toNat) (by omega)
  have eb := pcs_at (ps := q.ps) (i := t.2.1.toNat) (by omega)
  have ec := pcs_at (ps := q.ps) (i := t.2.2.toNat) (by omega)
  have sa := sidx_is (sz := 6) (n := q.ps.length) (f := false) (cs := pcs q.ps) (k := .i64) (z := t.1) a0 a1
  have sb := sidx_is (sz := 6) (n := q.ps.length) (f := false) (cs := pcs q.ps) (k := .i64) (z := t.2.1) b0 b1
  have sc := sidx_is (sz := 6) (n := q.ps.length) (f := false) (cs := pcs q.ps) (k := .i64) (z := t.2.2) c0 c1
  simp (disch := first | exact dD | fail) only [Wd, W2d, W3d, Nat.reduceAdd, Nat.reduceMul, Nat.reduceSub, fa, mq_0, mq_1, s, e, rd, st, a0', a1', a2', tc_0, tc_1, tc_2, sa, sb, sc, ea, eb, ec]
  refine (sepK_yes rfl).trans ?_
  exact fzp3)
/-! ### Numbers -/
/-! ### Value -/
end
end Go.Proofs.YtojfiboeghonoaaGreat.Am
