import Derived.Test.YtmklpomcdnflbaaGreatRows
import Derived.Test.YtmklpomcdnflbaaGreatAmRow
import Derived.Test.YtmklpomcdnflbaaGreatAmLaws17b
/- The row of the statement ElementJumps. -/
namespace Go.Proofs.YtmklpomcdnflbaaGreat
open Go
namespace Am
set_option maxRecDepth 100000 in
theorem elementJumps_law (xs : List AV) (h : Dats Tryz.prog 9 Tryz.f14.params.toList xs) : cv gp 14 xs = some (.bool true) := by
  have hp : Tryz.f14.params.toList = [76] := by kernel_rfl
  rw [hp] at h
  obtain ⟨x0, rfl, h0⟩ := dats1 h
  obtain ⟨a0, rfl, p0⟩ := p4_in (e := 40) (by kernel_rfl) (by kernel_rfl) (by kernel_rfl) (by kernel_rfl) h0
  exact elementJumps_cv a0 p0
end Am
set_option maxRecDepth 100000 in
theorem elementJumps_lifted (os : Os) (started : os.Started) (H : Type) (enc : TypeId × Value → H) :
    ReturnsInHanded {} Tryz.checked os 14 .any (Rows.elementJumpsSpec.pre6 enc Tryz.prog Tryz.f14 Rows.elementJumpsRow.domain false) (Rows.elementJumpsSpec.post enc Tryz.prog Tryz.f14 false true false false) :=
  Am.lift_law Am.dead_ok (fun _ => rfl) (C := Tryz.checked) (s := Rows.elementJumpsSpec) (k := 9) (rt := 4) (by kernel_rfl) started (by kernel_rfl) Tryz.func14
    (ChangeSpec.witness6 (enc := enc) (C := Tryz.checked) false ⟨#[], #[.agg #[.bool false, .string ⟨#[]⟩, .string ⟨#[]⟩, .bool false, .string ⟨#[]⟩, .string ⟨#[]⟩, .bool false, .string ⟨#[]⟩, .string ⟨#[]⟩, .bool false, .string ⟨#[]⟩, .string ⟨#[]⟩, .bool false, .string ⟨#[]⟩, .string ⟨#[]⟩, .bool false, .string ⟨#[]⟩, .string ⟨#[]⟩, .bool false, .string ⟨#[]⟩, .string ⟨#[]⟩, .bool false, .string ⟨#[]⟩, .string ⟨#[]⟩]], []⟩ 8 (by kernel_rfl) (by kernel_rfl) (by kernel_rfl) (by kernel_rfl))
    (by kernel_rfl) (by kernel_rfl) (by kernel_rfl) (by kernel_rfl) rfl (fun ds h => by match ds, h with | [_], _ => rfl) (by kernel_rfl) (by kernel_rfl) Am.elementJumps_law
theorem elementJumps_holds : Rows.ElementJumpsSaid :=
  OpenClaim.holds_of_wide 14 Tryz.f14 rfl rfl rfl rfl rfl rfl rfl ⟨rfl, rfl, rfl, rfl, rfl⟩ rfl rfl rfl rfl rfl (by kernel_rfl) Tryz.func14 (by kernel_rfl)
    (of_decide_eq_true (by kernel_rfl)) (by unfold Func.isWrapper; first | (rw [if_pos (by decide +kernel)]; kernel_rfl) | (rw [if_neg (by decide +kernel)]; exact ⟨rfl, rfl⟩))
    (fun os started H enc _ => elementJumps_lifted os started H enc)
end Go.Proofs.YtmklpomcdnflbaaGreat