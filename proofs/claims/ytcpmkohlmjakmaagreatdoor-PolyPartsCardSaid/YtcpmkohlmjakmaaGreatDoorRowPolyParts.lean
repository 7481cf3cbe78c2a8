import Derived.Test.YtcpmkohlmjakmaaGreatDoorRows
import Derived.Test.YtcpmkohlmjakmaaGreatDoorAmRow
import Derived.Test.YtcpmkohlmjakmaaGreatDoorAmLaid
import Derived.Test.YtcpmkohlmjakmaaGreatDoorCards
import Derived.Test.YtcpmkohlmjakmaaGreatDoorTie
import Derived.LaidMore
import Derived.LaidLaws
import Derived.Test.YtcpmkohlmjakmaaGreatDoorAmPar7
/- The row of the statement PolyParts. -/
namespace Go.Proofs.YtcpmkohlmjakmaaGreatDoor
open Go
namespace Am
set_option maxRecDepth 100000 in
theorem polyParts_law (xs : List AV) (h : Dats Tryz.prog 9 Tryz.f5.params.toList xs) : cv gp 5 xs = some (.bool true) := by
  have hp : Tryz.f5.params.toList = [28, 31] := by kernel_rfl
  rw [hp] at h
  obtain ⟨x0, x1, rfl, h0, h1⟩ := dats2 h
  obtain ⟨a0, rfl, p0⟩ := r6_in (e := 26) (by kernel_rfl) (by kernel_rfl) (by kernel_rfl) (by kernel_rfl) h0
  obtain ⟨a1, rfl, p1⟩ := p3_in (e := 30) (by kernel_rfl) (by kernel_rfl) (by kernel_rfl) (by kernel_rfl) h1
  exact polyParts_cv a0 a1 p0 p1
end Am
theorem polyParts_door (os : Os) (args : Array Value) : laidMetH Tryz.prog [("gusset/poly.loads", Rows.laid_gusset_poly_loads), ("gusset/poly.squares", Rows.laid_gusset_poly_squares)] ((World.doorLaid Tryz.prog 200 os).forCall (fun _ _ => 0) ⟨#[], args, []⟩).memory :=
  laidMetH_of_parts3 (fuel := 8) (laidMet_of_run' 8 (by kernel_rfl) (by kernel_rfl)) (by kernel_rfl) (by kernel_rfl)
theorem polyParts_cells (W : World) (h : laidMetH Tryz.prog [("gusset/poly.loads", Rows.laid_gusset_poly_loads), ("gusset/poly.squares", Rows.laid_gusset_poly_squares)] W) : Am.GRep W (fun b => b < W.heap.size) := by
  rw [MakeChecks.laidMetH_plain _ _ _ (by kernel_rfl)] at h
  refine Am.grep_laid (laid := [("gusset/poly.loads", Rows.laid_gusset_poly_loads), ("gusset/poly.squares", Rows.laid_gusset_poly_squares)]) (fun g => ?_) h
  by_cases h0 : g = 0
  · subst h0
    exact .inr ⟨"gusset/poly.loads", Rows.laid_gusset_poly_loads, 68, List.mem_cons_self .., by kernel_rfl, by kernel_rfl, by kernel_rfl, by kernel_rfl, by kernel_rfl⟩
  · by_cases h1 : g = 1
    · subst h1
      exact .inr ⟨"gusset/poly.squares", Rows.laid_gusset_poly_squares, 69, List.mem_cons_of_mem _ (List.mem_cons_self ..), by kernel_rfl, by kernel_rfl, by kernel_rfl, by kernel_rfl, by kernel_rfl⟩
    · refine .inl ?_
      show (if g == 0 then Am.gl0 else if g == 1 then Am.gl1 else []) = []
      simp [h0, h1]
set_option maxRecDepth 100000 in
theorem polyParts_lifted (os : Os) (started : os.Started) (H : Type) (enc : TypeId × Value → H) :
    ReturnsInHanded {} Tryz.checked os 5 .any (Rows.polyPartsRow.pre enc Tryz.prog Tryz.f5 (OpenSpec.ofChange Rows.polyPartsSpec)) (Rows.polyPartsSpec.post enc Tryz.prog Tryz.f5 false true false false) :=
  Am.lift_law_laid (fun _ h => by cases h) (X := fun w => laidMetH Tryz.prog [("gusset/poly.loads", Rows.laid_gusset_poly_loads), ("gusset/poly.squares", Rows.laid_gusset_poly_squares)] w) (fun _ _ hh h => h.of_heap hh) polyParts_cells (C := Tryz.checked) (s := Rows.polyPartsSpec) (k := 9) (rt := 4) (by kernel_rfl) started (by kernel_rfl) Tryz.func5
    (ChangeSpec.witness_shaped (enc := enc) (C := Tryz.checked) (os := os) (X := fun w _ => laidMetH Tryz.prog [("gusset/poly.loads", Rows.laid_gusset_poly_loads), ("gusset/poly.squares", Rows.laid_gusset_poly_squares)] w) false (World.doorLaid Tryz.prog 200 os) #[.agg #[.bool false, .string ⟨#[]⟩, .string ⟨#[]⟩, .bool false, .string ⟨#[]⟩, .string ⟨#[]⟩, .bool false, .string ⟨#[]⟩, .string ⟨#[]⟩, .bool false, .string ⟨#[]⟩, .string ⟨#[]⟩, .bool false, .string ⟨#[]⟩, .string ⟨#[]⟩, .bool false, .string ⟨#[]⟩, .string ⟨#[]⟩], .agg #[.bool false, .string ⟨#[]⟩, .string ⟨#[]⟩, .bool false, .string ⟨#[]⟩, .string ⟨#[]⟩, .bool false, .string ⟨#[]⟩, .string ⟨#[]⟩, .bool false, .string ⟨#[]⟩, .string ⟨#[]⟩, .bool false, .string ⟨#[]⟩, .string ⟨#[]⟩, .bool false, .string ⟨#[]⟩, .string ⟨#[]⟩]] 8 rfl (World.shaped_of_RefB (by kernel_rfl) (by kernel_rfl)) (by kernel_rfl) (by kernel_rfl) (by kernel_rfl) (polyParts_door os _))
    (by kernel_rfl) (by kernel_rfl) (by kernel_rfl) (by kernel_rfl) rfl (fun ds h => by match ds, h with | [_, _], _ => rfl) (by kernel_rfl) (by kernel_rfl) Am.polyParts_law
theorem polyParts_row_holds : Rows.PolyPartsSaid :=
  OpenClaim.holds_of_wide 5 Tryz.f5 rfl rfl rfl rfl rfl rfl rfl ⟨rfl, rfl, rfl, rfl, rfl⟩ rfl rfl rfl rfl rfl (by kernel_rfl) Tryz.func5 (by kernel_rfl)
    (of_decide_eq_true (by kernel_rfl)) (by unfold Func.isWrapper; first | (rw [if_pos (by decide +kernel)]; kernel_rfl) | (rw [if_neg (by decide +kernel)]; exact ⟨rfl, rfl⟩))
    (fun os started H enc _ => polyParts_lifted os started H enc)
theorem polyParts_holds : Rows.PolyPartsCardSaid :=
  Claim7.holds_tied_plain_at .later [] [.data, .data] true (true, "3cdce4b1f83996cc9753b6d0acea57882d437d465b9082b9393bf425bee27954") false
    polyParts_row_holds (fun _ h => by cases h) (by kernel_rfl) (fun _ h => by cases h) polyParts_row_tie rfl ⟨rfl, rfl⟩ (by kernel_rfl) rfl
    (fun f fn hf hfn => by
      obtain rfl : f = 5 := Option.some.inj ((show Tryz.prog.funcNamed "gusset/gussetlaw07.PolyParts" = some 5 by kernel_rfl).symm.trans hf) |>.symm
      obtain rfl : fn = Tryz.f5 := (Option.some.inj (Tryz.func5.symm.trans hfn)).symm
      exact ⟨by kernel_rfl, fun j t ht => by
        have hp : Tryz.f5.params = #[28, 31] := by kernel_rfl
        rw [hp] at ht
        have hm : t ∈ [28, 31] := by simpa using Array.mem_of_getElem? ht
        have hall : ([28, 31].all fun u => !Tryz.prog.wantsStandIn u) = true := by kernel_rfl
        exact (show Tryz.prog.wantsStandIn t = false by simpa using List.all_eq_true.1 hall t hm)⟩)
    (by kernel_rfl)
end Go.Proofs.YtcpmkohlmjakmaaGreatDoor