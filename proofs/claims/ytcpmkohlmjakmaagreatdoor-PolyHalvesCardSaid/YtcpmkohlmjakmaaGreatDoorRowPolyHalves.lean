import Derived.Test.YtcpmkohlmjakmaaGreatDoorRows
import Derived.Test.YtcpmkohlmjakmaaGreatDoorAmRow
import Derived.Test.YtcpmkohlmjakmaaGreatDoorAmLaid
import Derived.Test.YtcpmkohlmjakmaaGreatDoorCards
import Derived.Test.YtcpmkohlmjakmaaGreatDoorTie
import Derived.LaidMore
import Derived.LaidLaws
import Derived.Test.YtcpmkohlmjakmaaGreatDoorAmHal7
/- The row of the statement PolyHalves. -/
namespace Go.Proofs.YtcpmkohlmjakmaaGreatDoor
open Go
namespace Am
set_option maxRecDepth 100000 in
theorem polyHalves_law (xs : List AV) (h : Dats Tryz.prog 9 Tryz.f6.params.toList xs) : cv gp 6 xs = some (.bool true) := by
  have hp : Tryz.f6.params.toList = [51] := by kernel_rfl
  rw [hp] at h
  obtain ⟨x0, rfl, h0⟩ := dats1 h
  obtain ⟨a0, rfl, p0⟩ := hf_in (e1 := 26) (e2 := 30) (by kernel_rfl) (by kernel_rfl) h0
  exact polyHalves_cv a0 p0
end Am
theorem polyHalves_door (os : Os) (args : Array Value) : laidMetH Tryz.prog [("gusset/poly.loads", Rows.laid_gusset_poly_loads), ("gusset/poly.squares", Rows.laid_gusset_poly_squares)] ((World.doorLaid Tryz.prog 200 os).forCall (fun _ _ => 0) ⟨#[], args, []⟩).memory :=
  laidMetH_of_parts3 (fuel := 8) (laidMet_of_run' 8 (by kernel_rfl) (by kernel_rfl)) (by kernel_rfl) (by kernel_rfl)
theorem polyHalves_cells (W : World) (h : laidMetH Tryz.prog [("gusset/poly.loads", Rows.laid_gusset_poly_loads), ("gusset/poly.squares", Rows.laid_gusset_poly_squares)] W) : Am.GRep W (fun b => b < W.heap.size) := by
  rw [MakeChecks.laidMetH_plain _ _ _ (by kernel_rfl)] at h
  refine Am.grep_laid (laid := [("gusset/poly.loads", Rows.laid_gusset_poly_loads), ("gusset/poly.squares", Rows.laid_gusset_poly_squares)]) (fun g => ?_) h
  by_cases h0 : g = 0
  · subst h0
    exact .inr ⟨"gusset/poly.loads", Rows.laid_gusset_poly_loads, 68, List.mem_cons_self .., by kernel_rfl, by kernel_rfl, by kernel_rfl, by kernel_rfl, by kernel_rfl⟩
  · by_cases h1 : g = 1
    · subst h1
      exact .inr ⟨"gusset/poly.squares", Rows.laid_gusset_poly_squares, 69, List.mem_cons_of_mem _ (List.mem_cons_self ..), by kernel_rfl, by kernel_rfl, by kernel_rfl, by kernel_rfl, by kernel_rfl⟩
    · refine .inl ?_
      show (if g == 0 then Am.gl0 else if g == 1 then Am.gl1 else []) = []
      simp [h0, h1]
set_option maxRecDepth 100000 in
theorem polyHalves_lifted (os : Os) (started : os.Started) (H : Type) (enc : TypeId × Value → H) :
    ReturnsInHanded {} Tryz.checked os 6 .any (Rows.polyHalvesRow.pre enc Tryz.prog Tryz.f6 (OpenSpec.ofChange Rows.polyHalvesSpec)) (Rows.polyHalvesSpec.post enc Tryz.prog Tryz.f6 false true false false) :=
  Am.lift_law_laid (fun _ h => by cases h) (X := fun w => laidMetH Tryz.prog [("gusset/poly.loads", Rows.laid_gusset_poly_loads), ("gusset/poly.squares", Rows.laid_gusset_poly_squares)] w) (fun _ _ hh h => h.of_heap hh) polyHalves_cells (C := Tryz.checked) (s := Rows.polyHalvesSpec) (k := 9) (rt := 4) (by kernel_rfl) started (by kernel_rfl) Tryz.func6
    (ChangeSpec.witness_shaped (enc := enc) (C := Tryz.checked) (os := os) (X := fun w _ => laidMetH Tryz.prog [("gusset/poly.loads", Rows.laid_gusset_poly_loads), ("gusset/poly.squares", Rows.laid_gusset_poly_squares)] w) false (World.doorLaid Tryz.prog 200 os) #[.agg #[.bool false, .string ⟨#[]⟩, .string ⟨#[]⟩, .bool false, .string ⟨#[]⟩, .string ⟨#[]⟩, .bool false, .string ⟨#[]⟩, .string ⟨#[]⟩, .bool false, .string ⟨#[]⟩, .string ⟨#[]⟩, .bool false, .string ⟨#[]⟩, .string ⟨#[]⟩, .bool false, .string ⟨#[]⟩, .string ⟨#[]⟩, .bool false, .string ⟨#[]⟩, .string ⟨#[]⟩, .bool false, .string ⟨#[]⟩, .string ⟨#[]⟩, .bool false, .string ⟨#[]⟩, .string ⟨#[]⟩, .bool false, .string ⟨#[]⟩, .string ⟨#[]⟩, .bool false, .string ⟨#[]⟩, .string ⟨#[]⟩, .bool false, .string ⟨#[]⟩, .string ⟨#[]⟩, .int .i64 0, .int .i64 0]] 8 rfl (World.shaped_of_RefB (by kernel_rfl) (by kernel_rfl)) (by kernel_rfl) (by kernel_rfl) (by kernel_rfl) (polyHalves_door os _))
    (by kernel_rfl) (by kernel_rfl) (by kernel_rfl) (by kernel_rfl) rfl (fun ds h => by match ds, h with | [_], _ => rfl) (by kernel_rfl) (by kernel_rfl) Am.polyHalves_law
theorem polyHalves_row_holds : Rows.PolyHalvesSaid :=
  OpenClaim.holds_of_wide 6 Tryz.f6 rfl rfl rfl rfl rfl rfl rfl ⟨rfl, rfl, rfl, rfl, rfl⟩ rfl rfl rfl rfl rfl (by kernel_rfl) Tryz.func6 (by kernel_rfl)
    (of_decide_eq_true (by kernel_rfl)) (by unfold Func.isWrapper; first | (rw [if_pos (by decide +kernel)]; kernel_rfl) | (rw [if_neg (by decide +kernel)]; exact ⟨rfl, rfl⟩))
    (fun os started H enc _ => polyHalves_lifted os started H enc)
theorem polyHalves_holds : Rows.PolyHalvesCardSaid :=
  Claim7.holds_tied_plain_at .later [] [.data, .data] true (true, "3cdce4b1f83996cc9753b6d0acea57882d437d465b9082b9393bf425bee27954") false
    polyHalves_row_holds (fun _ h => by cases h) (by kernel_rfl) (fun _ h => by cases h) polyHalves_row_tie rfl ⟨rfl, rfl⟩ (by kernel_rfl) rfl
    (fun f fn hf hfn => by
      obtain rfl : f = 6 := Option.some.inj ((show Tryz.prog.funcNamed "gusset/gussetlaw07.PolyHalves" = some 6 by kernel_rfl).symm.trans hf) |>.symm
      obtain rfl : fn = Tryz.f6 := (Option.some.inj (Tryz.func6.symm.trans hfn)).symm
      exact ⟨by kernel_rfl, fun j t ht => by
        have hp : Tryz.f6.params = #[51] := by kernel_rfl
        rw [hp] at ht
        have hm : t ∈ [51] := by simpa using Array.mem_of_getElem? ht
        have hall : ([51].all fun u => !Tryz.prog.wantsStandIn u) = true := by kernel_rfl
        exact (show Tryz.prog.wantsStandIn t = false by simpa using List.all_eq_true.1 hall t hm)⟩)
    (by kernel_rfl)
end Go.Proofs.YtcpmkohlmjakmaaGreatDoor