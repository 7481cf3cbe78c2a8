import Derived.Test.YtechbfodaallkaaGreatAmSmall10
/- A plan's copy. -/
set_option linter.unusedVariables false
set_option maxRecDepth 10000
set_option linter.unusedSimpArgs false
namespace Go.Proofs.YtechbfodaallkaaGreat.Am
open Go

def cpv (p : Pl) (a b c : AV) : List AV := a :: b :: c :: (r6c p.F ++ r6c p.G)
def cpR (sz id n : Nat) : AV := if n = 0 then .is 0 true [] else .rs sz id 0 n
def cpB (n : Nat) (cs : List AV) : Heap := if n = 0 then [] else [some cs]
theorem cpR_cell {sz id n : Nat} : (cpR sz id n).cell = true := by unfold cpR; split <;> rfl
theorem app_0 {h : Heap} {sz : Nat} {f : Bool} : opApp h sz (.is 0 true []) (.is 0 f []) = some (.is 0 true [], h) := by
  simp [opApp, elemsOf, AV.notStr]
theorem app_cp {α : Type} {f : α → List AV} {sz : Nat} (hf : ∀ x, (f x).length = sz) (hc : ∀ l : List α, (l.flatMap f).all AV.cell = true) {l : List α} (hn : l.length ≤ 100000) {h : Heap} : opApp h sz (.is 0 true []) (.is l.length false (l.flatMap f)) = some (cpR sz h.length l.length, h ++ cpB l.length (l.flatMap f)) := by
  unfold cpR cpB
  by_cases h0 : l.length = 0
  · rw [if_pos h0, if_pos h0, List.length_eq_zero_iff.1 h0, List.append_nil]
    exact app_0
  · rw [if_neg h0, if_neg h0]
    exact app_s0 (len_flatMap hf _) (by omega) (by omega) (hc _)
theorem lvA {hh l : Heap} {i : Nat} : live (hh ++ l) (hh.length + i) = live l i := by
  simp [live, List.getElem?_append_right]
theorem lvA0 {hh l : Heap} : live (hh ++ l) hh.length = live l 0 := lvA (i := 0)
theorem stA {hh l : Heap} {i : Nat} {x : Option (List AV)} : (hh ++ l).set (hh.length + i) x = hh ++ l.set i x := by
  rw [List.set_append_right _ _ (by omega)]; simp
theorem stA0 {hh l : Heap} {x : Option (List AV)} : (hh ++ l).set hh.length x = hh ++ l.set 0 x := stA (i := 0)
theorem imp6 (l : List PT) : (l.flatMap ptc).all AV.cell = true := List.all_eq_true.2 fun c hc => by
  obtain ⟨t, _, ht⟩ := List.mem_flatMap.1 hc
  simp [ptc, rtc] at ht
  rcases ht with rfl | rfl | rfl | rfl | rfl | rfl <;> rfl
theorem ims3 (l : List Sg) : (l.flatMap sgc).all AV.cell = true := List.all_eq_true.2 fun c hc => by
  obtain ⟨t, _, ht⟩ := List.mem_flatMap.1 hc
  simp [sgc] at ht
  rcases ht with rfl | rfl | rfl <;> rfl
section
variable {p : Pl} {a b c r : AV} {h : Heap} {id : Nat}
theorem cpv_bld : opBld [.is 0 true [], .is 0 true [], .is 0 true [], .bool false, .str ⟨#[]⟩, .str ⟨#[]⟩, .bool false, .str ⟨#[]⟩, .str ⟨#[]⟩, .bool false, .str ⟨#[]⟩, .str ⟨#[]⟩, .bool false, .str ⟨#[]⟩, .str ⟨#[]⟩, .bool false, .str ⟨#[]⟩, .str ⟨#[]⟩, .bool false, .str ⟨#[]⟩, .str ⟨#[]⟩, .bool false, .str ⟨#[]⟩, .str ⟨#[]⟩, .bool false, .str ⟨#[]⟩, .str ⟨#[]⟩, .bool false, .str ⟨#[]⟩, .str ⟨#[]⟩, .bool false, .str ⟨#[]⟩, .str ⟨#[]⟩, .bool false, .str ⟨#[]⟩, .str ⟨#[]⟩, .bool false, .str ⟨#[]⟩, .str ⟨#[]⟩] [(3, 18, .agg (r6c p.F)), (21, 18, .agg (r6c p.G))] = some (.agg (cpv p (.is 0 true []) (.is 0 true []) (.is 0 true []))) := Eq.trans rfl rfl
theorem cpv_rc : readCells (cpv p a b c) (some 39) = some (.agg (cpv p a b c)) := Eq.trans rfl rfl
theorem cpv_0 : readCells (cpv p a b c) none = some a := Eq.trans rfl rfl
theorem cpv_1 : readCells (List.drop 1 (cpv p a b c)) none = some b := Eq.trans rfl rfl
theorem cpv_2 : readCells (List.drop 2 (cpv p a b c)) none = some c := Eq.trans rfl rfl
theorem cpv_ok (ha : a.cell = true) (hb : b.cell = true) (hc : c.cell = true) : CellsOK (cpv p a b c) 39 := ⟨rfl, by
  show (a.cell && (b.cell && (c.cell && (r6c p.F ++ r6c p.G).all AV.cell))) = true
  rw [ha, hb, hc]; rfl⟩
theorem cpv_st {cs : List AV} (hl : cs.length = 39) (ha : a.cell = true) (hb : b.cell = true) (hc : c.cell = true) : stc h 39 id 0 (.agg (cpv p a b c)) cs = some (h.set id (some (cpv p a b c))) := by
  rw [stc_agg (cpv_ok ha hb hc) (by omega), List.take_zero, List.nil_append, Nat.zero_add, List.drop_of_length_le (by omega), List.append_nil]
theorem cpv_s0 (hr : r.cell = true) : stc h 1 id 0 r (cpv p a b c) = some (h.set id (some (cpv p r b c))) := stc_one hr (show 0 < 39 by decide)
theorem cpv_s1 (hr : r.cell = true) : stc h 1 id 1 r (cpv p a b c) = some (h.set id (some (cpv p a r c))) := stc_one hr (show 1 < 39 by decide)
theorem cpv_s2 (hr : r.cell = true) : stc h 1 id 2 r (cpv p a b c) = some (h.set id (some (cpv p a b r))) := stc_one hr (show 2 < 39 by decide)
def cpB1 (p : Pl) : Heap := cpB p.pts.length (p.pts.flatMap ptc)
def cpB2 (p : Pl) : Heap := cpB p.segs.length (p.segs.flatMap sgc)
def cpB3 (p : Pl) : Heap := cpB p.holes.length (p.holes.flatMap ptc)
/-- What a copy of a plan is, its blocks from a place on. -/
def cpy (p : Pl) (L : Nat) : List AV := cpv p (cpR 6 (L + 3) p.pts.length) (cpR 3 (L + 3 + (cpB1 p).length) p.segs.length) (cpR 6 (L + 3 + (cpB1 p).length + (cpB2 p).length) p.holes.length)
def cpH (p : Pl) (L : Nat) : Heap := some (plc p) :: some (cpy p L) :: some (cpy p L) :: (cpB1 p ++ (cpB2 p ++ cpB3 p))
theorem c_copyG (hp : p.ok) (hh : Heap) : callW gp fid.gussetref08_Copy [.agg (plc p)] hh = some (.agg (cpy p hh.length), hh ++ cpH p hh.length) := by
  have n1 := hp.n1
  have n2 := hp.n2
  have n3 := hp.n3
  have c1 := fun sz id n => cpR_cell (sz := sz) (id := id) (n := n)
  have a1 : ∀ x1 x2 x3, opApp (hh ++ [x1, x2, x3]) 6 (.is 0 true []) (.is p.pts.length false (p.pts.flatMap ptc)) = some (cpR 6 (hh.length + 3) p.pts.length, hh ++ (x1 :: x2 :: x3 :: cpB1 p)) := fun x1 x2 x3 => by
    rw [app_cp ptc_len imp6 n1, List.append_assoc, List.length_append]; rfl
  have a2 : ∀ x1 x2 x3, opApp (hh ++ (x1 :: x2 :: x3 :: cpB1 p)) 3 (.is 0 true []) (.is p.segs.length false (p.segs.flatMap sgc)) = some (cpR 3 (hh.length + 3 + (cpB1 p).length) p.segs.length, hh ++ (x1 :: x2 :: x3 :: (cpB1 p ++ cpB2 p))) := fun x1 x2 x3 => by
    rw [app_cp sgc_len ims3 n2, List.append_assoc, List.length_append]
    simp only [List.length_cons]
    rw [show hh.length + ((cpB1 p).length + 1 + 1 + 1) = hh.length + 3 + (cpB1 p).length by omega]
    rfl
  have a3 : ∀ x1 x2 x3, opApp (hh ++ (x1 :: x2 :: x3 :: (cpB1 p ++ cpB2 p))) 6 (.is 0 true []) (.is p.holes.length false (p.holes.flatMap ptc)) = some (cpR 6 (hh.length + 3 + (cpB1 p).length + (cpB2 p).length) p.holes.length, hh ++ (x1 :: x2 :: x3 :: (cpB1 p ++ (cpB2 p ++ cpB3 p)))) := fun x1 x2 x3 => by
    rw [app_cp ptc_len imp6 n3, List.append_assoc, List.length_append]
    simp only [List.length_cons, List.length_append, List.cons_append, List.append_assoc]
    rw [show hh.length + ((cpB1 p).length + (cpB2 p).length + 1 + 1 + 1) = hh.length + 3 + (cpB1 p).length + (cpB2 p).length by omega]
    rfl
  have z0 : (AV.is 0 true []).cell = true := rfl
  have l39 : ∀ a b c, (cpv p a b c).length = 39 := fun _ _ _ => rfl
  have lz : [AV.is 0 true [], .is 0 true [], .is 0 true [], .bool false, .str ⟨#[]⟩, .str ⟨#[]⟩, .bool false, .str ⟨#[]⟩, .str ⟨#[]⟩, .bool false, .str ⟨#[]⟩, .str ⟨#[]⟩, .bool false, .str ⟨#[]⟩, .str ⟨#[]⟩, .bool false, .str ⟨#[]⟩, .str ⟨#[]⟩, .bool false, .str ⟨#[]⟩, .str ⟨#[]⟩, .bool false, .str ⟨#[]⟩, .str ⟨#[]⟩, .bool false, .str ⟨#[]⟩, .str ⟨#[]⟩, .bool false, .str ⟨#[]⟩, .str ⟨#[]⟩, .bool false, .str ⟨#[]⟩, .str ⟨#[]⟩, .bool false, .str ⟨#[]⟩, .str ⟨#[]⟩, .bool false, .str ⟨#[]⟩, .str ⟨#[]⟩].length = 39 := rfl
  have l1 : ∀ (x : Option (List AV)) (xs : Heap), live (x :: xs) 1 = live xs 0 := fun _ _ => rfl
  have l2 : ∀ (x y : Option (List AV)) (xs : Heap), live (x :: y :: xs) 2 = live xs 0 := fun _ _ _ => rfl
  have l0 : ∀ (x : List AV) (xs : Heap), live (some x :: xs) 0 = some x := fun _ _ => rfl
  have t1 : ∀ (x y z : Option (List AV)) (xs : Heap), (x :: y :: xs).set 1 z = x :: z :: xs := fun _ _ _ _ => rfl
  have t2 : ∀ (x y w z : Option (List AV)) (xs : Heap), (x :: y :: w :: xs).set 2 z = x :: y :: z :: xs := fun _ _ _ _ _ => rfl
  have fa : ∀ k id off, opFaddr k (.rp id off) = some (.rp id (off + k)) := fun _ _ _ => rfl
  rw [gussetref08_Copy.eq]
  unfold gussetref08_Copy.f
  simp only [box_agg, bind_s, fa, ld_rp, st_rp, List.append_assoc, List.cons_append, List.nil_append, List.length_append, List.length_cons, List.length_nil, Nat.zero_add, Nat.reduceAdd, lvA, lvA0, stA, stA0, l0, l1, l2, t1, t2, plc_0, plc_1, plc_2, plc_3, plc_21, List.drop_zero, cpv_bld, cpv_st lz z0 z0 z0, cpv_0, cpv_1, cpv_2, a1, a2, a3, cpv_s0 (c1 _ _ _), cpv_s1 (c1 _ _ _), cpv_s2 (c1 _ _ _), cpv_st lz (c1 _ _ _) (c1 _ _ _) (c1 _ _ _), cpv_rc]
  rfl
theorem frz_rowc {α : Type} {f : α → List AV} {sz id : Nat} {H : Heap} {xs : List α} (hf : ∀ x, (f x).length = sz) (hi : ∀ x, ∀ c ∈ f x, Imm 1 c) (hl : xs.length ≠ 0 → live H id = some (xs.flatMap f)) : freezeN 11 H (cpR sz id xs.length) = some (.is xs.length false (xs.flatMap f)) := by
  have hlen := len_flatMap hf xs
  unfold cpR
  by_cases h0 : xs.length = 0
  · rw [if_pos h0, List.length_eq_zero_iff.1 h0]; rfl
  · rw [if_neg h0, fz_rs, hl h0, Option.bind_some, if_pos (by rw [hlen]; omega), List.drop_zero, List.take_of_length_le (by rw [hlen]; omega), imm_mapM (imm_flat hi xs) (by omega)]
    rfl
theorem frz_cpv {H : Heap} {ps hs : List PT} {ss : List Sg} (h1 : freezeN 11 H a = some (.is ps.length false (ps.flatMap ptc))) (h2 : freezeN 11 H b = some (.is ss.length false (ss.flatMap sgc))) (h3 : freezeN 11 H c = some (.is hs.length false (hs.flatMap ptc))) : freeze H (.agg (cpv p a b c)) = some (.agg (plc ⟨ps, ss, hs, p.F, p.G⟩)) := by
  show ((a :: b :: c :: (r6c p.F ++ r6c p.G)).mapM (freezeN 11 H)).map (fun l => AV.agg l) = _
  have mF : (r6c p.F ++ r6c p.G).mapM (freezeN 11 H) = some (r6c p.F ++ r6c p.G) := imm_mapM (d := 1) (fun c hc => (List.mem_append.1 hc).elim (imm_flat imm_rtc _ c) (imm_flat imm_rtc _ c)) (by omega) H
  rw [List.mapM_cons, h1, List.mapM_cons, h2, List.mapM_cons, h3, mF]
  rfl
theorem lv_cp1 {hh T : Heap} {x y z : Option (List AV)} (h0 : p.pts.length ≠ 0) : live (hh ++ (x :: y :: z :: (cpB1 p ++ T))) (hh.length + 3) = some (p.pts.flatMap ptc) := by
  rw [lvA]; unfold cpB1 cpB; rw [if_neg h0]; rfl
theorem lv_cp2 {hh T : Heap} {x y z : Option (List AV)} (h0 : p.segs.length ≠ 0) : live (hh ++ (x :: y :: z :: (cpB1 p ++ (cpB2 p ++ T)))) (hh.length + 3 + (cpB1 p).length) = some (p.segs.flatMap sgc) := by
  have e : hh ++ (x :: y :: z :: (cpB1 p ++ (cpB2 p ++ T))) = (hh ++ (x :: y :: z :: cpB1 p)) ++ (cpB2 p ++ T) := by simp
  have el : (hh ++ (x :: y :: z :: cpB1 p)).length = hh.length + 3 + (cpB1 p).length := by simp; omega
  rw [e, ← el, lvA0]; unfold cpB2 cpB; rw [if_neg h0]; rfl
theorem lv_cp3 {hh T : Heap} {x y z : Option (List AV)} (h0 : p.holes.length ≠ 0) : live (hh ++ (x :: y :: z :: (cpB1 p ++ (cpB2 p ++ (cpB3 p ++ T))))) (hh.length + 3 + (cpB1 p).length + (cpB2 p).length) = some (p.holes.flatMap ptc) := by
  have e : hh ++ (x :: y :: z :: (cpB1 p ++ (cpB2 p ++ (cpB3 p ++ T)))) = (hh ++ (x :: y :: z :: (cpB1 p ++ cpB2 p))) ++ (cpB3 p ++ T) := by simp
  have el : (hh ++ (x :: y :: z :: (cpB1 p ++ cpB2 p))).length = hh.length + 3 + (cpB1 p).length + (cpB2 p).length := by simp; omega
  rw [e, ← el, lvA0]; unfold cpB3 cpB; rw [if_neg h0]; rfl
end
end Go.Proofs.YtechbfodaallkaaGreat.Am
