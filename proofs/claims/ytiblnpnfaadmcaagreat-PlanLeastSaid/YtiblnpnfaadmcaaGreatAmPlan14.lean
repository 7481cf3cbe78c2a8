import Derived.Test.YtiblnpnfaadmcaaGreatAmPlan13
/- Section 09: PlanLeast. -/
set_option linter.unusedVariables false
set_option maxRecDepth 10000
set_option linter.unusedSimpArgs false
namespace Go.Proofs.YtiblnpnfaadmcaaGreat.Am
open Go

theorem st_0 {T : Heap} {a y : AV} {l : List AV} (hy : y.cell = true) : zydm (some (a :: l) :: T) 1 (.rp 0 0) y = some (some (y :: l) :: T) := by
 cases y <;> first | rfl | cases hy
theorem st_1 {T : Heap} {a b y : AV} {l : List AV} (hy : y.cell = true) : zydm (some (a :: b :: l) :: T) 1 (.rp 0 1) y = some (some (a :: y :: l) :: T) := by
 cases y <;> first | rfl | cases hy
theorem CpR.hd {c c' : List AV} {T : Heap} {y : AV} {sz n : Nat} {cs : List AV} (h : CpR (some c :: T) y sz n cs) (hj : ∀ id, y = .rs sz id 0 n → id ≠ 0) : CpR (some c' :: T) y sz n cs := CpR.set h hj (some c') (by simp)
theorem byVal_own {h : Heap} {f : Nat} {args xs : List AV} {v : AV} (ha : args.mapM (zy5v h) = some xs) (hx : ∀ x ∈ xs, Imm 12 x) (hb : byVal (callW gp) h f xs = some v) (hf : flatV v = true) : byVal (callW gp) h f args = some v := by
 rw [zy1k] at hb
 have h1 : xs.mapM (zy5v h) = some xs := zy7i hx (Nat.le_refl _) h
 have h2 : xs.all noRef = true := zy78 hx (Nat.le_refl _)
 rw [h1] at hb
 simp only [Option.bind_some, h2, Bool.true_or, if_true] at hb
 refine zy1l ha ?_ hf
 cases hc : cv gp f xs with
 | none => rw [hc] at hb; cases hb
 | some w => rw [hc] at hb; exact hb
theorem own_least {H : Heap} {y1 y2 : AV} {xs : List PT} {gs : List Sg} {v : AV} (h1 : CpR H y1 6 xs.length (xs.flatMap ptc)) (h2 : CpR H y2 3 gs.length (gs.flatMap sgc)) (hb : byVal (callW gp) H fid.zf0j [.is xs.length false (xs.flatMap ptc), .is gs.length false (gs.flatMap sgc)] = some v) (hf : flatV v = true) : byVal (callW gp) H fid.zf0j [y1, y2] = some v :=
 byVal_own (mapM2 (h1.frz (zy79 zy7o xs)) (h2.frz (zy79 zy7r gs))) (zy74 zy7e zy7f) hb hf
theorem own_samep {H : Heap} {y : AV} {xs : List PT} (hb : ∀ t ∈ xs, t.ok) (hn : xs.length ≤ 100000) (h1 : CpR H y 6 xs.length (xs.flatMap ptc)) : byVal (callW gp) H fid.zf0k [y, .is xs.length false (xs.flatMap ptc)] = some (.bool true) :=
 zy1l (mapM2 (h1.frz (zy79 zy7o xs)) zy65) (samep_cv hb hn) rfl
theorem own_sames {H : Heap} {y : AV} {xs : List Sg} (hn : xs.length ≤ 100000) (h1 : CpR H y 3 xs.length (xs.flatMap sgc)) : byVal (callW gp) H fid.zf0l [y, .is xs.length false (xs.flatMap sgc)] = some (.bool true) :=
 zy1l (mapM2 (h1.frz (zy79 zy7r xs)) zy66) (sames_cv hn) rfl
set_option maxHeartbeats 16000000 in
theorem zy9m {xs : List PT} {gs : List Sg} (hx : ∀ t ∈ xs, t.ok) (hs : smlP xs 12) (hg : gs.length ≤ 12) {v : List AV} {e : Int} (hv : CellsOK v 3) (hr : zyem v (some 3) = some (.agg v)) (hk : ∀ h, byVal (callW gp) h fid.zf0j [.is xs.length false (xs.flatMap ptc), .is gs.length false (gs.flatMap sgc)] = some (.tup [.agg v, .int .i64 e])) (hf : flatV (.tup [.agg v, .int .i64 e]) = true)
  (hE : ∀ H k, (zy5n (xs.map askc) ≠ 0 → live H k = some v → zf05.j0 (.is xs.length false (xs.flatMap ptc)) (.is gs.length false (gs.flatMap sgc)) (.rp k 0) (.int .i64 e) (.int .i64 (zy5n (xs.map askc))) H = some (.bool true)))
  (hA : ∀ H k, (zy5n (xs.map askc) = 0 → (xs.length < 2 ∨ ¬ EVs xs.length gs) → live H k = some v → zf05.j0 (.is xs.length false (xs.flatMap ptc)) (.is gs.length false (gs.flatMap sgc)) (.rp k 0) (.int .i64 e) (.int .i64 1) H = some (.bool true)))
  (hO : ∀ H k, (zy5n (xs.map askc) = 0 → 2 ≤ xs.length → EVs xs.length gs → live H k = some v → zf05.j0 (.is xs.length false (xs.flatMap ptc)) (.is gs.length false (gs.flatMap sgc)) (.rp k 0) (.int .i64 e) (.int .i64 0) H = some (.bool true))) :
  cv gp fid.zf05 [.is xs.length false (xs.flatMap ptc), .is gs.length false (gs.flatMap sgc)] = some (.bool true) := by
 have n1 := hs.1
 have hsm : ∀ h, byVal (callW gp) h fid.zf09 [.is xs.length false (xs.flatMap ptc), .int .i64 12] = some (.bool true) := fun h => by
  have := zy2a (xs := xs) (H := h) (x := .is xs.length false (xs.flatMap ptc)) (m := 12) (by decide) zy65
  rw [decide_eq_true hs] at this
  exact this
 have c1 := gtrF (a := (gs.length : Int)) (b := 12) (by omega)
 have bl : opBld [.is 0 true [], .is 0 true [], .is 0 true [], .bool false, .str ⟨#[]⟩, .str ⟨#[]⟩, .bool false, .str ⟨#[]⟩, .str ⟨#[]⟩, .bool false, .str ⟨#[]⟩, .str ⟨#[]⟩, .bool false, .str ⟨#[]⟩, .str ⟨#[]⟩, .bool false, .str ⟨#[]⟩, .str ⟨#[]⟩, .bool false, .str ⟨#[]⟩, .str ⟨#[]⟩, .bool false, .str ⟨#[]⟩, .str ⟨#[]⟩, .bool false, .str ⟨#[]⟩, .str ⟨#[]⟩, .bool false, .str ⟨#[]⟩, .str ⟨#[]⟩, .bool false, .str ⟨#[]⟩, .str ⟨#[]⟩, .bool false, .str ⟨#[]⟩, .str ⟨#[]⟩, .bool false, .str ⟨#[]⟩, .str ⟨#[]⟩] [] = some (.agg [.is 0 true [], .is 0 true [], .is 0 true [], .bool false, .str ⟨#[]⟩, .str ⟨#[]⟩, .bool false, .str ⟨#[]⟩, .str ⟨#[]⟩, .bool false, .str ⟨#[]⟩, .str ⟨#[]⟩, .bool false, .str ⟨#[]⟩, .str ⟨#[]⟩, .bool false, .str ⟨#[]⟩, .str ⟨#[]⟩, .bool false, .str ⟨#[]⟩, .str ⟨#[]⟩, .bool false, .str ⟨#[]⟩, .str ⟨#[]⟩, .bool false, .str ⟨#[]⟩, .str ⟨#[]⟩, .bool false, .str ⟨#[]⟩, .str ⟨#[]⟩, .bool false, .str ⟨#[]⟩, .str ⟨#[]⟩, .bool false, .str ⟨#[]⟩, .str ⟨#[]⟩, .bool false, .str ⟨#[]⟩, .str ⟨#[]⟩]) := Eq.trans rfl rfl
 have s0 : zydm [some [.is 0 true [], .is 0 true [], .is 0 true [], .bool false, .str ⟨#[]⟩, .str ⟨#[]⟩, .bool false, .str ⟨#[]⟩, .str ⟨#[]⟩, .bool false, .str ⟨#[]⟩, .str ⟨#[]⟩, .bool false, .str ⟨#[]⟩, .str ⟨#[]⟩, .bool false, .str ⟨#[]⟩, .str ⟨#[]⟩, .bool false, .str ⟨#[]⟩, .str ⟨#[]⟩, .bool false, .str ⟨#[]⟩, .str ⟨#[]⟩, .bool false, .str ⟨#[]⟩, .str ⟨#[]⟩, .bool false, .str ⟨#[]⟩, .str ⟨#[]⟩, .bool false, .str ⟨#[]⟩, .str ⟨#[]⟩, .bool false, .str ⟨#[]⟩, .str ⟨#[]⟩, .bool false, .str ⟨#[]⟩, .str ⟨#[]⟩]] 39 (.rp 0 0) (.agg [.is 0 true [], .is 0 true [], .is 0 true [], .bool false, .str ⟨#[]⟩, .str ⟨#[]⟩, .bool false, .str ⟨#[]⟩, .str ⟨#[]⟩, .bool false, .str ⟨#[]⟩, .str ⟨#[]⟩, .bool false, .str ⟨#[]⟩, .str ⟨#[]⟩, .bool false, .str ⟨#[]⟩, .str ⟨#[]⟩, .bool false, .str ⟨#[]⟩, .str ⟨#[]⟩, .bool false, .str ⟨#[]⟩, .str ⟨#[]⟩, .bool false, .str ⟨#[]⟩, .str ⟨#[]⟩, .bool false, .str ⟨#[]⟩, .str ⟨#[]⟩, .bool false, .str ⟨#[]⟩, .str ⟨#[]⟩, .bool false, .str ⟨#[]⟩, .str ⟨#[]⟩, .bool false, .str ⟨#[]⟩, .str ⟨#[]⟩]) = some [some [.is 0 true [], .is 0 true [], .is 0 true [], .bool false, .str ⟨#[]⟩, .str ⟨#[]⟩, .bool false, .str ⟨#[]⟩, .str ⟨#[]⟩, .bool false, .str ⟨#[]⟩, .str ⟨#[]⟩, .bool false, .str ⟨#[]⟩, .str ⟨#[]⟩, .bool false, .str ⟨#[]⟩, .str ⟨#[]⟩, .bool false, .str ⟨#[]⟩, .str ⟨#[]⟩, .bool false, .str ⟨#[]⟩, .str ⟨#[]⟩, .bool false, .str ⟨#[]⟩, .str ⟨#[]⟩, .bool false, .str ⟨#[]⟩, .str ⟨#[]⟩, .bool false, .str ⟨#[]⟩, .str ⟨#[]⟩, .bool false, .str ⟨#[]⟩, .str ⟨#[]⟩, .bool false, .str ⟨#[]⟩, .str ⟨#[]⟩]] := Eq.trans rfl rfl
 obtain ⟨y1, T1, a1, p1, q1⟩ := cp_app (H := [some [.is 0 true [], .is 0 true [], .is 0 true [], .bool false, .str ⟨#[]⟩, .str ⟨#[]⟩, .bool false, .str ⟨#[]⟩, .str ⟨#[]⟩, .bool false, .str ⟨#[]⟩, .str ⟨#[]⟩, .bool false, .str ⟨#[]⟩, .str ⟨#[]⟩, .bool false, .str ⟨#[]⟩, .str ⟨#[]⟩, .bool false, .str ⟨#[]⟩, .str ⟨#[]⟩, .bool false, .str ⟨#[]⟩, .str ⟨#[]⟩, .bool false, .str ⟨#[]⟩, .str ⟨#[]⟩, .bool false, .str ⟨#[]⟩, .str ⟨#[]⟩, .bool false, .str ⟨#[]⟩, .str ⟨#[]⟩, .bool false, .str ⟨#[]⟩, .str ⟨#[]⟩, .bool false, .str ⟨#[]⟩, .str ⟨#[]⟩]]) (f := false) (zy9x zye8 xs) (by omega) (List.all_eq_true.2 fun c hc => ((zy79 zy7o xs c hc) 12 (by omega)).1 |> fun _ => by
  obtain ⟨t, _, ht⟩ := List.mem_flatMap.1 hc
  simp [ptc, rtc] at ht
  rcases ht with rfl | rfl | rfl | rfl | rfl | rfl <;> rfl)
 have q1' : ∀ id, y1 = .rs 6 id 0 xs.length → id ≠ 0 := fun id h => by have := q1 id h; simp at this; omega
 simp only [List.cons_append, List.nil_append] at a1 p1
 have s1 := st_0 (T := T1) (a := .is 0 true []) (l := [.is 0 true [], .is 0 true [], .bool false, .str ⟨#[]⟩, .str ⟨#[]⟩, .bool false, .str ⟨#[]⟩, .str ⟨#[]⟩, .bool false, .str ⟨#[]⟩, .str ⟨#[]⟩, .bool false, .str ⟨#[]⟩, .str ⟨#[]⟩, .bool false, .str ⟨#[]⟩, .str ⟨#[]⟩, .bool false, .str ⟨#[]⟩, .str ⟨#[]⟩, .bool false, .str ⟨#[]⟩, .str ⟨#[]⟩, .bool false, .str ⟨#[]⟩, .str ⟨#[]⟩, .bool false, .str ⟨#[]⟩, .str ⟨#[]⟩, .bool false, .str ⟨#[]⟩, .str ⟨#[]⟩, .bool false, .str ⟨#[]⟩, .str ⟨#[]⟩, .bool false, .str ⟨#[]⟩, .str ⟨#[]⟩]) p1.cell
 have p1b := p1.hd (c' := y1 :: [.is 0 true [], .is 0 true [], .bool false, .str ⟨#[]⟩, .str ⟨#[]⟩, .bool false, .str ⟨#[]⟩, .str ⟨#[]⟩, .bool false, .str ⟨#[]⟩, .str ⟨#[]⟩, .bool false, .str ⟨#[]⟩, .str ⟨#[]⟩, .bool false, .str ⟨#[]⟩, .str ⟨#[]⟩, .bool false, .str ⟨#[]⟩, .str ⟨#[]⟩, .bool false, .str ⟨#[]⟩, .str ⟨#[]⟩, .bool false, .str ⟨#[]⟩, .str ⟨#[]⟩, .bool false, .str ⟨#[]⟩, .str ⟨#[]⟩, .bool false, .str ⟨#[]⟩, .str ⟨#[]⟩, .bool false, .str ⟨#[]⟩, .str ⟨#[]⟩, .bool false, .str ⟨#[]⟩, .str ⟨#[]⟩]) q1'
 obtain ⟨y2, T2, a2, p2, q2⟩ := cp_app (H := some (y1 :: [.is 0 true [], .is 0 true [], .bool false, .str ⟨#[]⟩, .str ⟨#[]⟩, .bool false, .str ⟨#[]⟩, .str ⟨#[]⟩, .bool false, .str ⟨#[]⟩, .str ⟨#[]⟩, .bool false, .str ⟨#[]⟩, .str ⟨#[]⟩, .bool false, .str ⟨#[]⟩, .str ⟨#[]⟩, .bool false, .str ⟨#[]⟩, .str ⟨#[]⟩, .bool false, .str ⟨#[]⟩, .str ⟨#[]⟩, .bool false, .str ⟨#[]⟩, .str ⟨#[]⟩, .bool false, .str ⟨#[]⟩, .str ⟨#[]⟩, .bool false, .str ⟨#[]⟩, .str ⟨#[]⟩, .bool false, .str ⟨#[]⟩, .str ⟨#[]⟩, .bool false, .str ⟨#[]⟩, .str ⟨#[]⟩]) :: T1) (f := false) (zy9x zyg0 gs) (by omega) (List.all_eq_true.2 fun c hc => by
  obtain ⟨t, _, ht⟩ := List.mem_flatMap.1 hc
  simp [sgc] at ht
  rcases ht with rfl | rfl | rfl <;> rfl)
 have q2' : ∀ id, y2 = .rs 3 id 0 gs.length → id ≠ 0 := fun id h => by have := q2 id h; simp at this; omega
 have p1c := p1b.app T2
 simp only [List.cons_append, List.nil_append] at a2 p2 p1c
 have s2 := st_1 (T := T1 ++ T2) (a := y1) (b := .is 0 true []) (l := [.is 0 true [], .bool false, .str ⟨#[]⟩, .str ⟨#[]⟩, .bool false, .str ⟨#[]⟩, .str ⟨#[]⟩, .bool false, .str ⟨#[]⟩, .str ⟨#[]⟩, .bool false, .str ⟨#[]⟩, .str ⟨#[]⟩, .bool false, .str ⟨#[]⟩, .str ⟨#[]⟩, .bool false, .str ⟨#[]⟩, .str ⟨#[]⟩, .bool false, .str ⟨#[]⟩, .str ⟨#[]⟩, .bool false, .str ⟨#[]⟩, .str ⟨#[]⟩, .bool false, .str ⟨#[]⟩, .str ⟨#[]⟩, .bool false, .str ⟨#[]⟩, .str ⟨#[]⟩, .bool false, .str ⟨#[]⟩, .str ⟨#[]⟩, .bool false, .str ⟨#[]⟩, .str ⟨#[]⟩]) p2.cell
 have p1d := p1c.hd (c' := y1 :: y2 :: [.is 0 true [], .bool false, .str ⟨#[]⟩, .str ⟨#[]⟩, .bool false, .str ⟨#[]⟩, .str ⟨#[]⟩, .bool false, .str ⟨#[]⟩, .str ⟨#[]⟩, .bool false, .str ⟨#[]⟩, .str ⟨#[]⟩, .bool false, .str ⟨#[]⟩, .str ⟨#[]⟩, .bool false, .str ⟨#[]⟩, .str ⟨#[]⟩, .bool false, .str ⟨#[]⟩, .str ⟨#[]⟩, .bool false, .str ⟨#[]⟩, .str ⟨#[]⟩, .bool false, .str ⟨#[]⟩, .str ⟨#[]⟩, .bool false, .str ⟨#[]⟩, .str ⟨#[]⟩, .bool false, .str ⟨#[]⟩, .str ⟨#[]⟩, .bool false, .str ⟨#[]⟩, .str ⟨#[]⟩]) q1'
 have p2d := p2.hd (c' := y1 :: y2 :: [.is 0 true [], .bool false, .str ⟨#[]⟩, .str ⟨#[]⟩, .bool false, .str ⟨#[]⟩, .str ⟨#[]⟩, .bool false, .str ⟨#[]⟩, .str ⟨#[]⟩, .bool false, .str ⟨#[]⟩, .str ⟨#[]⟩, .bool false, .str ⟨#[]⟩, .str ⟨#[]⟩, .bool false, .str ⟨#[]⟩, .str ⟨#[]⟩, .bool false, .str ⟨#[]⟩, .str ⟨#[]⟩, .bool false, .str ⟨#[]⟩, .str ⟨#[]⟩, .bool false, .str ⟨#[]⟩, .str ⟨#[]⟩, .bool false, .str ⟨#[]⟩, .str ⟨#[]⟩, .bool false, .str ⟨#[]⟩, .str ⟨#[]⟩, .bool false, .str ⟨#[]⟩, .str ⟨#[]⟩]) q2'
 have kl := own_least p1d p2d (hk _) hf
 have s3 := zygj (h := some (y1 :: y2 :: [.is 0 true [], .bool false, .str ⟨#[]⟩, .str ⟨#[]⟩, .bool false, .str ⟨#[]⟩, .str ⟨#[]⟩, .bool false, .str ⟨#[]⟩, .str ⟨#[]⟩, .bool false, .str ⟨#[]⟩, .str ⟨#[]⟩, .bool false, .str ⟨#[]⟩, .str ⟨#[]⟩, .bool false, .str ⟨#[]⟩, .str ⟨#[]⟩, .bool false, .str ⟨#[]⟩, .str ⟨#[]⟩, .bool false, .str ⟨#[]⟩, .str ⟨#[]⟩, .bool false, .str ⟨#[]⟩, .str ⟨#[]⟩, .bool false, .str ⟨#[]⟩, .str ⟨#[]⟩, .bool false, .str ⟨#[]⟩, .str ⟨#[]⟩, .bool false, .str ⟨#[]⟩, .str ⟨#[]⟩]) :: (T1 ++ T2)) (z := [.bool false, .str ⟨#[]⟩, .str ⟨#[]⟩]) (v := v) (n := 3) rfl hv
 have p1e := p1d.app [some v]
 have p2e := p2d.app [some v]
 have sp := own_samep hx (by omega) p1e
 have ss := own_sames (by omega) p2e
 have ka := fun h => k_5asked (h := h) (f := false) hx (by omega)
 have ke := fun h => k_ends (h := h) (xs := gs) (n := xs.length) (by omega)
 have fa0 : zyd1 0 (.rp 0 0) = some (.rp 0 0) := rfl
 have fa1 : zyd1 1 (.rp 0 0) = some (.rp 0 1) := rfl
 have ld0 : ∀ (a : AV) l T, zyd4 (some (a :: l) :: T) none (.rp 0 0) = some a := fun _ _ _ => Eq.trans rfl rfl
 have ld1 : ∀ (a b : AV) l T, zyd4 (some (a :: b :: l) :: T) none (.rp 0 1) = some b := fun _ _ _ _ => Eq.trans rfl rfl
 have le0 : ∀ (a : AV) l T S, zyd4 ((some (a :: l) :: T) ++ S) none (.rp 0 0) = some a := fun _ _ _ _ => Eq.trans rfl rfl
 have le1 : ∀ (a b : AV) l T S, zyd4 ((some (a :: b :: l) :: T) ++ S) none (.rp 0 1) = some b := fun _ _ _ _ _ => Eq.trans rfl rfl
 have hlv : live ((some (y1 :: y2 :: [.is 0 true [], .bool false, .str ⟨#[]⟩, .str ⟨#[]⟩, .bool false, .str ⟨#[]⟩, .str ⟨#[]⟩, .bool false, .str ⟨#[]⟩, .str ⟨#[]⟩, .bool false, .str ⟨#[]⟩, .str ⟨#[]⟩, .bool false, .str ⟨#[]⟩, .str ⟨#[]⟩, .bool false, .str ⟨#[]⟩, .str ⟨#[]⟩, .bool false, .str ⟨#[]⟩, .str ⟨#[]⟩, .bool false, .str ⟨#[]⟩, .str ⟨#[]⟩, .bool false, .str ⟨#[]⟩, .str ⟨#[]⟩, .bool false, .str ⟨#[]⟩, .str ⟨#[]⟩, .bool false, .str ⟨#[]⟩, .str ⟨#[]⟩, .bool false, .str ⟨#[]⟩, .str ⟨#[]⟩]) :: (T1 ++ T2)) ++ [some v]) (some (y1 :: y2 :: [.is 0 true [], .bool false, .str ⟨#[]⟩, .str ⟨#[]⟩, .bool false, .str ⟨#[]⟩, .str ⟨#[]⟩, .bool false, .str ⟨#[]⟩, .str ⟨#[]⟩, .bool false, .str ⟨#[]⟩, .str ⟨#[]⟩, .bool false, .str ⟨#[]⟩, .str ⟨#[]⟩, .bool false, .str ⟨#[]⟩, .str ⟨#[]⟩, .bool false, .str ⟨#[]⟩, .str ⟨#[]⟩, .bool false, .str ⟨#[]⟩, .str ⟨#[]⟩, .bool false, .str ⟨#[]⟩, .str ⟨#[]⟩, .bool false, .str ⟨#[]⟩, .str ⟨#[]⟩, .bool false, .str ⟨#[]⟩, .str ⟨#[]⟩, .bool false, .str ⟨#[]⟩, .str ⟨#[]⟩]) :: (T1 ++ T2)).length = some v := zya9
 rw [zf05.eq]
 unfold zf05.f
 simp only [zy13, cond_t, zy3d, zy6o, zy6n, zy6m, zy6l, zy9y, hsm, notT, notF, c1, bl, s0, fa0, fa1, ld0, ld1, a1, s1, a2, s2, kl, ext0, ext1]
 have lf0 := le0 y1 (y2 :: [.is 0 true [], .bool false, .str ⟨#[]⟩, .str ⟨#[]⟩, .bool false, .str ⟨#[]⟩, .str ⟨#[]⟩, .bool false, .str ⟨#[]⟩, .str ⟨#[]⟩, .bool false, .str ⟨#[]⟩, .str ⟨#[]⟩, .bool false, .str ⟨#[]⟩, .str ⟨#[]⟩, .bool false, .str ⟨#[]⟩, .str ⟨#[]⟩, .bool false, .str ⟨#[]⟩, .str ⟨#[]⟩, .bool false, .str ⟨#[]⟩, .str ⟨#[]⟩, .bool false, .str ⟨#[]⟩, .str ⟨#[]⟩, .bool false, .str ⟨#[]⟩, .str ⟨#[]⟩, .bool false, .str ⟨#[]⟩, .str ⟨#[]⟩, .bool false, .str ⟨#[]⟩, .str ⟨#[]⟩]) (T1 ++ T2) [some v]
 have lf1 := le1 y1 y2 [.is 0 true [], .bool false, .str ⟨#[]⟩, .str ⟨#[]⟩, .bool false, .str ⟨#[]⟩, .str ⟨#[]⟩, .bool false, .str ⟨#[]⟩, .str ⟨#[]⟩, .bool false, .str ⟨#[]⟩, .str ⟨#[]⟩, .bool false, .str ⟨#[]⟩, .str ⟨#[]⟩, .bool false, .str ⟨#[]⟩, .str ⟨#[]⟩, .bool false, .str ⟨#[]⟩, .str ⟨#[]⟩, .bool false, .str ⟨#[]⟩, .str ⟨#[]⟩, .bool false, .str ⟨#[]⟩, .str ⟨#[]⟩, .bool false, .str ⟨#[]⟩, .str ⟨#[]⟩, .bool false, .str ⟨#[]⟩, .str ⟨#[]⟩, .bool false, .str ⟨#[]⟩, .str ⟨#[]⟩] (T1 ++ T2) [some v]
 clear a1 a2 s1 s2 kl p1 p2 p1b p1c p1d p2d p1e p2e q1 q2 q1' q2' bl s0 ld0 ld1 le0 le1 hk s3
 generalize hHH : some (y1 :: y2 :: [.is 0 true [], .bool false, .str ⟨#[]⟩, .str ⟨#[]⟩, .bool false, .str ⟨#[]⟩, .str ⟨#[]⟩, .bool false, .str ⟨#[]⟩, .str ⟨#[]⟩, .bool false, .str ⟨#[]⟩, .str ⟨#[]⟩, .bool false, .str ⟨#[]⟩, .str ⟨#[]⟩, .bool false, .str ⟨#[]⟩, .str ⟨#[]⟩, .bool false, .str ⟨#[]⟩, .str ⟨#[]⟩, .bool false, .str ⟨#[]⟩, .str ⟨#[]⟩, .bool false, .str ⟨#[]⟩, .str ⟨#[]⟩, .bool false, .str ⟨#[]⟩, .str ⟨#[]⟩, .bool false, .str ⟨#[]⟩, .str ⟨#[]⟩, .bool false, .str ⟨#[]⟩, .str ⟨#[]⟩]) :: (T1 ++ T2) = H0 at *
 have s3 := zygj (h := H0) (z := [.bool false, .str ⟨#[]⟩, .str ⟨#[]⟩]) (v := v) (n := 3) rfl hv
 simp only [zy13, s3, lf0, lf1, sp, ss, ka, notT, zy6l, zy3d]
 clear s3 lf0 lf1 sp ss
 generalize hH1 : H0 ++ [some v] = HH at *
 generalize hKK : List.length H0 = KK at *
 by_cases hE0 : zy5n (xs.map askc) = 0
 rotate_left
 ·have q : opBin .eql (.int .i64 (zy5n (xs.map askc))) (.int .i64 0) = some (.bool false) := by rw [eql0, decide_eq_false hE0]
  simp only [zy13, q, zy6n]
  exact hE HH KK hE0 hlv
 have q : opBin .eql (.int .i64 (zy5n (xs.map askc))) (.int .i64 0) = some (.bool true) := by rw [eql0, decide_eq_true hE0]
 by_cases h2 : xs.length < 2
 ·have l2 := lssT (x := (xs.length : Int)) (y := 2) (by omega)
  simp only [zy13, q, zy6o, l2, zy6m]
  exact hA HH KK hE0 (.inl h2) hlv
 have l2 := lssF (x := (xs.length : Int)) (y := 2) (by omega)
 by_cases h3 : EVs xs.length gs
 ·rw [decide_eq_true h3] at ke
  simp only [zy13, q, zy6o, l2, zy6l, ke, notT, zy3d]
  rw [hE0]
  exact hO HH KK hE0 (by omega) h3 hlv
 ·rw [decide_eq_false h3] at ke
  simp only [zy13, q, zy6o, l2, zy6l, ke, notF, cond_t]
  exact hA HH KK hE0 (.inr h3) hlv
end Go.Proofs.YtiblnpnfaadmcaaGreat.Am
