import Derived.Test.YtechbfodaallkaaGreatAmWell1
import Derived.Test.YtechbfodaallkaaGreatAmSharp
/- Well: what two segments have in common; points on segments; what is called of pairs. -/
set_option linter.unusedVariables false
set_option maxRecDepth 10000
set_option linter.unusedSimpArgs false
namespace Go.Proofs.YtechbfodaallkaaGreat.Am
open Go

/-- A point's cells, and a segment with points' numbers. -/
def pc (p : Rat × Rat) : PT := (rt p.1, rt p.2)
abbrev Sq := Nat × Nat × Bool
def sq_ (s : Sq) : Sg := ⟨s.1, s.2.1, s.2.2⟩
def px (ps : List (Rat × Rat)) (i : Nat) : Rat := (ps.getD i (0, 0)).1
def py (ps : List (Rat × Rat)) (i : Nat) : Rat := (ps.getD i (0, 0)).2
/-- The points' row. -/
def pcs (ps : List (Rat × Rat)) : List AV := (ps.map pc).flatMap ptc
def scs (ss : List Sq) : List AV := (ss.map sq_).flatMap sgc
theorem pcs_at {ps : List (Rat × Rat)} {i : Nat} (hi : i < ps.length) : (pcs ps).drop (i * 6) = .bool (decide ((px ps i).num < 0)) :: str (nb (px ps i).num.natAbs) :: str (nb (px ps i).den) :: .bool (decide ((py ps i).num < 0)) :: str (nb (py ps i).num.natAbs) :: str (nb (py ps i).den) :: pcs (ps.drop (i + 1)) := by
  have hm : i < (ps.map pc).length := by rw [List.length_map]; exact hi
  have e : ps.getD i (0, 0) = ps[i] := by simp [List.getD, List.getElem?_eq_getElem hi]
  unfold pcs px py
  rw [drop_flatMap ptc_len, List.drop_eq_getElem_cons hm, List.flatMap_cons, e, List.getElem_map, List.map_drop]
  rfl
def sat (ss : List Sq) (i : Nat) : Sq := ss.getD i (0, 0, false)
theorem scs_at {ss : List Sq} {i : Nat} (hi : i < ss.length) : (scs ss).drop (i * 3) = .int .i64 ((sat ss i).1 : Int) :: .int .i64 ((sat ss i).2.1 : Int) :: .bool (sat ss i).2.2 :: scs (ss.drop (i + 1)) := by
  have hm : i < (ss.map sq_).length := by rw [List.length_map]; exact hi
  have e : ss.getD i (0, 0, false) = ss[i] := by simp [List.getD, List.getElem?_eq_getElem hi]
  unfold scs sat
  rw [drop_flatMap sgc_len, List.drop_eq_getElem_cons hm, List.flatMap_cons, e, List.getElem_map, List.map_drop]
  rfl
theorem imm_pcs (ps : List (Rat × Rat)) : ∀ c ∈ pcs ps, Imm 1 c := imm_flat imm_ptc _
theorem imm_scs (ss : List Sq) : ∀ c ∈ scs ss, Imm 1 c := imm_flat imm_sgc _
theorem pcs_len (ps : List (Rat × Rat)) : (pcs ps).length = ps.length * 6 := by unfold pcs; rw [len_flatMap ptc_len, List.length_map]
def sharedF (s t : Sg) : Int × Int × Int × Bool :=
  if s.a = t.a then (s.a, s.b, t.b, true) else if s.a = t.b then (s.a, s.b, t.a, true) else if s.b = t.a then (s.b, s.a, t.b, true) else if s.b = t.b then (s.b, s.a, t.a, true) else (0, 0, 0, false)
theorem frz_iib {h : Heap} {a b c : Int} {d : Bool} : freeze h (.tup [.int .i64 a, .int .i64 b, .int .i64 c, .bool d]) = some (.tup [.int .i64 a, .int .i64 b, .int .i64 c, .bool d]) := Eq.trans rfl rfl
theorem wl0 : ((0 : Nat) : Int) = 0 := rfl
theorem wl1 : ((1 : Nat) : Int) = 1 := rfl
theorem wl2 : ((2 : Nat) : Int) = 2 := rfl
theorem wi0 : opBin .add (.int .i64 0) (.int .i64 1) = some (.int .i64 1) := Eq.trans rfl rfl
theorem wi1 : opBin .add (.int .i64 1) (.int .i64 1) = some (.int .i64 2) := Eq.trans rfl rfl
section
variable {h : Heap} {s t : Sg}
theorem c_shared : byVal (callW gp) h fid.well_shared [.agg (sgc s), .agg (sgc t)] = some (.tup [.int .i64 (sharedF s t).1, .int .i64 (sharedF s t).2.1, .int .i64 (sharedF s t).2.2.1, .bool (sharedF s t).2.2.2]) := byVal_imm (imm_L2 imm_sg imm_sg) (by
  obtain ⟨a, b, f⟩ := s
  obtain ⟨c, d, g⟩ := t
  rw [well_shared.eq]
  unfold well_shared.f sharedF sgc
  simp only
  simp (disch := first | exact dD | fail) only [Wd, W2d, W3d, Nat.reduceAdd, Nat.reduceMul, Nat.reduceSub]
  rw [well_shared.l0_eq]
  by_cases h1 : a = c
  · rw [if_pos h1]
    simp (disch := first | exact dD | fail) only [Wd, W2d, W3d, Nat.reduceAdd, Nat.reduceMul, Nat.reduceSub, cond_d, decide_eq_true h1, frz_iib]
  by_cases h2 : a = d
  · rw [if_neg h1, if_pos h2]
    simp (disch := first | exact dD | fail) only [Wd, W2d, W3d, Nat.reduceAdd, Nat.reduceMul, Nat.reduceSub, cond_d, decide_eq_false h1, decide_eq_true h2, frz_iib]
  rw [if_neg h1, if_neg h2]
  simp (disch := first | exact dD | fail) only [Wd, W2d, W3d, Nat.reduceAdd, Nat.reduceMul, Nat.reduceSub, wl0, wl1, wi0, decide_eq_false h1, decide_eq_false h2, frz_iib]
  rw [well_shared.l0_eq]
  by_cases h3 : b = c
  · rw [if_pos h3]
    simp (disch := first | exact dD | fail) only [Wd, W2d, W3d, Nat.reduceAdd, Nat.reduceMul, Nat.reduceSub, wl0, wl1, wi0, wi1, decide_eq_true h3, frz_iib]
  by_cases h4 : b = d
  · rw [if_neg h3, if_pos h4]
    simp (disch := first | exact dD | fail) only [Wd, W2d, W3d, Nat.reduceAdd, Nat.reduceMul, Nat.reduceSub, wl0, wl1, wi0, wi1, decide_eq_false h3, decide_eq_true h4, frz_iib]
  rw [if_neg h3, if_neg h4]
  simp (disch := first | exact dD | fail) only [Wd, W2d, W3d, Nat.reduceAdd, Nat.reduceMul, Nat.reduceSub, wl0, wl1, wi0, wi1, decide_eq_false h3, decide_eq_false h4, frz_iib]
  rw [well_shared.l0_eq]
  simp (disch := first | exact dD | fail) only [Wd, W2d, W3d, Nat.reduceAdd, Nat.reduceMul, Nat.reduceSub, wl0, wl1, wl2, wi0, wi1, frz_iib])
variable {ax ay bx b_ cx cy : Rat}
theorem c_won (h1 : Rz ax 100) (h2 : Rz ay 100) (h3 : Rz bx 100) (h4 : Rz b_ 100) (h5 : Rz cx 100) (h6 : Rz cy 100) : byVal (callW gp) h fid.well_on [pa ax ay, pa bx b_, pa cx cy] = some (.bool (decide (onP ax ay bx b_ cx cy))) := byVal_imm (imm_L3 imm_pa imm_pa imm_pa) (by
  rw [well_on.eq]
  unfold well_on.f
  simp (disch := first | exact dD | fail) only [Wd, W2d, W3d, Nat.reduceAdd, Nat.reduceMul, Nat.reduceSub, k_gOn])
end
/-- Points of few bytes. -/
def PsZ (ps : List (Rat × Rat)) (n : Nat) : Prop := ∀ p ∈ ps, Rz p.1 n ∧ Rz p.2 n
theorem PsZ.x {ps : List (Rat × Rat)} {n i : Nat} (h : PsZ ps n) (hi : i < ps.length) : Rz (px ps i) n ∧ Rz (py ps i) n := by
  have e : ps.getD i (0, 0) = ps[i] := by simp [List.getD, List.getElem?_eq_getElem hi]
  unfold px py
  rw [e]
  exact h _ (List.getElem_mem hi)
theorem ext3 {a b c d : AV} : opExt 3 (.tup [a, b, c, d]) = some d := Eq.trans rfl rfl
/-! ### What is called of pairs -/
def eqI (ps : List (Rat × Rat)) (i k : Nat) : Bool := decide (px ps i = px ps k ∧ py ps i = py ps k)
theorem pc_get {ps : List (Rat × Rat)} {i : Nat} (hi : i < (ps.map pc).length) : (ps.map pc)[i]'hi = (rt (px ps i), rt (py ps i)) := by
  have hi' : i < ps.length := by rwa [List.length_map] at hi
  have e : ps.getD i (0, 0) = ps[i] := by simp [List.getD, List.getElem?_eq_getElem hi']
  rw [List.getElem_map]
  unfold px py
  rw [e]; rfl
theorem sq_get {ss : List Sq} {i : Nat} (hi : i < (ss.map sq_).length) : (ss.map sq_)[i]'hi = sq_ (sat ss i) := by
  have hi' : i < ss.length := by rwa [List.length_map] at hi
  have e : ss.getD i (0, 0, false) = ss[i] := by simp [List.getD, List.getElem?_eq_getElem hi']
  rw [List.getElem_map]
  unfold sat
  rw [e]
theorem tells1 (ps : List (Rat × Rat)) : TellsP (ps.map pc) (.fn fid.well_First_1 []) (eqI ps) := by
  intro i k hi hk h K
  rw [pc_get hi, pc_get hk, callfn rfl]
  have : byVal (callW gp) h fid.well_First_1 [pa (px ps i) (py ps i), pa (px ps k) (py ps k)] = some (.bool (eqI ps i k)) := byVal_imm (imm_L2 imm_pa imm_pa) (by
    rw [well_First_1.eq]
    unfold well_First_1.f eqI
    simp (disch := first | exact dD | fail) only [Wd, W2d, W3d, Nat.reduceAdd, Nat.reduceMul, Nat.reduceSub, eqa_p])
  exact congrArg (fun o => Option.bind o fun v => K v h) this
abbrev capP (ps : List (Rat × Rat)) : AV := .ip [.is ps.length false (pcs ps)]
theorem imm_capP {ps : List (Rat × Rat)} : Imm 12 (capP ps) := (imm_ip (d := 2) (fun c hc => by
  rcases List.mem_cons.1 hc with rfl | hc
  · exact imm_is (imm_pcs ps)
  · cases hc)).mono (by omega)
/-- Have two segments a point in common that is no end of both? -/
def crossI (ps : List (Rat × Rat)) (s t : Sq) : Bool :=
  if (sharedF (sq_ s) (sq_ t)).2.2.2 = true then decide ((sharedF (sq_ s) (sq_ t)).2.1 = (sharedF (sq_ s) (sq_ t)).2.2.1)
  else decide (¬ meetQ (px ps s.1) (py ps s.1) (px ps s.2.1) (py ps s.2.1) (px ps t.1) (py ps t.1) (px ps t.2.1) (py ps t.2.1) = 0)
/-- A segment's ends are points, and unlike. -/
def SqOk (n : Nat) (s : Sq) : Prop := s.1 < n ∧ s.2.1 < n ∧ s.1 ≠ s.2.1
theorem imm_L3' {a b c : AV} (ha : Imm 12 a) (hb : Imm 12 b) (hc : Imm 12 c) : ∀ x ∈ [a, b, c], Imm 12 x := imm_three ha hb hc
theorem c_first2 {h : Heap} {ps : List (Rat × Rat)} {s t : Sq} (hz : PsZ ps 100) (hs : SqOk ps.length s) (ht : SqOk ps.length t) : byVal (callW gp) h fid.well_First_2 [.agg (sgc (sq_ s)), .agg (sgc (sq_ t)), capP ps] = some (.bool (crossI ps s t)) := byVal_imm (imm_L3' imm_sg imm_sg imm_capP) (by
  have ks := fun h => c_shared (h := h) (s := sq_ s) (t := sq_ t)
  rw [well_First_2.eq]
  unfold well_First_2.f crossI
  obtain ⟨a, b, f⟩ := s
  obtain ⟨c, d, g⟩ := t
  obtain ⟨a1, b1, n1⟩ := hs
  obtain ⟨c1, d1, n2⟩ := ht
  simp only at a1 b1 c1 d1
  have ea := pcs_at a1
  have eb := pcs_at b1
  have ec := pcs_at c1
  have ed := pcs_at d1
  have km := fun h => k_gmeet (h := h) (hz.x a1).1 (hz.x a1).2 (hz.x b1).1 (hz.x b1).2 (hz.x c1).1 (hz.x c1).2 (hz.x d1).1 (hz.x d1).2
  generalize sharedF (sq_ (a, b, f)) (sq_ (c, d, g)) = r at *
  obtain ⟨r1, r2, r3, r4⟩ := r
  unfold sgc sq_ at *
  simp only at *
  cases r4
  · rw [if_neg (by decide)]
    simp (disch := first | exact dD | fail) only [Wd, W2d, W3d, Nat.reduceAdd, Nat.reduceMul, Nat.reduceSub, ext3, ks, ea, eb, ec, ed, km]
  · rw [if_pos rfl]
    simp (disch := first | exact dD | fail) only [Wd, W2d, W3d, Nat.reduceAdd, Nat.reduceMul, Nat.reduceSub, ext3, ks])
theorem tells2 {ps : List (Rat × Rat)} {ss : List Sq} (hz : PsZ ps 100) (hs : ∀ s ∈ ss, SqOk ps.length s) : TellsS (ss.map sq_) (.fn fid.well_First_2 [capP ps]) (fun i k => crossI ps (sat ss i) (sat ss k)) := by
  intro i k hi hk h K
  have g : ∀ i, i < (ss.map sq_).length → SqOk ps.length (sat ss i) := fun i hi => by
    have hi' : i < ss.length := by rwa [List.length_map] at hi
    have e : ss.getD i (0, 0, false) = ss[i] := by simp [List.getD, List.getElem?_eq_getElem hi']
    unfold sat; rw [e]; exact hs _ (List.getElem_mem hi')
  rw [sq_get hi, sq_get hk, callfn rfl]
  exact congrArg (fun o => Option.bind o fun v => K v h) (c_first2 hz (g i hi) (g k hk))
/-- Is the angle at a common end sharp? -/
def sharpI (ps : List (Rat × Rat)) (s t : Sq) : Bool :=
  if (sharedF (sq_ s) (sq_ t)).2.2.2 = true then sharpQ (px ps (sharedF (sq_ s) (sq_ t)).2.1.toNat) (py ps (sharedF (sq_ s) (sq_ t)).2.1.toNat) (px ps (sharedF (sq_ s) (sq_ t)).1.toNat) (py ps (sharedF (sq_ s) (sq_ t)).1.toNat) (px ps (sharedF (sq_ s) (sq_ t)).2.2.1.toNat) (py ps (sharedF (sq_ s) (sq_ t)).2.2.1.toNat)
  else false
theorem shared_ok {n : Nat} {s t : Sq} (hs : SqOk n s) (ht : SqOk n t) (h : (sharedF (sq_ s) (sq_ t)).2.2.2 = true) : ∃ at_ x y : Nat, sharedF (sq_ s) (sq_ t) = ((at_ : Int), (x : Int), (y : Int), true) ∧ at_ < n ∧ x < n ∧ y < n ∧ x ≠ at_ ∧ y ≠ at_ := by
  obtain ⟨a, b, f⟩ := s
  obtain ⟨c, d, g⟩ := t
  obtain ⟨a1, b1, n1⟩ := hs
  obtain ⟨c1, d1, n2⟩ := ht
  simp only at a1 b1 c1 d1 n1 n2
  unfold sharedF sq_ at *
  simp only at *
  by_cases h1 : (a : Int) = c
  · rw [if_pos h1]
    exact ⟨a, b, d, rfl, a1, b1, d1, fun h => n1 h.symm, fun h => by omega⟩
  rw [if_neg h1] at h ⊢
  by_cases h2 : (a : Int) = d
  · rw [if_pos h2]
    exact ⟨a, b, c, rfl, a1, b1, c1, fun h => n1 h.symm, fun h => by omega⟩
  rw [if_neg h2] at h ⊢
  by_cases h3 : (b : Int) = c
  · rw [if_pos h3]
    exact ⟨b, a, d, rfl, b1, a1, d1, fun h => n1 h, fun h => by omega⟩
  rw [if_neg h3] at h ⊢
  by_cases h4 : (b : Int) = d
  · rw [if_pos h4]
    exact ⟨b, a, c, rfl, b1, a1, c1, fun h => n1 h, fun h => by omega⟩
  · rw [if_neg h4] at h
    cases h
theorem c_first3 {h : Heap} {ps : List (Rat × Rat)} {s t : Sq} (hz : PsZ ps 100) (hd : ∀ i k, i < ps.length → k < ps.length → i ≠ k → eqI ps i k = false) (hs : SqOk ps.length s) (ht : SqOk ps.length t) : byVal (callW gp) h fid.well_First_3 [.agg (sgc (sq_ s)), .agg (sgc (sq_ t)), capP ps] = some (.bool (sharpI ps s t)) := byVal_imm (imm_L3' imm_sg imm_sg imm_capP) (by
  have ks := fun h => c_shared (h := h) (s := sq_ s) (t := sq_ t)
  rw [well_First_3.eq]
  unfold well_First_3.f sharpI
  by_cases hh : (sharedF (sq_ s) (sq_ t)).2.2.2 = true
  rotate_left
  · rw [if_neg hh]
    have hf : (sharedF (sq_ s) (sq_ t)).2.2.2 = false := by cases h : (sharedF (sq_ s) (sq_ t)).2.2.2 <;> simp_all
    rw [hf] at ks
    unfold sgc at *
    simp (disch := first | exact dD | fail) only [Wd, W2d, W3d, Nat.reduceAdd, Nat.reduceMul, Nat.reduceSub, ext3, ks]
  rw [if_pos hh]
  obtain ⟨c, x, y, e, c1, x1, y1, n1, n2⟩ := shared_ok hs ht hh
  rw [e] at ks ⊢
  have d1 : ¬ (px ps x = px ps c ∧ py ps x = py ps c) := by simpa [eqI] using hd x c x1 c1 n1
  have d2 : ¬ (px ps y = px ps c ∧ py ps y = py ps c) := by simpa [eqI] using hd y c y1 c1 n2
  have k := fun h => k_sharp (h := h) (hz.x x1).1 (hz.x x1).2 (hz.x c1).1 (hz.x c1).2 (hz.x y1).1 (hz.x y1).2 d1 d2
  have ea := pcs_at c1
  have eb := pcs_at x1
  have ec := pcs_at y1
  simp only [Int.toNat_natCast]
  unfold sgc at *
  simp (disch := first | exact dD | fail) only [Wd, W2d, W3d, Nat.reduceAdd, Nat.reduceMul, Nat.reduceSub, ext3, ks, ea, eb, ec, k])
theorem tells3 {ps : List (Rat × Rat)} {ss : List Sq} (hz : PsZ ps 100) (hd : ∀ i k, i < ps.length → k < ps.length → i ≠ k → eqI ps i k = false) (hs : ∀ s ∈ ss, SqOk ps.length s) : TellsS (ss.map sq_) (.fn fid.well_First_3 [capP ps]) (fun i k => sharpI ps (sat ss i) (sat ss k)) := by
  intro i k hi hk h K
  have g : ∀ i, i < (ss.map sq_).length → SqOk ps.length (sat ss i) := fun i hi => by
    have hi' : i < ss.length := by rwa [List.length_map] at hi
    have e : ss.getD i (0, 0, false) = ss[i] := by simp [List.getD, List.getElem?_eq_getElem hi']
    unfold sat; rw [e]; exact hs _ (List.getElem_mem hi')
  rw [sq_get hi, sq_get hk, callfn rfl]
  exact congrArg (fun o => Option.bind o fun v => K v h) (c_first3 hz hd (g i hi) (g k hk))
end Go.Proofs.YtechbfodaallkaaGreat.Am
