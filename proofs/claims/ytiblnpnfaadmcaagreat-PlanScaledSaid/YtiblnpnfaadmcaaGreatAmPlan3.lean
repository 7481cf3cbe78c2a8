import Derived.Test.YtiblnpnfaadmcaaGreatAmCons2
import Derived.Test.YtiblnpnfaadmcaaGreatAmPlain9b
import Derived.Test.YtiblnpnfaadmcaaGreatAmGeom3w
import Derived.Test.YtiblnpnfaadmcaaGreatTPlan
import Derived.Test.YtiblnpnfaadmcaaGreatTApart
/- Section 09: the small functions of plan. -/
set_option linter.unusedVariables false
set_option maxRecDepth 10000
set_option linter.unusedSimpArgs false
namespace Go.Proofs.YtiblnpnfaadmcaaGreat.Am
open Go

theorem imm_L2p {a b : AV} (ha : Imm 12 a) (hb : Imm 12 b) : ∀ x ∈ [a, b], Imm 12 x := imm_two ha hb
abbrev rcl (q : Rat) : List AV := [.bool (decide (q.num < 0)), str (nb q.num.natAbs), str (nb q.den)]
theorem rcl_rd {q : Rat} : readCells (rcl q) (some 3) = some (ra q) := Eq.trans rfl rfl
abbrev z3 : List AV := [.bool false, .str ⟨#[]⟩, .str ⟨#[]⟩]
theorem notT : opUn .not (.bool true) = some (.bool false) := Eq.trans rfl rfl
theorem notF : opUn .not (.bool false) = some (.bool true) := Eq.trans rfl rfl
theorem st_app3 {h : Heap} {z v : List AV} {n : Nat} (hz : z.length = n) (hv : CellsOK v n) : opStore (h ++ [some z]) n (.rp h.length 0) (.agg v) = some (h ++ [some v]) := by
  rw [st_rp, live_app_self, Option.bind_some, stc_agg hv (by omega), set_app_self, List.take_zero, List.nil_append, Nat.zero_add, List.drop_of_length_le (by omega), List.append_nil]
theorem sidxN {sz n i : Nat} {f : Bool} {cs : List AV} (h : i < n) : opSidx sz (.is n f cs) (.int .i64 (i : Int)) = some (.ip (cs.drop (i * sz))) := by
  have := sidx_is (sz := sz) (n := n) (f := f) (cs := cs) (k := .i64) (z := (i : Int)) (by omega) (by omega)
  simpa using this
theorem lssT {x y : Int} (h : x < y) : opBin .lss (.int .i64 x) (.int .i64 y) = some (.bool true) := by rw [bin_lss, decide_eq_true h]
theorem lssF {x y : Int} (h : ¬ x < y) : opBin .lss (.int .i64 x) (.int .i64 y) = some (.bool false) := by rw [bin_lss, decide_eq_false h]
theorem near_z {ax ay bx b_ cx cy : Rat} (h1 : Rz ax 40) (h2 : Rz ay 40) (h3 : Rz bx 40) (h4 : Rz b_ 40) (h5 : Rz cx 40) (h6 : Rz cy 40) : Rz (nearQ ax ay bx b_ cx cy) 1500 := by
  unfold nearQ
  split
  · exact (Rz_far h5 h6 h1 h2).mono (by omega)
  · split
    · exact (Rz_far h5 h6 h3 h4).mono (by omega)
    · have c : Rz ((bx - ax) * (cy - ay) - (b_ - ay) * (cx - ax)) 400 := (Rz.area h1 h2 h3 h4 h5 h6).mono (by omega)
      have d : Rz ((bx - ax) * (bx - ax) + (b_ - ay) * (b_ - ay)) 400 := (Rz_far h1 h2 h3 h4).mono (by omega)
      exact ((c.mul c).div d).mono (by omega)
theorem zero_z : Rz (0 : Rat) 8 := Rz_int (z := 0) (by decide) (by decide)
theorem apart_z {ax ay bx b_ cx cy dx dy : Rat} (h1 : Rz ax 40) (h2 : Rz ay 40) (h3 : Rz bx 40) (h4 : Rz b_ 40) (h5 : Rz cx 40) (h6 : Rz cy 40) (h7 : Rz dx 40) (h8 : Rz dy 40) : Rz (apartQ ax ay bx b_ cx cy dx dy) 1500 := by
  unfold apartQ
  split
  · exact zero_z.mono (by omega)
  · exact Rz_min (Rz_min (near_z h1 h2 h3 h4 h5 h6) (near_z h1 h2 h3 h4 h7 h8)) (Rz_min (near_z h5 h6 h7 h8 h1 h2) (near_z h5 h6 h7 h8 h3 h4))
theorem far_z40 {ax ay bx b_ : Rat} (h1 : Rz ax 40) (h2 : Rz ay 40) (h3 : Rz bx 40) (h4 : Rz b_ 40) : Rz (farQ ax ay bx b_) 1500 := (Rz_far h1 h2 h3 h4).mono (by omega)
section
variable {h : Heap} {ax ay bx b_ cx cy dx dy x y : Rat}
theorem cmpQ_dec {p q : Rat} : decide (cmpQ p q < 0) = decide (p < q) := by
  unfold cmpQ
  by_cases h1 : p < q
  · rw [if_pos h1]; simp [h1]
  · rw [if_neg h1]; simp only [h1, decide_false]
    split <;> decide
theorem k_pless (hx : Rz x 8000) (hy : Rz y 8000) : byVal (callW gp) h fid.zf0y [ra x, ra y] = some (.bool (decide (x < y))) := byVal_imm (imm_L2 imm_r3 imm_r3) (by
  rw [zf0y.eq]
  unfold zf0y.f
  simp (disch := first | exact dD | fail) only [Wd, W2d, W3d, Nat.reduceAdd, Nat.reduceMul, Nat.reduceSub, k_rcmp, cmpQ_dec])
theorem k_has {s : Sg} {v : Int} : byVal (callW gp) h fid.zf1e [.agg (sgc s), .int .i64 v] = some (.bool (decide (s.a = v) || decide (s.b = v))) := byVal_imm (imm_L2p imm_sg (imm_int.mono (by omega))) (by
  have fa : ∀ k id off, opFaddr k (.rp id off) = some (.rp id (off + k)) := fun _ _ _ => rfl
  have r0 : readCells (sgc s) none = some (.int .i64 s.a) := Eq.trans rfl rfl
  have r1 : readCells (List.drop 1 (sgc s)) none = some (.int .i64 s.b) := Eq.trans rfl rfl
  have q1 : ∀ x y : Int, opBin .eql (.int .i64 x) (.int .i64 y) = some (.bool (decide (x = y))) := fun x y => by
    simp only [opBin, intBin]
    by_cases h : x = y <;> simp [h]
  rw [zf1e.eq]
  unfold zf1e.f
  simp (disch := first | exact dD | fail) only [Wd, W2d, W3d, Nat.reduceAdd, Nat.reduceMul, Nat.reduceSub, fa, r0, r1, q1]
  cases decide (s.a = v)
  · simp (disch := first | exact dD | fail) only [Wd, W2d, W3d, Nat.reduceAdd, Nat.reduceMul, Nat.reduceSub]
    simp
  · simp (disch := first | exact dD | fail) only [Wd, W2d, W3d, Nat.reduceAdd, Nat.reduceMul, Nat.reduceSub]
    simp)
theorem k_pnear (h1 : Rz ax 100) (h2 : Rz ay 100) (h3 : Rz bx 100) (h4 : Rz b_ 100) (h5 : Rz cx 100) (h6 : Rz cy 100) : byVal (callW gp) h fid.zf1q [pa ax ay, pa bx b_, pa cx cy] = some (ra (nearQ ax ay bx b_ cx cy)) := byVal_imm (imm_L3 imm_pa imm_pa imm_pa) (by
  have kn := fun h => k_near (h := h) h1 h2 h3 h4 h5 h6
  rw [zf1q.eq]
  unfold zf1q.f
  simp (disch := first | exact dD | fail) only [Wd, W2d, W3d, Nat.reduceAdd, Nat.reduceMul, Nat.reduceSub, kn])
def lsc : Option Rat → List AV
  | none => z3 ++ [.bool false]
  | some m => rcl m ++ [.bool true]
def UZ (s : Option Rat) (n : Nat) : Prop := ∀ m, s = some m → Rz m n
theorem told_z {s : Option Rat} {d : Rat} {n : Nat} (hs : UZ s n) (hd : Rz d n) : UZ (told s d) n := fun m hm => by
  unfold told at hm
  split at hm
  · cases hm; exact hd
  · split at hm <;> cases hm
    · exact hd
    · exact hs _ rfl
theorem st_at4 {H : Heap} {id : Nat} {a b c d x y z : AV} (hc : [x, y, z].all AV.cell = true) (h : live H id = some [a, b, c, d]) : opStore H 3 (.rp id 0) (.agg [x, y, z]) = some (H.set id (some [x, y, z, d])) := by
  rw [st_rp, h, Option.bind_some, stc_agg (n := 3) (new := [x, y, z]) ⟨rfl, hc⟩ (by simp)]
  rfl
theorem st_b4 {H : Heap} {id : Nat} {a b c d : AV} {v : Bool} (h : live H id = some [a, b, c, d]) : opStore H 1 (.rp id 3) (.bool v) = some (H.set id (some [a, b, c, .bool v])) := by
  rw [st_rp, h, Option.bind_some]
  rfl
theorem live_set {H : Heap} {id : Nat} {v : Option (List AV)} (h : id < H.length) (j : Nat) : live (H.set id v) j = if j = id then v else live H j := by
  unfold live
  rw [List.getElem?_set]
  by_cases h1 : id = j
  · subst h1; rw [if_pos rfl, if_pos rfl, if_pos h]; rfl
  · rw [if_neg h1, if_neg (fun e => h1 e.symm)]
theorem told_j0 {H : Heap} {id k : Nat} {a b c w : AV} {d : Rat} (h1 : live H id = some [a, b, c, w]) (h2 : live H k = some (rcl d)) : ∃ H', zf1a.j0 (.rp id 0) (.rp k 0) (.bool true) H = some (.tup [], H') ∧ live H' id = some (rcl d ++ [.bool true]) ∧ H'.length = H.length ∧ ∀ j, j ≠ id → live H' j = live H j := by
  have fa : ∀ k id off, opFaddr k (.rp id off) = some (.rp id (off + k)) := fun _ _ _ => rfl
  have nc : ∀ id off, opNchk (.rp id off) = some (.rp id off) := fun _ _ => rfl
  have hlt := live_lt h1
  have s1 := st_at4 (H := H) (id := id) (x := .bool (decide (d.num < 0))) (y := str (nb d.num.natAbs)) (z := str (nb d.den)) rfl h1
  have h3 : live (H.set id (some (rcl d ++ [w]))) id = some (rcl d ++ [w]) := by rw [live_set hlt, if_pos rfl]
  have s2 := st_b4 (v := true) h3
  have hlt2 : id < (H.set id (some (rcl d ++ [w]))).length := by simpa using hlt
  refine ⟨(H.set id (some (rcl d ++ [w]))).set id (some (rcl d ++ [.bool true])), ?_, by rw [live_set hlt2, if_pos rfl], by simp, fun j hj => by rw [live_set hlt2, if_neg hj, live_set hlt, if_neg hj]⟩
  unfold zf1a.j0
  simp (disch := first | exact dD | fail) only [Wd, W2d, W3d, Nat.reduceAdd, Nat.reduceMul, Nat.reduceSub, fa, nc, h2, rcl_rd, s1]
  rw [st_rp] at s2
  simp only [List.cons_append, List.nil_append] at s2 ⊢
  rw [s2]
  rfl
set_option maxHeartbeats 4000000 in
theorem c_ptold {H : Heap} {id : Nat} {s : Option Rat} {d : Rat} (hl : live H id = some (lsc s)) (hd : Rz d 8000) (hs : UZ s 8000) : ∃ H', callW gp fid.zf1a [.rp id 0, ra d] H = some (.tup [], H') ∧ live H' id = some (lsc (told s d)) ∧ H'.length = H.length + 1 ∧ ∀ j, j ≠ id → j < H.length → live H' j = live H j := by
  have fa : ∀ k id off, opFaddr k (.rp id off) = some (.rp id (off + k)) := fun _ _ _ => rfl
  have nc : ∀ id off, opNchk (.rp id off) = some (.rp id off) := fun _ _ => rfl
  have hid := live_lt hl
  have g1 : live (H ++ [some (rcl d)]) id = some (lsc s) := live_app_old hl
  have g2 : live (H ++ [some (rcl d)]) H.length = some (rcl d) := live_app_self
  have hb : opBox H (ra d) = some (.rp H.length 0, H ++ [some (rcl d)]) := rfl
  have keep : ∀ {H'}, (∀ j, j ≠ id → live H' j = live (H ++ [some (rcl d)]) j) → ∀ j, j ≠ id → j < H.length → live H' j = live H j := fun h j h1 h2 => by rw [h j h1, live_app_ne h2]
  rw [zf1a.eq]
  unfold zf1a.f
  cases s with
  | none =>
    have g1' : live (H ++ [some (rcl d)]) id = some [.bool false, .str ⟨#[]⟩, .str ⟨#[]⟩, .bool false] := g1
    obtain ⟨H', e1, e2, e3, e4⟩ := told_j0 (d := d) g1' g2
    refine ⟨H', ?_, e2, by simpa using e3, keep e4⟩
    have r3 : opLoad (H ++ [some (rcl d)]) none (.rp id 3) = some (.bool false) := by
      show (live (H ++ [some (rcl d)]) id).bind _ = _
      rw [g1']; rfl
    simp (disch := first | exact dD | fail) only [Wd, W2d, W3d, Nat.reduceAdd, Nat.reduceMul, Nat.reduceSub, hb, fa, nc, r3, notT, notF]
    exact e1
  | some m =>
    have g1' : live (H ++ [some (rcl d)]) id = some [.bool (decide (m.num < 0)), str (nb m.num.natAbs), str (nb m.den), .bool true] := g1
    have r3 : opLoad (H ++ [some (rcl d)]) none (.rp id 3) = some (.bool true) := by
      show (live (H ++ [some (rcl d)]) id).bind _ = _
      rw [g1']; rfl
    have r0 : opLoad (H ++ [some (rcl d)]) (some 3) (.rp id 0) = some (ra m) := by
      show (live (H ++ [some (rcl d)]) id).bind _ = _
      rw [g1']; rfl
    have kp := fun h => k_pless (h := h) hd (hs m rfl)
    by_cases hlt : d < m
    · rw [decide_eq_true hlt] at kp
      obtain ⟨H', e1, e2, e3, e4⟩ := told_j0 (d := d) g1' g2
      refine ⟨H', ?_, ?_, by simpa using e3, keep e4⟩
      · simp (disch := first | exact dD | fail) only [Wd, W2d, W3d, Nat.reduceAdd, Nat.reduceMul, Nat.reduceSub, hb, fa, nc, r3, r0, notT, notF, g2, rcl_rd, kp]
        exact e1
      · rw [show told (some m) d = if d < m then some d else some m from rfl, if_pos hlt]; exact e2
    · rw [decide_eq_false hlt] at kp
      refine ⟨H ++ [some (rcl d)], ?_, ?_, by simp, keep fun _ _ => rfl⟩
      · simp (disch := first | exact dD | fail) only [Wd, W2d, W3d, Nat.reduceAdd, Nat.reduceMul, Nat.reduceSub, hb, fa, nc, r3, r0, notT, notF, g2, rcl_rd, kp]
        unfold zf1a.j0
        rfl
      · rw [show told (some m) d = if d < m then some d else some m from rfl, if_neg hlt]; exact g1
end
end Go.Proofs.YtiblnpnfaadmcaaGreat.Am

/- Section 09: all distances that count, told one by one. -/
set_option linter.unusedVariables false
set_option maxRecDepth 10000
set_option linter.unusedSimpArgs false
namespace Go.Proofs.YtiblnpnfaadmcaaGreat.Am
open Go

def PZ (ps : List (Rat × Rat)) : Prop := ∀ i, i < ps.length → Rz (px ps i) 40 ∧ Rz (py ps i) 40
def SV (n : Nat) (ss : List Sq) : Prop := ∀ i, i < ss.length → (sat ss i).1 < n ∧ (sat ss i).2.1 < n
def RdOk (rd : List AV → Heap → Option Heap) (id oid : Nat) : Prop := ∀ (H : Heap) (st : Option Rat) (d : Rat), live H id = some [] → live H oid = some (lsc st) → UZ st 8000 → Rz d 8000 → ∃ H', rd [ra d] H = some H' ∧ live H' oid = some (lsc (told st d)) ∧ H.length ≤ H'.length ∧ ∀ j, j ≠ oid → j < H.length → live H' j = live H j
structure Env (H : Heap) (id oid lid sid : Nat) (ps : List (Rat × Rat)) (ss : List Sq) (st : Option Rat) : Prop where
  y : live H id = some []
  o : live H oid = some (lsc st)
  l : live H lid = some [.is ps.length false (pcs ps)]
  s : live H sid = some [.is ss.length false (scs ss)]
  z : UZ st 8000
  n1 : id ≠ oid
  n2 : lid ≠ oid
  n3 : sid ≠ oid
  r : live H 0 = some z3
  n0 : 0 ≠ oid
theorem hasY_of {H : Heap} {id : Nat} (h : live H id = some []) : hasY id H = true := by unfold hasY; rw [h]
section
variable {rd : List AV → Heap → Option Heap} {id oid lid sid : Nat} {ps : List (Rat × Rat)} {ss : List Sq}
theorem Env.app {H : Heap} {st : Option Rat} (e : Env H id oid lid sid ps ss st) (x : Option (List AV)) : Env (H ++ [x]) id oid lid sid ps ss st :=
  ⟨live_app_old e.y, live_app_old e.o, live_app_old e.l, live_app_old e.s, e.z, e.n1, e.n2, e.n3, live_app_old e.r, e.n0⟩
theorem Env.round {H : Heap} {st : Option Rat} {d : Rat} (hr : RdOk rd id oid) (e : Env H id oid lid sid ps ss st) (hd : Rz d 8000) : ∃ H', rd [ra d] H = some H' ∧ Env H' id oid lid sid ps ss (told st d) ∧ ∀ j, j ≠ oid → j < H.length → live H' j = live H j := by
  obtain ⟨H', h1, h2, h3, h4⟩ := hr H st d e.y e.o e.z hd
  exact ⟨H', h1, ⟨by rw [h4 id e.n1 (live_lt e.y)]; exact e.y, h2, by rw [h4 lid e.n2 (live_lt e.l)]; exact e.l, by rw [h4 sid e.n3 (live_lt e.s)]; exact e.s, told_z e.z hd, e.n1, e.n2, e.n3, by rw [h4 0 e.n0 (live_lt e.r)]; exact e.r, e.n0⟩, h4⟩
theorem px_take {i k : Nat} (h : k < i) : px (ps.take i) k = px ps k ∧ py (ps.take i) k = py ps k := by
  unfold px py
  simp only [List.getD, List.getElem?_take, if_pos h]
  exact ⟨trivial, trivial⟩
theorem sat_take {i k : Nat} (h : k < i) : sat (ss.take i) k = sat ss k := by
  unfold sat
  simp only [List.getD, List.getElem?_take, if_pos h]
theorem slc_pcs {n i : Nat} {f : Bool} (h : i ≤ n) : ∃ fl, opSlc 6 (.is n f (pcs ps)) none (some (.int .i64 (i : Int))) none = some (.is i fl (pcs (ps.take i))) := by
  refine ⟨fullOf none f i n n, ?_⟩
  have := slc_hd (xs := ps.map pc) (fl := f) (k := .i64) ptc_len h
  unfold pcs
  rw [this, List.map_take]
theorem slc_scs {n i : Nat} {f : Bool} (h : i ≤ n) : ∃ fl, opSlc 3 (.is n f (scs ss)) none (some (.int .i64 (i : Int))) none = some (.is i fl (scs (ss.take i))) := by
  refine ⟨fullOf none f i n n, ?_⟩
  have := slc_hd (xs := ss.map sq_) (fl := f) (k := .i64) sgc_len h
  unfold scs
  rw [this, List.map_take]
def ptC (ps : List (Rat × Rat)) (i : Nat) : List AV := [.bool (decide ((px ps i).num < 0)), str (nb (px ps i).num.natAbs), str (nb (px ps i).den), .bool (decide ((py ps i).num < 0)), str (nb (py ps i).num.natAbs), str (nb (py ps i).den)]
theorem ptC_rd {i : Nat} : readCells (ptC ps i) (some 6) = some (pa (px ps i) (py ps i)) := Eq.trans rfl rfl
def sqC (ss : List Sq) (i : Nat) : List AV := sgc (sq_ (sat ss i))
theorem sqC_rd {i : Nat} : readCells (sqC ss i) (some 3) = some (.agg (sgc (sq_ (sat ss i)))) := Eq.trans rfl rfl
theorem sqC_a {i : Nat} : readCells (sqC ss i) none = some (.int .i64 ((sat ss i).1 : Int)) := Eq.trans rfl rfl
theorem sqC_b {i : Nat} : readCells (List.drop 1 (sqC ss i)) none = some (.int .i64 ((sat ss i).2.1 : Int)) := Eq.trans rfl rfl
def Ends (x : Option Heap) (P : Heap → Prop) : Prop := ∃ H, x = some H ∧ P H
theorem range_cons {k m : Nat} : List.range' k (m + 1) = k :: List.range' (k + 1) m := rfl
theorem dec_has {s : Sq} {i : Nat} : (decide ((sq_ s).a = (i : Int)) || decide ((sq_ s).b = (i : Int))) = has s i := by
  unfold has sq_
  simp only [Int.natCast_inj]
set_option maxHeartbeats 8000000 in
theorem it_l1 (hr : RdOk rd id oid) (hz : PZ ps) (hn : ps.length ≤ 1000) {i pid : Nat} (hi : i < ps.length) (hp : pid ≠ oid) {fl : Bool} {y16 y17 : AV} {P : Heap → Prop} : ∀ (m k : Nat) (H : Heap) (st : Option Rat), k + m = i → Env H id oid lid sid ps ss st → live H pid = some (ptC ps i) →
    (∀ H' y42 y43, y42 = .is ss.length false (scs ss) → y43 = .int .i64 (ss.length : Int) → Env H' id oid lid sid ps ss (((List.range' k m).map (dF ps i)).foldl told st) → live H' pid = some (ptC ps i) → Ends (zf1x.l2 id rd (.yld id) (.rp lid 0) (.rp sid 0) (.int .i64 (i : Int)) (.rp pid 0) y16 y17 (.int .i64 (i : Int)) y42 y43 (.int .i64 ((0 : Nat) : Int)) H') P) →
    Ends (zf1x.l1 id rd (.yld id) (.rp lid 0) (.rp sid 0) (.int .i64 (i : Int)) (.rp pid 0) y16 y17 (.int .i64 (i : Int)) (.is i fl (pcs (ps.take i))) (.int .i64 (i : Int)) (.int .i64 (k : Int)) H) P := by
  intro m
  induction m with
  | zero =>
    intro k H st hk e h5 hR
    obtain rfl : k = i := by omega
    have lk : opBin .lss (.int .i64 (k : Int)) (.int .i64 (k : Int)) = some (.bool false) := lssF (by omega)
    have l2 : opLoad H none (.rp sid 0) = some (.is ss.length false (scs ss)) := by
      show (live H sid).bind _ = _
      rw [e.s]; rfl
    rw [zf1x.l1_eq]
    simp (disch := first | exact dD | fail) only [Wd, W2d, W3d, Nat.reduceAdd, Nat.reduceMul, Nat.reduceSub, lk, l2]
    exact hR H _ _ rfl rfl e h5
  | succ m ih =>
    intro k H st hk e h5 hR
    have hki : k < i := by omega
    have lk : opBin .lss (.int .i64 (k : Int)) (.int .i64 (i : Int)) = some (.bool true) := lssT (by omega)
    have sx := sidxN (sz := 6) (f := fl) (cs := pcs (ps.take i)) hki
    have ea := pcs_at (ps := ps.take i) (i := k) (by rw [List.length_take]; omega)
    rw [(px_take hki).1, (px_take hki).2] at ea
    obtain ⟨zi1, zi2⟩ := hz i hi
    obtain ⟨zk1, zk2⟩ := hz k (by omega)
    have kf := fun h => k_far (h := h) (zi1.mono (by omega)) (zi2.mono (by omega)) (zk1.mono (by omega)) (zk2.mono (by omega))
    have dz : Rz (dF ps i k) 8000 := (far_z40 zi1 zi2 zk1 zk2).mono (by omega)
    have s1 := st_app3 (h := H) (z := [.bool false, .str ⟨#[]⟩, .str ⟨#[]⟩, .bool false, .str ⟨#[]⟩, .str ⟨#[]⟩]) (v := ptC ps k) (n := 6) rfl ⟨rfl, rfl⟩
    have s2 := st_app3 (h := H ++ [some (ptC ps k)]) (z := [.bool false, .str ⟨#[]⟩, .str ⟨#[]⟩]) (v := rcl (dF ps i k)) (n := 3) rfl ⟨rfl, rfl⟩
    have g5 : live (H ++ [some (ptC ps k)]) pid = some (ptC ps i) := live_app_old h5
    have gq : live (H ++ [some (ptC ps k)]) H.length = some (ptC ps k) := live_app_self
    have e2 := (e.app (some (ptC ps k))).app (some (rcl (dF ps i k)))
    have gd : live (H ++ [some (ptC ps k)] ++ [some (rcl (dF ps i k))]) (H ++ [some (ptC ps k)]).length = some (rcl (dF ps i k)) := live_app_self
    obtain ⟨H', c1, c2, c3⟩ := e2.round hr dz
    have cy := fun K => callK_yld (C := callW gp) (refm := gp.refm) (K := K) (R := Heap) (hasY_of e2.y) c1
    have h5' : live H' pid = some (ptC ps i) := by
      rw [c3 pid hp (by have := live_lt h5; simp; omega)]; exact live_app_old g5
    have hR' := ih (k + 1) H' (told st (dF ps i k)) (by omega) c2 h5' (fun H' y42 y43 q1 q2 => by
      have := hR H' y42 y43 q1 q2
      rwa [range_cons, List.map_cons, List.foldl_cons] at this)
    rw [zf1x.l1_eq]
    have kf' : ∀ h, byVal (callW gp) h fid.zf1y [pa (px ps i) (py ps i), pa (px ps k) (py ps k)] = some (.tup [ra (dF ps i k), .int .i64 0]) := kf
    have s1' : opStore (H ++ [some [.bool false, .str ⟨#[]⟩, .str ⟨#[]⟩, .bool false, .str ⟨#[]⟩, .str ⟨#[]⟩]]) 6 (.rp H.length 0) (pa (px ps k) (py ps k)) = some (H ++ [some (ptC ps k)]) := s1
    have rx : readCells ((pcs (ps.take i)).drop (k * 6)) (some 6) = some (pa (px ps k) (py ps k)) := by rw [ea]; exact Eq.trans rfl rfl
    generalize dF ps i k = d at *
    simp (disch := first | exact dD | fail) only [Wd, W2d, W3d, Nat.reduceAdd, Nat.reduceMul, Nat.reduceSub, lk, sx, rx, s1', g5, gq, ptC_rd, kf', s2, gd, rcl_rd, cy, notT]
    exact hR'
theorem nears_cons {s : Sq} {l : List Sq} {i : Nat} {st : Option Rat} : (nears ps (s :: l) i).foldl told st = (nears ps l i).foldl told (if has s i = true then st else told st (dN ps s i)) := by
  unfold nears
  rw [List.filter_cons]
  cases has s i
  · simp
  · simp
set_option maxHeartbeats 16000000 in
theorem it_l2 (hr : RdOk rd id oid) (hz : PZ ps) (hsv : SV ps.length ss) (hn : ps.length ≤ 1000) (hm : ss.length ≤ 1000) {i pid : Nat} (hi : i < ps.length) (hp : pid ≠ oid) {y16 y17 : AV} {P : Heap → Prop} : ∀ (m k : Nat) (H : Heap) (st : Option Rat), k + m = ss.length → Env H id oid lid sid ps ss st → live H pid = some (ptC ps i) →
    (∀ H', Env H' id oid lid sid ps ss ((nears ps (ss.drop k) i).foldl told st) → Ends (zf1x.l0 id rd (.yld id) (.rp lid 0) (.rp sid 0) y16 y17 (.int .i64 ((i + 1 : Nat) : Int)) H') P) →
    Ends (zf1x.l2 id rd (.yld id) (.rp lid 0) (.rp sid 0) (.int .i64 (i : Int)) (.rp pid 0) y16 y17 (.int .i64 (i : Int)) (.is ss.length false (scs ss)) (.int .i64 (ss.length : Int)) (.int .i64 (k : Int)) H) P := by
  have fa : ∀ k id off, opFaddr k (.rp id off) = some (.rp id (off + k)) := fun _ _ _ => rfl
  intro m
  induction m with
  | zero =>
    intro k H st hk e h5 hR
    obtain rfl : k = ss.length := by omega
    have lk : opBin .lss (.int .i64 (ss.length : Int)) (.int .i64 (ss.length : Int)) = some (.bool false) := lssF (by omega)
    rw [zf1x.l2_eq]
    simp (disch := first | exact dD | fail) only [Wd, W2d, W3d, Nat.reduceAdd, Nat.reduceMul, Nat.reduceSub, lk]
    rw [List.drop_length] at hR
    exact hR H e
  | succ m ih =>
    intro k H st hk e h5 hR
    have hks : k < ss.length := by omega
    have lk : opBin .lss (.int .i64 (k : Int)) (.int .i64 (ss.length : Int)) = some (.bool true) := lssT (by omega)
    have sx := sidxN (sz := 3) (f := false) (cs := scs ss) hks
    have ea := scs_at hks
    have esk : ss[k] = sat ss k := by unfold sat; simp [List.getD, List.getElem?_eq_getElem hks]
    rw [List.drop_eq_getElem_cons hks, esk] at hR
    obtain ⟨v1, v2⟩ := hsv k hks
    obtain ⟨zi1, zi2⟩ := hz i hi
    obtain ⟨za1, za2⟩ := hz _ v1
    obtain ⟨zb1, zb2⟩ := hz _ v2
    have kn := fun h => k_pnear (h := h) (za1.mono (by omega)) (za2.mono (by omega)) (zb1.mono (by omega)) (zb2.mono (by omega)) (zi1.mono (by omega)) (zi2.mono (by omega))
    have kn' : ∀ h, byVal (callW gp) h fid.zf1q [pa (px ps (sat ss k).1) (py ps (sat ss k).1), pa (px ps (sat ss k).2.1) (py ps (sat ss k).2.1), pa (px ps i) (py ps i)] = some (ra (dN ps (sat ss k) i)) := kn
    have dz : Rz (dN ps (sat ss k) i) 8000 := (near_z za1 za2 zb1 zb2 zi1 zi2).mono (by omega)
    have s1 := st_app3 (h := H) (z := [.int .i64 0, .int .i64 0, .bool false]) (v := sqC ss k) (n := 3) rfl ⟨rfl, rfl⟩
    have s1' : opStore (H ++ [some [.int .i64 0, .int .i64 0, .bool false]]) 3 (.rp H.length 0) (.agg (sgc (sq_ (sat ss k)))) = some (H ++ [some (sqC ss k)]) := s1
    have rx : readCells ((scs ss).drop (k * 3)) (some 3) = some (.agg (sgc (sq_ (sat ss k)))) := by rw [ea]; exact Eq.trans rfl rfl
    have kh := fun h => k_has (h := h) (s := sq_ (sat ss k)) (v := (i : Int))
    rw [dec_has] at kh
    have gq : live (H ++ [some (sqC ss k)]) H.length = some (sqC ss k) := live_app_self
    have e2 := e.app (some (sqC ss k))
    have gl : opLoad (H ++ [some (sqC ss k)]) none (.rp lid 0) = some (.is ps.length false (pcs ps)) := by
      show (live (H ++ [some (sqC ss k)]) lid).bind _ = _
      rw [e2.l]; rfl
    have g5 : live (H ++ [some (sqC ss k)]) pid = some (ptC ps i) := live_app_old h5
    have xa := sidxN (sz := 6) (f := false) (cs := pcs ps) v1
    have xb := sidxN (sz := 6) (f := false) (cs := pcs ps) v2
    have ra_ : readCells ((pcs ps).drop ((sat ss k).1 * 6)) (some 6) = some (pa (px ps (sat ss k).1) (py ps (sat ss k).1)) := by rw [pcs_at v1]; exact Eq.trans rfl rfl
    have rb_ : readCells ((pcs ps).drop ((sat ss k).2.1 * 6)) (some 6) = some (pa (px ps (sat ss k).2.1) (py ps (sat ss k).2.1)) := by rw [pcs_at v2]; exact Eq.trans rfl rfl
    rw [zf1x.l2_eq]
    cases hh : has (sat ss k) i with
    | true =>
      rw [hh] at kh
      have hR' := ih (k + 1) (H ++ [some (sqC ss k)]) st (by omega) e2 g5 (fun H' => by
        have := hR H'
        rwa [nears_cons, hh, if_pos rfl] at this)
      simp (disch := first | exact dD | fail) only [Wd, W2d, W3d, Nat.reduceAdd, Nat.reduceMul, Nat.reduceSub, lk, sx, rx, s1', gq, sqC_rd, kh, notT]
      exact hR'
    | false =>
      rw [hh] at kh
      obtain ⟨H', c1, c2, c3⟩ := e2.round hr dz
      have cy := fun K => callK_yld (C := callW gp) (refm := gp.refm) (K := K) (R := Heap) (hasY_of e2.y) c1
      have h5' : live H' pid = some (ptC ps i) := by
        rw [c3 pid hp (by have := live_lt h5; simp; omega)]; exact g5
      have hR' := ih (k + 1) H' _ (by omega) c2 h5' (fun H' => by
        have := hR H'
        rwa [nears_cons, hh, if_neg (by simp)] at this)
      generalize dN ps (sat ss k) i = d at *
      simp (disch := first | exact dD | fail) only [Wd, W2d, W3d, Nat.reduceAdd, Nat.reduceMul, Nat.reduceSub, lk, sx, rx, s1', gq, sqC_rd, kh, notF, notT, gl, fa, sqC_a, sqC_b, xa, xb, ra_, rb_, g5, ptC_rd, kn', cy]
      exact hR'
set_option maxHeartbeats 8000000 in
theorem it_l0 (hr : RdOk rd id oid) (hz : PZ ps) (hsv : SV ps.length ss) (hn : ps.length ≤ 1000) (hm : ss.length ≤ 1000) {P : Heap → Prop} : ∀ (m i : Nat) (H : Heap) (st : Option Rat), i + m = ps.length → Env H id oid lid sid ps ss st →
    (∀ H', Env H' id oid lid sid ps ss (((List.range' i m).flatMap (row1 ps ss)).foldl told st) → Ends (zf1x.l3 id rd (.yld id) (.rp lid 0) (.rp sid 0) (.is ss.length false (scs ss)) (.int .i64 (ss.length : Int)) (.int .i64 ((0 : Nat) : Int)) H') P) →
    Ends (zf1x.l0 id rd (.yld id) (.rp lid 0) (.rp sid 0) (.is ps.length false (pcs ps)) (.int .i64 (ps.length : Int)) (.int .i64 (i : Int)) H) P := by
  intro m
  induction m with
  | zero =>
    intro i H st hi e hR
    obtain rfl : i = ps.length := by omega
    have lk : opBin .lss (.int .i64 (ps.length : Int)) (.int .i64 (ps.length : Int)) = some (.bool false) := lssF (by omega)
    have l2 : opLoad H none (.rp sid 0) = some (.is ss.length false (scs ss)) := by
      show (live H sid).bind _ = _
      rw [e.s]; rfl
    rw [zf1x.l0_eq]
    simp (disch := first | exact dD | fail) only [Wd, W2d, W3d, Nat.reduceAdd, Nat.reduceMul, Nat.reduceSub, lk, l2]
    exact hR H e
  | succ m ih =>
    intro i H st him e hR
    have hi : i < ps.length := by omega
    have lk : opBin .lss (.int .i64 (i : Int)) (.int .i64 (ps.length : Int)) = some (.bool true) := lssT (by omega)
    have sx := sidxN (sz := 6) (f := false) (cs := pcs ps) hi
    have rx : readCells ((pcs ps).drop (i * 6)) (some 6) = some (pa (px ps i) (py ps i)) := by rw [pcs_at hi]; exact Eq.trans rfl rfl
    have s1 := st_app3 (h := H) (z := [.bool false, .str ⟨#[]⟩, .str ⟨#[]⟩, .bool false, .str ⟨#[]⟩, .str ⟨#[]⟩]) (v := ptC ps i) (n := 6) rfl ⟨rfl, rfl⟩
    have s1' : opStore (H ++ [some [.bool false, .str ⟨#[]⟩, .str ⟨#[]⟩, .bool false, .str ⟨#[]⟩, .str ⟨#[]⟩]]) 6 (.rp H.length 0) (pa (px ps i) (py ps i)) = some (H ++ [some (ptC ps i)]) := s1
    have e2 := e.app (some (ptC ps i))
    have gl : opLoad (H ++ [some (ptC ps i)]) none (.rp lid 0) = some (.is ps.length false (pcs ps)) := by
      show (live (H ++ [some (ptC ps i)]) lid).bind _ = _
      rw [e2.l]; rfl
    obtain ⟨fl, sl⟩ := slc_pcs (ps := ps) (n := ps.length) (f := false) (i := i) (by omega)
    have hp : H.length ≠ oid := fun hh => by have := live_lt e.o; omega
    have hg := it_l1 (lid := lid) (sid := sid) (y16 := .is ps.length false (pcs ps)) (y17 := .int .i64 (ps.length : Int)) (fl := fl) hr hz hn hi hp (P := P) i 0 (H ++ [some (ptC ps i)]) st (by omega) e2 live_app_self (fun H' y42 y43 q1 q2 e3 h5 => by
      subst q1; subst q2
      refine it_l2 hr hz hsv hn hm hi hp ss.length 0 H' _ (by omega) e3 h5 fun H4 e4 => ?_
      refine ih (i + 1) H4 _ (by omega) e4 fun H5 e5 => hR H5 ?_
      rw [List.drop_zero] at e5
      rw [range_cons, List.flatMap_cons, List.foldl_append]
      unfold row1 at e5 ⊢
      rw [List.foldl_append]
      exact e5)
    rw [zf1x.l0_eq]
    simp (disch := first | exact dD | fail) only [Wd, W2d, W3d, Nat.reduceAdd, Nat.reduceMul, Nat.reduceSub, lk, sx, rx, s1', gl, sl]
    exact hg
theorem aparts_cons {i k : Nat} {l : List Nat} {st : Option Rat} : (aparts ps ss i (k :: l)).foldl told st = (aparts ps ss i l).foldl told (if (!has (sat ss k) (sat ss i).1 && !has (sat ss k) (sat ss i).2.1) = true then told st (dA ps (sat ss i) (sat ss k)) else st) := by
  unfold aparts
  rw [List.filter_cons]
  cases (!has (sat ss k) (sat ss i).1 && !has (sat ss k) (sat ss i).2.1)
  · simp
  · simp
end
end Go.Proofs.YtiblnpnfaadmcaaGreat.Am

/- Section 09: how far segments are apart. -/
set_option linter.unusedVariables false
set_option maxRecDepth 10000
set_option linter.unusedSimpArgs false
namespace Go.Proofs.YtiblnpnfaadmcaaGreat.Am
open Go

theorem told4 {a b c d : Rat} : told (told (told (told none a) b) c) d = some (minQ (minQ a b) (minQ c d)) := by
  unfold told minQ
  dsimp only
  by_cases h1 : b < a
  · rw [if_pos h1]
    dsimp only
    by_cases h2 : c < b
    · rw [if_pos h2]
      dsimp only
      by_cases h3 : d < c <;> simp only [h3, if_true, if_false] <;> grind
    · rw [if_neg h2]
      dsimp only
      by_cases h3 : d < b <;> simp only [h3, if_true, if_false] <;> grind
  · rw [if_neg h1]
    dsimp only
    by_cases h2 : c < a
    · rw [if_pos h2]
      dsimp only
      by_cases h3 : d < c <;> simp only [h3, if_true, if_false] <;> grind
    · rw [if_neg h2]
      dsimp only
      by_cases h3 : d < a <;> simp only [h3, if_true, if_false] <;> grind
abbrev pcl (x y : Rat) : List AV := [.bool (decide (x.num < 0)), str (nb x.num.natAbs), str (nb x.den), .bool (decide (y.num < 0)), str (nb y.num.natAbs), str (nb y.den)]
theorem st_set3 {H : Heap} {id : Nat} {z : List AV} {a b c : AV} (hc : [a, b, c].all AV.cell = true) (h : live H id = some z) (hz : z.length = 3) : opStore H 3 (.rp id 0) (.agg [a, b, c]) = some (H.set id (some [a, b, c])) := by
  have q : z.drop 3 = [] := List.drop_of_length_le (by omega)
  rw [st_rp, h, Option.bind_some, stc_agg (n := 3) (new := [a, b, c]) ⟨rfl, hc⟩ (by omega), List.take_zero, List.nil_append, Nat.zero_add, q, List.append_nil]
section
variable {h : Heap} {ax ay bx b_ cx cy dx dy : Rat}
set_option maxHeartbeats 16000000 in
theorem k_papart (h1 : Rz ax 40) (h2 : Rz ay 40) (h3 : Rz bx 40) (h4 : Rz b_ 40) (h5 : Rz cx 40) (h6 : Rz cy 40) (h7 : Rz dx 40) (h8 : Rz dy 40) : byVal (callW gp) h fid.zf14 [pa ax ay, pa bx b_, pa cx cy, pa dx dy] = some (ra (apartQ ax ay bx b_ cx cy dx dy)) := byVal_imm (imm_L4 imm_pa imm_pa imm_pa imm_pa) (by
  have m : ∀ {r : Rat}, Rz r 40 → Rz r 100 := fun h => h.mono (by omega)
  have km := fun h => k_gmeet (h := h) (m h1) (m h2) (m h3) (m h4) (m h5) (m h6) (m h7) (m h8)
  have fa : ∀ k id off, opFaddr k (.rp id off) = some (.rp id (off + k)) := fun _ _ _ => rfl
  rw [zf14.eq]
  unfold zf14.f
  by_cases hm : meetQ ax ay bx b_ cx cy dx dy ≠ 0
  · have e : apartQ ax ay bx b_ cx cy dx dy = 0 := by unfold apartQ; rw [if_pos hm]
    rw [e]
    have nq : opBin .neq (.int .i64 (meetQ ax ay bx b_ cx cy dx dy)) (.int .i64 0) = some (.bool true) := by rw [bin_neq]; exact congrArg (fun b => some (AV.bool b)) (decide_eq_true hm)
    have o0 : ∀ h, byVal (callW gp) h fid.rat_Of [.int .i64 0] = some (ra 0) := fun h => k_rof (z := 0) (by decide) (by decide)
    simp (disch := first | exact dD | fail) only [Wd, W2d, W3d, Nat.reduceAdd, Nat.reduceMul, Nat.reduceSub, km, nq, o0]
  · have e : apartQ ax ay bx b_ cx cy dx dy = minQ (minQ (nearQ ax ay bx b_ cx cy) (nearQ ax ay bx b_ dx dy)) (minQ (nearQ cx cy dx dy ax ay) (nearQ cx cy dx dy bx b_)) := by unfold apartQ; rw [if_neg hm]
    rw [e]
    have nq : opBin .neq (.int .i64 (meetQ ax ay bx b_ cx cy dx dy)) (.int .i64 0) = some (.bool false) := by rw [bin_neq]; exact congrArg (fun b => some (AV.bool b)) (decide_eq_false hm)
    have k1 := fun h => k_pnear (h := h) (m h1) (m h2) (m h3) (m h4) (m h5) (m h6)
    have k2 := fun h => k_pnear (h := h) (m h1) (m h2) (m h3) (m h4) (m h7) (m h8)
    have k3 := fun h => k_pnear (h := h) (m h5) (m h6) (m h7) (m h8) (m h1) (m h2)
    have k4 := fun h => k_pnear (h := h) (m h5) (m h6) (m h7) (m h8) (m h3) (m h4)
    have n1 : Rz (nearQ ax ay bx b_ cx cy) 8000 := (near_z h1 h2 h3 h4 h5 h6).mono (by omega)
    have n2 : Rz (nearQ ax ay bx b_ dx dy) 8000 := (near_z h1 h2 h3 h4 h7 h8).mono (by omega)
    have n3 : Rz (nearQ cx cy dx dy ax ay) 8000 := (near_z h5 h6 h7 h8 h1 h2).mono (by omega)
    have n4 : Rz (nearQ cx cy dx dy bx b_) 8000 := (near_z h5 h6 h7 h8 h3 h4).mono (by omega)
    generalize nearQ ax ay bx b_ cx cy = d1 at *
    generalize nearQ ax ay bx b_ dx dy = d2 at *
    generalize nearQ cx cy dx dy ax ay = d3 at *
    generalize nearQ cx cy dx dy bx b_ = d4 at *
    have u0 : UZ none 8000 := fun m hm => by cases hm
    obtain ⟨H1, p1, p2, p3, p4⟩ := c_ptold (H := [some (pcl ax ay), some (pcl bx b_), some (pcl cx cy), some (pcl dx dy), some z3, some (lsc none)]) (id := 5) (s := none) rfl n1 u0
    obtain ⟨H2, q1, q2, q3, q4⟩ := c_ptold (id := 5) p2 n2 (told_z u0 n1)
    obtain ⟨H3, r1, r2, r3, r4⟩ := c_ptold (id := 5) q2 n3 (told_z (told_z u0 n1) n2)
    obtain ⟨H4, s1, s2, s3, s4⟩ := c_ptold (id := 5) r2 n4 (told_z (told_z (told_z u0 n1) n2) n3)
    simp only [List.length_cons, List.length_nil, Nat.zero_add] at p3
    have t1 : ∀ j x, j < 5 → live [some (pcl ax ay), some (pcl bx b_), some (pcl cx cy), some (pcl dx dy), some z3, some (lsc none)] j = some x → live H1 j = some x ∧ live H2 j = some x ∧ live H3 j = some x ∧ live H4 j = some x := fun j x hj hx => by
      have w1 := p4 j (by omega) (by simp; omega)
      have w2 := q4 j (by omega) (by omega)
      have w3 := r4 j (by omega) (by omega)
      have w4 := s4 j (by omega) (by omega)
      exact ⟨by rw [w1, hx], by rw [w2, w1, hx], by rw [w3, w2, w1, hx], by rw [w4, w3, w2, w1, hx]⟩
    obtain ⟨a1, a2, a3, _⟩ := t1 0 _ (by omega) rfl
    obtain ⟨b1, b2, b3, _⟩ := t1 1 _ (by omega) rfl
    obtain ⟨c1, c2, c3, _⟩ := t1 2 _ (by omega) rfl
    obtain ⟨e1, e2, e3, _⟩ := t1 3 _ (by omega) rfl
    obtain ⟨_, _, _, g4⟩ := t1 4 _ (by omega) rfl
    rw [told4] at s2
    generalize minQ (minQ d1 d2) (minQ d3 d4) = M at *
    have rM : readCells (lsc (some M)) (some 3) = some (ra M) := Eq.trans rfl rfl
    have hs := st_set3 (a := .bool (decide (M.num < 0))) (b := str (nb M.num.natAbs)) (c := str (nb M.den)) rfl g4 rfl
    have gl : live (H4.set 4 (some (rcl M))) 4 = some (rcl M) := by rw [live_set (live_lt g4), if_pos rfl]
    have p1' : callW gp fid.zf1a [.rp 5 0, ra d1] [some (pcl ax ay), some (pcl bx b_), some (pcl cx cy), some (pcl dx dy), some z3, some [.bool false, .str ⟨#[]⟩, .str ⟨#[]⟩, .bool false]] = some (.tup [], H1) := p1
    rw [st_rp] at hs
    simp (disch := first | exact dD | fail) only [Wd, W2d, W3d, Nat.reduceAdd, Nat.reduceMul, Nat.reduceSub, km, nq, k1, k2, k3, k4, p1', q1, r1, s1, a1, a2, a3, b1, b2, b3, c1, c2, c3, e1, e2, e3, fa, s2, rM, hs, gl, rcl_rd]
    )
end
end Go.Proofs.YtiblnpnfaadmcaaGreat.Am
