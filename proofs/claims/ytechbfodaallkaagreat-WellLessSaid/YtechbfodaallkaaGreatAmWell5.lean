import Derived.Test.YtechbfodaallkaaGreatAmGeom2w
import Derived.Test.YtechbfodaallkaaGreatTPlan
import Derived.Test.YtechbfodaallkaaGreatAmSharp
import Derived.Test.YtechbfodaallkaaGreatAmPolyC
/- Well: segments; the first pair of which something holds. -/
set_option linter.unusedVariables false
set_option maxRecDepth 10000
set_option linter.unusedSimpArgs false
namespace Go.Proofs.YtechbfodaallkaaGreat.Am
open Go

theorem imm_ip {d : Nat} {cs : List AV} (hc : ∀ c ∈ cs, Imm d c) : Imm (d + 1) (.ip cs) := fun m hm => by
  cases m with
  | zero => omega
  | succ m => exact ⟨imm_all hc (n := m) (by omega), fun hp => by show (cs.mapM (freezeN m hp)).map AV.ip = _; rw [imm_mapM hc (by omega)]; rfl⟩
theorem imm_fn {d f : Nat} {cs : List AV} (hc : ∀ c ∈ cs, Imm d c) : Imm (d + 1) (.fn f cs) := fun m hm => by
  cases m with
  | zero => omega
  | succ m => exact ⟨imm_all hc (n := m) (by omega), fun hp => by show (cs.mapM (freezeN m hp)).map (AV.fn f) = _; rw [imm_mapM hc (by omega)]; rfl⟩
/-- A segment. -/
structure Sg where
  a : Int
  b : Int
  f : Bool
def sgc (s : Sg) : List AV := [.int .i64 s.a, .int .i64 s.b, .bool s.f]
theorem sgc_len (s : Sg) : (sgc s).length = 3 := rfl
theorem imm_sgc (s : Sg) : ∀ c ∈ sgc s, Imm 1 c := imm_three imm_int imm_int imm_bool
theorem imm_sg {s : Sg} : Imm 12 (.agg (sgc s)) := (imm_agg (imm_sgc s)).mono (by omega)
theorem callfn {R : Type} {h : Heap} {f : Nat} {caps args : List AV} {K : AV → Heap → Option R} (hr : gp.refm f = false) : callK' (callW gp) gp.refm h (.fn f caps) args K = (byVal (callW gp) h f (args ++ caps)).bind fun v => K v h := by
  unfold callK'
  simp only [hr, cond_false]
theorem take_fm {α : Type} {f : α → List AV} {n : Nat} (hf : ∀ x, (f x).length = n) : ∀ (xs : List α) (i : Nat), (xs.flatMap f).take (i * n) = (xs.take i).flatMap f
  | xs, 0 => by simp
  | [], i + 1 => by simp
  | x :: xs, i + 1 => by
    rw [List.flatMap_cons, List.take_succ_cons, List.flatMap_cons, Nat.add_mul, Nat.one_mul, Nat.add_comm, ← hf x, List.take_append, List.take_of_length_le (by omega)]
    rw [show (f x).length + i * (f x).length - (f x).length = i * (f x).length by omega, hf x, take_fm hf xs i]
theorem slcc_is {sz n : Nat} {f : Bool} {cs : List AV} {lo hi : Option AV} : opSlcc sz (.is n f cs) lo hi = opSlc sz (.is n f cs) lo hi none := Eq.trans rfl rfl
theorem slc_hd {α : Type} {f : α → List AV} {sz n i : Nat} {fl : Bool} {xs : List α} {k : IntKind} (hf : ∀ x, (f x).length = sz) (h : i ≤ n) : opSlc sz (.is n fl (xs.flatMap f)) none (some (.int k (i : Int))) none = some (.is i (fullOf none fl i n n) ((xs.take i).flatMap f)) := by
  rw [← take_fm hf]
  have h0 : (0 : Int) ≤ (i : Int) := by omega
  simp only [opSlc, bnd, if_pos h0, Option.bind_some, Int.toNat_natCast]
  rw [if_pos ⟨by omega, h, by omega⟩]
  simp
/-- The first number, from k on, of which something holds. -/
def scan (P : Nat → Bool) : Nat → Nat → Option Nat
  | 0, _ => none
  | m + 1, k => if P k = true then some k else scan P m (k + 1)
/-- The first pair, the greater number first. -/
def pairF (P : Nat → Nat → Bool) : Nat → Nat → Option (Nat × Nat)
  | 0, _ => none
  | m + 1, i => match scan (P i) i 0 with
    | some k => some (i, k)
    | none => pairF P m (i + 1)
abbrev z3i : List AV := [.int .i64 0, .int .i64 0, .int .i64 0]
abbrev fd (e i k : Int) : AV := .agg [.int .i64 e, .int .i64 i, .int .i64 k]
def found (e : Int) : Option (Nat × Nat) → AV
  | some (i, k) => fd e i k
  | none => .agg z3i
theorem frz_i3 {h : Heap} {a b c : Int} : freeze h (.agg [.int .i64 a, .int .i64 b, .int .i64 c]) = some (.agg [.int .i64 a, .int .i64 b, .int .i64 c]) := Eq.trans rfl rfl
theorem lv_app {h : Heap} {id : Nat} {x : Option (List AV)} {cs : List AV} (hi : id < h.length) (hl : live h id = some cs) : live (h ++ [x]) id = some cs := (live_old hi).trans hl

section
variable {xs : List Sg} {e : Int} {fv : AV} {P : Nat → Nat → Bool} {i : Nat}
/-- What is called tells whether it holds of two. -/
def TellsS (xs : List Sg) (fv : AV) (P : Nat → Nat → Bool) : Prop := ∀ (i k : Nat) (hi : i < xs.length) (hk : k < xs.length) (h : Heap) (K : AV → Heap → Option AV), callK' (callW gp) gp.refm h fv [.agg (sgc (xs[i]'hi)), .agg (sgc (xs[k]'hk))] K = K (.bool (P i k)) h
theorem pairsS_l1 (hP : TellsS xs fv P) (hi : i < xs.length) (hn : xs.length ≤ 100000) {fl : Bool} {RR : Option AV} {j : Nat} {yy : AV} {y0 y11 : AV} : ∀ (m k : Nat) (hh : Heap), k + m = i → 0 < hh.length → live hh 0 = some z3i → j < hh.length → live hh j = some (sgc (xs[i]'hi)) →
    (∀ hh', 0 < hh'.length → live hh' 0 = some z3i → well_pairs_api_Seg.l0 y0 (.int .i64 e) fv (.rp 0 0) y11 yy (.int .i64 ((i + 1 : Nat) : Int)) hh' = RR) →
    well_pairs_api_Seg.l1 y0 (.int .i64 e) fv (.rp 0 0) (.int .i64 (i : Int)) (.rp j 0) y11 yy (.int .i64 (i : Int)) (.is i fl ((xs.take i).flatMap sgc)) (.int .i64 (i : Int)) (.int .i64 (k : Int)) hh = match scan (P i) m k with | some k' => some (fd e i k') | none => RR := by
  intro m
  induction m with
  | zero =>
    intro k hh hkm h0 hl0 hj hlj hR
    obtain rfl : k = i := by omega
    rw [well_pairs_api_Seg.l1_eq]
    simp (disch := first | exact dD | fail) only [Wd, W2d, W3d, Nat.reduceAdd, Nat.reduceMul, Nat.reduceSub]
    exact hR hh h0 hl0
  | succ m ih =>
    intro k hh hkm h0 hl0 hj hlj hR
    rw [well_pairs_api_Seg.l1_eq]
    have hk : k < xs.length := by omega
    have hkt : k < (xs.take i).length := by rw [List.length_take]; omega
    have ex : (xs.take i)[k]'hkt = xs[k]'hk := List.getElem_take
    have e1 : ((xs.take i).flatMap sgc).drop (k * 3) = .int .i64 (xs[k]'hk).a :: .int .i64 (xs[k]'hk).b :: .bool (xs[k]'hk).f :: ((xs.take i).drop (k + 1)).flatMap sgc := by
      rw [drop_flatMap sgc_len, List.drop_eq_getElem_cons hkt, List.flatMap_cons, ex]; rfl
    have hp := hP i k hi hk
    have a0 : ∀ x, live (hh ++ [x]) 0 = some z3i := fun x => lv_app h0 hl0
    have aj : ∀ x, live (hh ++ [x]) j = some (sgc (xs[i]'hi)) := fun x => lv_app hj hlj
    have av : ∀ x cs, live ((hh ++ [x]).set 0 (some cs)) 0 = some cs := fun x cs => live_set_self (a0 x)
    have g := fun x => ih (k + 1) (hh ++ [x]) (by omega) (by rw [List.length_append]; omega) (a0 x) (by rw [List.length_append]; omega) (aj x) hR
    unfold sgc at hp aj

    rw [scan]
    by_cases hb : P i k = true
    · rw [hb] at hp
      rw [if_pos hb]
      simp (disch := first | exact dD | fail) only [Wd, W2d, W3d, Nat.reduceAdd, Nat.reduceMul, Nat.reduceSub, e1, set_app_self, live_app_self, a0, aj, av, hp, frz_i3]
    · have hb' : P i k = false := by cases h : P i k <;> simp_all
      rw [hb'] at hp
      rw [if_neg hb]
      simp (disch := first | exact dD | fail) only [Wd, W2d, W3d, Nat.reduceAdd, Nat.reduceMul, Nat.reduceSub, e1, set_app_self, live_app_self, a0, aj, av, hp]
      exact g _
theorem pairsS_l0 (hP : TellsS xs fv P) (hn : xs.length ≤ 100000) {f0 : Bool} : ∀ (m i : Nat) (hh : Heap), i + m = xs.length → 0 < hh.length → live hh 0 = some z3i →
    well_pairs_api_Seg.l0 (.is xs.length f0 (xs.flatMap sgc)) (.int .i64 e) fv (.rp 0 0) (.is xs.length f0 (xs.flatMap sgc)) (.int .i64 xs.length) (.int .i64 (i : Int)) hh = some (found e (pairF P m i)) := by
  intro m
  induction m with
  | zero =>
    intro i hh him h0 hl0
    obtain rfl : i = xs.length := by omega
    have av : ∀ cs, live (hh.set 0 (some cs)) 0 = some cs := fun cs => live_set_self hl0
    rw [well_pairs_api_Seg.l0_eq]
    simp (disch := first | exact dD | fail) only [Wd, W2d, W3d, Nat.reduceAdd, Nat.reduceMul, Nat.reduceSub, hl0, av, frz_i3]
    rfl
  | succ m ih =>
    intro i hh him h0 hl0
    have hi : i < xs.length := by omega
    rw [well_pairs_api_Seg.l0_eq]
    have e1 : (xs.flatMap sgc).drop (i * 3) = .int .i64 (xs[i]'hi).a :: .int .i64 (xs[i]'hi).b :: .bool (xs[i]'hi).f :: (xs.drop (i + 1)).flatMap sgc := by
      rw [drop_flatMap sgc_len, List.drop_eq_getElem_cons hi, List.flatMap_cons]; rfl
    have sl := fun fl => @slc_hd _ sgc 3 xs.length i fl xs .i64 sgc_len (by omega)
    have a0 : ∀ x, live (hh ++ [x]) 0 = some z3i := fun x => lv_app h0 hl0
    have g := fun fl (_ : Unit) => pairsS_l1 (e := e) (fl := fl) (j := hh.length) (yy := .int .i64 xs.length) (y0 := .is xs.length f0 (xs.flatMap sgc)) (y11 := .is xs.length f0 (xs.flatMap sgc)) hP hi hn i 0 (hh ++ [some (sgc (xs[i]'hi))]) (by omega) (by rw [List.length_append]; omega) (a0 _) (by rw [List.length_append]; simp) live_app_self (fun hh' q1 q2 => ih (i + 1) hh' (by omega) q1 q2)
    simp (disch := first | exact dD | fail) only [Wd, W2d, W3d, Nat.reduceAdd, Nat.reduceMul, Nat.reduceSub, e1, set_app_self, live_app_self, slcc_is, sl]
    refine (g _ ()).trans ?_
    rw [pairF]
    cases scan (P i) i 0 <;> rfl
theorem c_pairsS {H : Heap} {x fx : AV} (hP : TellsS xs fv P) (hn : xs.length ≤ 100000) (hx : freeze H x = some (.is xs.length false (xs.flatMap sgc))) (hf : freeze H fx = some fv) : byVal (callW gp) H fid.well_pairs_api_Seg [x, .int .i64 e, fx] = some (found e (pairF P xs.length 0)) := by
  have hc : cv gp fid.well_pairs_api_Seg [.is xs.length false (xs.flatMap sgc), .int .i64 e, fv] = some (found e (pairF P xs.length 0)) := by
    rw [well_pairs_api_Seg.eq]
    unfold well_pairs_api_Seg.f
    simp only [len_is, bind_s]
    exact pairsS_l0 hP hn xs.length 0 [some z3i] (by omega) (by simp) rfl
  refine byVal_flat ?_ hc ?_
  · simp only [List.mapM_cons, List.mapM_nil, hx, hf]
    rfl
  · cases pairF P xs.length 0 <;> rfl
end
section
variable {xs : List PT} {e : Int} {fv : AV} {P : Nat → Nat → Bool} {i : Nat}
/-- What is called tells whether it holds of two. -/
def TellsP (xs : List PT) (fv : AV) (P : Nat → Nat → Bool) : Prop := ∀ (i k : Nat) (hi : i < xs.length) (hk : k < xs.length) (h : Heap) (K : AV → Heap → Option AV), callK' (callW gp) gp.refm h fv [.agg (ptc (xs[i]'hi)), .agg (ptc (xs[k]'hk))] K = K (.bool (P i k)) h
theorem pairsP_l1 (hP : TellsP xs fv P) (hi : i < xs.length) (hn : xs.length ≤ 100000) {fl : Bool} {RR : Option AV} {j : Nat} {yy : AV} {y0 y11 : AV} : ∀ (m k : Nat) (hh : Heap), k + m = i → 0 < hh.length → live hh 0 = some z3i → j < hh.length → live hh j = some (ptc (xs[i]'hi)) →
    (∀ hh', 0 < hh'.length → live hh' 0 = some z3i → well_pairs_api_Point.l0 y0 (.int .i64 e) fv (.rp 0 0) y11 yy (.int .i64 ((i + 1 : Nat) : Int)) hh' = RR) →
    well_pairs_api_Point.l1 y0 (.int .i64 e) fv (.rp 0 0) (.int .i64 (i : Int)) (.rp j 0) y11 yy (.int .i64 (i : Int)) (.is i fl ((xs.take i).flatMap ptc)) (.int .i64 (i : Int)) (.int .i64 (k : Int)) hh = match scan (P i) m k with | some k' => some (fd e i k') | none => RR := by
  intro m
  induction m with
  | zero =>
    intro k hh hkm h0 hl0 hj hlj hR
    obtain rfl : k = i := by omega
    rw [well_pairs_api_Point.l1_eq]
    simp (disch := first | exact dD | fail) only [Wd, W2d, W3d, Nat.reduceAdd, Nat.reduceMul, Nat.reduceSub]
    exact hR hh h0 hl0
  | succ m ih =>
    intro k hh hkm h0 hl0 hj hlj hR
    rw [well_pairs_api_Point.l1_eq]
    have hk : k < xs.length := by omega
    have hkt : k < (xs.take i).length := by rw [List.length_take]; omega
    have ex : (xs.take i)[k]'hkt = xs[k]'hk := List.getElem_take
    have e1 : ((xs.take i).flatMap ptc).drop (k * 6) = .bool (xs[k]'hk).1.s :: str (xs[k]'hk).1.m :: str (xs[k]'hk).1.d :: .bool (xs[k]'hk).2.s :: str (xs[k]'hk).2.m :: str (xs[k]'hk).2.d :: ((xs.take i).drop (k + 1)).flatMap ptc := by
      rw [drop_flatMap ptc_len, List.drop_eq_getElem_cons hkt, List.flatMap_cons, ex]; rfl
    have hp := hP i k hi hk
    have a0 : ∀ x, live (hh ++ [x]) 0 = some z3i := fun x => lv_app h0 hl0
    have aj : ∀ x, live (hh ++ [x]) j = some (ptc (xs[i]'hi)) := fun x => lv_app hj hlj
    have av : ∀ x cs, live ((hh ++ [x]).set 0 (some cs)) 0 = some cs := fun x cs => live_set_self (a0 x)
    have g := fun x => ih (k + 1) (hh ++ [x]) (by omega) (by rw [List.length_append]; omega) (a0 x) (by rw [List.length_append]; omega) (aj x) hR
    unfold ptc rtc at hp aj
    simp only [List.cons_append, List.nil_append] at hp aj
    rw [scan]
    by_cases hb : P i k = true
    · rw [hb] at hp
      rw [if_pos hb]
      simp (disch := first | exact dD | fail) only [Wd, W2d, W3d, Nat.reduceAdd, Nat.reduceMul, Nat.reduceSub, e1, set_app_self, live_app_self, a0, aj, av, hp, frz_i3]
    · have hb' : P i k = false := by cases h : P i k <;> simp_all
      rw [hb'] at hp
      rw [if_neg hb]
      simp (disch := first | exact dD | fail) only [Wd, W2d, W3d, Nat.reduceAdd, Nat.reduceMul, Nat.reduceSub, e1, set_app_self, live_app_self, a0, aj, av, hp]
      exact g _
theorem pairsP_l0 (hP : TellsP xs fv P) (hn : xs.length ≤ 100000) {f0 : Bool} : ∀ (m i : Nat) (hh : Heap), i + m = xs.length → 0 < hh.length → live hh 0 = some z3i →
    well_pairs_api_Point.l0 (.is xs.length f0 (xs.flatMap ptc)) (.int .i64 e) fv (.rp 0 0) (.is xs.length f0 (xs.flatMap ptc)) (.int .i64 xs.length) (.int .i64 (i : Int)) hh = some (found e (pairF P m i)) := by
  intro m
  induction m with
  | zero =>
    intro i hh him h0 hl0
    obtain rfl : i = xs.length := by omega
    have av : ∀ cs, live (hh.set 0 (some cs)) 0 = some cs := fun cs => live_set_self hl0
    rw [well_pairs_api_Point.l0_eq]
    simp (disch := first | exact dD | fail) only [Wd, W2d, W3d, Nat.reduceAdd, Nat.reduceMul, Nat.reduceSub, hl0, av, frz_i3]
    rfl
  | succ m ih =>
    intro i hh him h0 hl0
    have hi : i < xs.length := by omega
    rw [well_pairs_api_Point.l0_eq]
    have e1 : (xs.flatMap ptc).drop (i * 6) = .bool (xs[i]'hi).1.s :: str (xs[i]'hi).1.m :: str (xs[i]'hi).1.d :: .bool (xs[i]'hi).2.s :: str (xs[i]'hi).2.m :: str (xs[i]'hi).2.d :: (xs.drop (i + 1)).flatMap ptc := by
      rw [drop_flatMap ptc_len, List.drop_eq_getElem_cons hi, List.flatMap_cons]; rfl
    have sl := fun fl => @slc_hd _ ptc 6 xs.length i fl xs .i64 ptc_len (by omega)
    have a0 : ∀ x, live (hh ++ [x]) 0 = some z3i := fun x => lv_app h0 hl0
    have g := fun fl (_ : Unit) => pairsP_l1 (e := e) (fl := fl) (j := hh.length) (yy := .int .i64 xs.length) (y0 := .is xs.length f0 (xs.flatMap ptc)) (y11 := .is xs.length f0 (xs.flatMap ptc)) hP hi hn i 0 (hh ++ [some (ptc (xs[i]'hi))]) (by omega) (by rw [List.length_append]; omega) (a0 _) (by rw [List.length_append]; simp) live_app_self (fun hh' q1 q2 => ih (i + 1) hh' (by omega) q1 q2)
    simp (disch := first | exact dD | fail) only [Wd, W2d, W3d, Nat.reduceAdd, Nat.reduceMul, Nat.reduceSub, e1, set_app_self, live_app_self, slcc_is, sl]
    refine (g _ ()).trans ?_
    rw [pairF]
    cases scan (P i) i 0 <;> rfl
theorem c_pairsP {H : Heap} {x fx : AV} (hP : TellsP xs fv P) (hn : xs.length ≤ 100000) (hx : freeze H x = some (.is xs.length false (xs.flatMap ptc))) (hf : freeze H fx = some fv) : byVal (callW gp) H fid.well_pairs_api_Point [x, .int .i64 e, fx] = some (found e (pairF P xs.length 0)) := by
  have hc : cv gp fid.well_pairs_api_Point [.is xs.length false (xs.flatMap ptc), .int .i64 e, fv] = some (found e (pairF P xs.length 0)) := by
    rw [well_pairs_api_Point.eq]
    unfold well_pairs_api_Point.f
    simp only [len_is, bind_s]
    exact pairsP_l0 hP hn xs.length 0 [some z3i] (by omega) (by simp) rfl
  refine byVal_flat ?_ hc ?_
  · simp only [List.mapM_cons, List.mapM_nil, hx, hf]
    rfl
  · cases pairF P xs.length 0 <;> rfl
end
end Go.Proofs.YtechbfodaallkaaGreat.Am

/- Well: what two segments have in common; points on segments; what is called of pairs. -/
set_option linter.unusedVariables false
set_option maxRecDepth 10000
set_option linter.unusedSimpArgs false
namespace Go.Proofs.YtechbfodaallkaaGreat.Am
open Go

/-- A point's cells, and a segment with points' numbers. -/
def pc (p : Rat × Rat) : PT := (rt p.1, rt p.2)
abbrev Sq := Nat × Nat × Bool
def sq_ (s : Sq) : Sg := ⟨s.1, s.2.1, s.2.2⟩
def px (ps : List (Rat × Rat)) (i : Nat) : Rat := (ps.getD i (0, 0)).1
def py (ps : List (Rat × Rat)) (i : Nat) : Rat := (ps.getD i (0, 0)).2
/-- The points' row. -/
def pcs (ps : List (Rat × Rat)) : List AV := (ps.map pc).flatMap ptc
def scs (ss : List Sq) : List AV := (ss.map sq_).flatMap sgc
theorem pcs_at {ps : List (Rat × Rat)} {i : Nat} (hi : i < ps.length) : (pcs ps).drop (i * 6) = .bool (decide ((px ps i).num < 0)) :: str (nb (px ps i).num.natAbs) :: str (nb (px ps i).den) :: .bool (decide ((py ps i).num < 0)) :: str (nb (py ps i).num.natAbs) :: str (nb (py ps i).den) :: pcs (ps.drop (i + 1)) := by
  have hm : i < (ps.map pc).length := by rw [List.length_map]; exact hi
  have e : ps.getD i (0, 0) = ps[i] := by simp [List.getD, List.getElem?_eq_getElem hi]
  unfold pcs px py
  rw [drop_flatMap ptc_len, List.drop_eq_getElem_cons hm, List.flatMap_cons, e, List.getElem_map, List.map_drop]
  rfl
def sat (ss : List Sq) (i : Nat) : Sq := ss.getD i (0, 0, false)
theorem scs_at {ss : List Sq} {i : Nat} (hi : i < ss.length) : (scs ss).drop (i * 3) = .int .i64 ((sat ss i).1 : Int) :: .int .i64 ((sat ss i).2.1 : Int) :: .bool (sat ss i).2.2 :: scs (ss.drop (i + 1)) := by
  have hm : i < (ss.map sq_).length := by rw [List.length_map]; exact hi
  have e : ss.getD i (0, 0, false) = ss[i] := by simp [List.getD, List.getElem?_eq_getElem hi]
  unfold scs sat
  rw [drop_flatMap sgc_len, List.drop_eq_getElem_cons hm, List.flatMap_cons, e, List.getElem_map, List.map_drop]
  rfl
theorem imm_pcs (ps : List (Rat × Rat)) : ∀ c ∈ pcs ps, Imm 1 c := imm_flat imm_ptc _
theorem imm_scs (ss : List Sq) : ∀ c ∈ scs ss, Imm 1 c := imm_flat imm_sgc _
theorem pcs_len (ps : List (Rat × Rat)) : (pcs ps).length = ps.length * 6 := by unfold pcs; rw [len_flatMap ptc_len, List.length_map]
def sharedF (s t : Sg) : Int × Int × Int × Bool :=
  if s.a = t.a then (s.a, s.b, t.b, true) else if s.a = t.b then (s.a, s.b, t.a, true) else if s.b = t.a then (s.b, s.a, t.b, true) else if s.b = t.b then (s.b, s.a, t.a, true) else (0, 0, 0, false)
theorem frz_iib {h : Heap} {a b c : Int} {d : Bool} : freeze h (.tup [.int .i64 a, .int .i64 b, .int .i64 c, .bool d]) = some (.tup [.int .i64 a, .int .i64 b, .int .i64 c, .bool d]) := Eq.trans rfl rfl
theorem wl0 : ((0 : Nat) : Int) = 0 := rfl
theorem wl1 : ((1 : Nat) : Int) = 1 := rfl
theorem wl2 : ((2 : Nat) : Int) = 2 := rfl
theorem wi0 : opBin .add (.int .i64 0) (.int .i64 1) = some (.int .i64 1) := Eq.trans rfl rfl
theorem wi1 : opBin .add (.int .i64 1) (.int .i64 1) = some (.int .i64 2) := Eq.trans rfl rfl
section
variable {h : Heap} {s t : Sg}
theorem c_shared : byVal (callW gp) h fid.well_shared [.agg (sgc s), .agg (sgc t)] = some (.tup [.int .i64 (sharedF s t).1, .int .i64 (sharedF s t).2.1, .int .i64 (sharedF s t).2.2.1, .bool (sharedF s t).2.2.2]) := byVal_imm (imm_L2 imm_sg imm_sg) (by
  obtain ⟨a, b, f⟩ := s
  obtain ⟨c, d, g⟩ := t
  rw [well_shared.eq]
  unfold well_shared.f sharedF sgc
  simp only
  simp (disch := first | exact dD | fail) only [Wd, W2d, W3d, Nat.reduceAdd, Nat.reduceMul, Nat.reduceSub]
  rw [well_shared.l0_eq]
  by_cases h1 : a = c
  · rw [if_pos h1]
    simp (disch := first | exact dD | fail) only [Wd, W2d, W3d, Nat.reduceAdd, Nat.reduceMul, Nat.reduceSub, cond_d, decide_eq_true h1, frz_iib]
  by_cases h2 : a = d
  · rw [if_neg h1, if_pos h2]
    simp (disch := first | exact dD | fail) only [Wd, W2d, W3d, Nat.reduceAdd, Nat.reduceMul, Nat.reduceSub, cond_d, decide_eq_false h1, decide_eq_true h2, frz_iib]
  rw [if_neg h1, if_neg h2]
  simp (disch := first | exact dD | fail) only [Wd, W2d, W3d, Nat.reduceAdd, Nat.reduceMul, Nat.reduceSub, wl0, wl1, wi0, decide_eq_false h1, decide_eq_false h2, frz_iib]
  rw [well_shared.l0_eq]
  by_cases h3 : b = c
  · rw [if_pos h3]
    simp (disch := first | exact dD | fail) only [Wd, W2d, W3d, Nat.reduceAdd, Nat.reduceMul, Nat.reduceSub, wl0, wl1, wi0, wi1, decide_eq_true h3, frz_iib]
  by_cases h4 : b = d
  · rw [if_neg h3, if_pos h4]
    simp (disch := first | exact dD | fail) only [Wd, W2d, W3d, Nat.reduceAdd, Nat.reduceMul, Nat.reduceSub, wl0, wl1, wi0, wi1, decide_eq_false h3, decide_eq_true h4, frz_iib]
  rw [if_neg h3, if_neg h4]
  simp (disch := first | exact dD | fail) only [Wd, W2d, W3d, Nat.reduceAdd, Nat.reduceMul, Nat.reduceSub, wl0, wl1, wi0, wi1, decide_eq_false h3, decide_eq_false h4, frz_iib]
  rw [well_shared.l0_eq]
  simp (disch := first | exact dD | fail) only [Wd, W2d, W3d, Nat.reduceAdd, Nat.reduceMul, Nat.reduceSub, wl0, wl1, wl2, wi0, wi1, frz_iib])
variable {ax ay bx b_ cx cy : Rat}
theorem c_won (h1 : Rz ax 100) (h2 : Rz ay 100) (h3 : Rz bx 100) (h4 : Rz b_ 100) (h5 : Rz cx 100) (h6 : Rz cy 100) : byVal (callW gp) h fid.well_on [pa ax ay, pa bx b_, pa cx cy] = some (.bool (decide (onP ax ay bx b_ cx cy))) := byVal_imm (imm_L3 imm_pa imm_pa imm_pa) (by
  rw [well_on.eq]
  unfold well_on.f
  simp (disch := first | exact dD | fail) only [Wd, W2d, W3d, Nat.reduceAdd, Nat.reduceMul, Nat.reduceSub, k_gOn])
end
/-- Points of few bytes. -/
def PsZ (ps : List (Rat × Rat)) (n : Nat) : Prop := ∀ p ∈ ps, Rz p.1 n ∧ Rz p.2 n
theorem PsZ.x {ps : List (Rat × Rat)} {n i : Nat} (h : PsZ ps n) (hi : i < ps.length) : Rz (px ps i) n ∧ Rz (py ps i) n := by
  have e : ps.getD i (0, 0) = ps[i] := by simp [List.getD, List.getElem?_eq_getElem hi]
  unfold px py
  rw [e]
  exact h _ (List.getElem_mem hi)
theorem ext3 {a b c d : AV} : opExt 3 (.tup [a, b, c, d]) = some d := Eq.trans rfl rfl
/-! ### What is called of pairs -/
def eqI (ps : List (Rat × Rat)) (i k : Nat) : Bool := decide (px ps i = px ps k ∧ py ps i = py ps k)
theorem pc_get {ps : List (Rat × Rat)} {i : Nat} (hi : i < (ps.map pc).length) : (ps.map pc)[i]'hi = (rt (px ps i), rt (py ps i)) := by
  have hi' : i < ps.length := by rwa [List.length_map] at hi
  have e : ps.getD i (0, 0) = ps[i] := by simp [List.getD, List.getElem?_eq_getElem hi']
  rw [List.getElem_map]
  unfold px py
  rw [e]; rfl
theorem sq_get {ss : List Sq} {i : Nat} (hi : i < (ss.map sq_).length) : (ss.map sq_)[i]'hi = sq_ (sat ss i) := by
  have hi' : i < ss.length := by rwa [List.length_map] at hi
  have e : ss.getD i (0, 0, false) = ss[i] := by simp [List.getD, List.getElem?_eq_getElem hi']
  rw [List.getElem_map]
  unfold sat
  rw [e]
theorem tells1 (ps : List (Rat × Rat)) : TellsP (ps.map pc) (.fn fid.well_First_1 []) (eqI ps) := by
  intro i k hi hk h K
  rw [pc_get hi, pc_get hk, callfn rfl]
  have : byVal (callW gp) h fid.well_First_1 [pa (px ps i) (py ps i), pa (px ps k) (py ps k)] = some (.bool (eqI ps i k)) := byVal_imm (imm_L2 imm_pa imm_pa) (by
    rw [well_First_1.eq]
    unfold well_First_1.f eqI
    simp (disch := first | exact dD | fail) only [Wd, W2d, W3d, Nat.reduceAdd, Nat.reduceMul, Nat.reduceSub, eqa_p])
  exact congrArg (fun o => Option.bind o fun v => K v h) this
abbrev capP (ps : List (Rat × Rat)) : AV := .ip [.is ps.length false (pcs ps)]
theorem imm_capP {ps : List (Rat × Rat)} : Imm 12 (capP ps) := (imm_ip (d := 2) (fun c hc => by
  rcases List.mem_cons.1 hc with rfl | hc
  · exact imm_is (imm_pcs ps)
  · cases hc)).mono (by omega)
/-- Have two segments a point in common that is no end of both? -/
def crossI (ps : List (Rat × Rat)) (s t : Sq) : Bool :=
  if (sharedF (sq_ s) (sq_ t)).2.2.2 = true then decide ((sharedF (sq_ s) (sq_ t)).2.1 = (sharedF (sq_ s) (sq_ t)).2.2.1)
  else decide (¬ meetQ (px ps s.1) (py ps s.1) (px ps s.2.1) (py ps s.2.1) (px ps t.1) (py ps t.1) (px ps t.2.1) (py ps t.2.1) = 0)
/-- A segment's ends are points, and unlike. -/
def SqOk (n : Nat) (s : Sq) : Prop := s.1 < n ∧ s.2.1 < n ∧ s.1 ≠ s.2.1
theorem imm_L3' {a b c : AV} (ha : Imm 12 a) (hb : Imm 12 b) (hc : Imm 12 c) : ∀ x ∈ [a, b, c], Imm 12 x := imm_three ha hb hc
theorem c_first2 {h : Heap} {ps : List (Rat × Rat)} {s t : Sq} (hz : PsZ ps 100) (hs : SqOk ps.length s) (ht : SqOk ps.length t) : byVal (callW gp) h fid.well_First_2 [.agg (sgc (sq_ s)), .agg (sgc (sq_ t)), capP ps] = some (.bool (crossI ps s t)) := byVal_imm (imm_L3' imm_sg imm_sg imm_capP) (by
  have ks := fun h => c_shared (h := h) (s := sq_ s) (t := sq_ t)
  rw [well_First_2.eq]
  unfold well_First_2.f crossI
  obtain ⟨a, b, f⟩ := s
  obtain ⟨c, d, g⟩ := t
  obtain ⟨a1, b1, n1⟩ := hs
  obtain ⟨c1, d1, n2⟩ := ht
  simp only at a1 b1 c1 d1
  have ea := pcs_at a1
  have eb := pcs_at b1
  have ec := pcs_at c1
  have ed := pcs_at d1
  have km := fun h => k_gmeet (h := h) (hz.x a1).1 (hz.x a1).2 (hz.x b1).1 (hz.x b1).2 (hz.x c1).1 (hz.x c1).2 (hz.x d1).1 (hz.x d1).2
  generalize sharedF (sq_ (a, b, f)) (sq_ (c, d, g)) = r at *
  obtain ⟨r1, r2, r3, r4⟩ := r
  unfold sgc sq_ at *
  simp only at *
  cases r4
  · rw [if_neg (by decide)]
    simp (disch := first | exact dD | fail) only [Wd, W2d, W3d, Nat.reduceAdd, Nat.reduceMul, Nat.reduceSub, ext3, ks, ea, eb, ec, ed, km]
  · rw [if_pos rfl]
    simp (disch := first | exact dD | fail) only [Wd, W2d, W3d, Nat.reduceAdd, Nat.reduceMul, Nat.reduceSub, ext3, ks])
theorem tells2 {ps : List (Rat × Rat)} {ss : List Sq} (hz : PsZ ps 100) (hs : ∀ s ∈ ss, SqOk ps.length s) : TellsS (ss.map sq_) (.fn fid.well_First_2 [capP ps]) (fun i k => crossI ps (sat ss i) (sat ss k)) := by
  intro i k hi hk h K
  have g : ∀ i, i < (ss.map sq_).length → SqOk ps.length (sat ss i) := fun i hi => by
    have hi' : i < ss.length := by rwa [List.length_map] at hi
    have e : ss.getD i (0, 0, false) = ss[i] := by simp [List.getD, List.getElem?_eq_getElem hi']
    unfold sat; rw [e]; exact hs _ (List.getElem_mem hi')
  rw [sq_get hi, sq_get hk, callfn rfl]
  exact congrArg (fun o => Option.bind o fun v => K v h) (c_first2 hz (g i hi) (g k hk))
/-- Is the angle at a common end sharp? -/
def sharpI (ps : List (Rat × Rat)) (s t : Sq) : Bool :=
  if (sharedF (sq_ s) (sq_ t)).2.2.2 = true then sharpQ (px ps (sharedF (sq_ s) (sq_ t)).2.1.toNat) (py ps (sharedF (sq_ s) (sq_ t)).2.1.toNat) (px ps (sharedF (sq_ s) (sq_ t)).1.toNat) (py ps (sharedF (sq_ s) (sq_ t)).1.toNat) (px ps (sharedF (sq_ s) (sq_ t)).2.2.1.toNat) (py ps (sharedF (sq_ s) (sq_ t)).2.2.1.toNat)
  else false
theorem shared_ok {n : Nat} {s t : Sq} (hs : SqOk n s) (ht : SqOk n t) (h : (sharedF (sq_ s) (sq_ t)).2.2.2 = true) : ∃ at_ x y : Nat, sharedF (sq_ s) (sq_ t) = ((at_ : Int), (x : Int), (y : Int), true) ∧ at_ < n ∧ x < n ∧ y < n ∧ x ≠ at_ ∧ y ≠ at_ := by
  obtain ⟨a, b, f⟩ := s
  obtain ⟨c, d, g⟩ := t
  obtain ⟨a1, b1, n1⟩ := hs
  obtain ⟨c1, d1, n2⟩ := ht
  simp only at a1 b1 c1 d1 n1 n2
  unfold sharedF sq_ at *
  simp only at *
  by_cases h1 : (a : Int) = c
  · rw [if_pos h1]
    exact ⟨a, b, d, rfl, a1, b1, d1, fun h => n1 h.symm, fun h => by omega⟩
  rw [if_neg h1] at h ⊢
  by_cases h2 : (a : Int) = d
  · rw [if_pos h2]
    exact ⟨a, b, c, rfl, a1, b1, c1, fun h => n1 h.symm, fun h => by omega⟩
  rw [if_neg h2] at h ⊢
  by_cases h3 : (b : Int) = c
  · rw [if_pos h3]
    exact ⟨b, a, d, rfl, b1, a1, d1, fun h => n1 h, fun h => by omega⟩
  rw [if_neg h3] at h ⊢
  by_cases h4 : (b : Int) = d
  · rw [if_pos h4]
    exact ⟨b, a, c, rfl, b1, a1, c1, fun h => n1 h, fun h => by omega⟩
  · rw [if_neg h4] at h
    cases h
theorem c_first3 {h : Heap} {ps : List (Rat × Rat)} {s t : Sq} (hz : PsZ ps 100) (hd : ∀ i k, i < ps.length → k < ps.length → i ≠ k → eqI ps i k = false) (hs : SqOk ps.length s) (ht : SqOk ps.length t) : byVal (callW gp) h fid.well_First_3 [.agg (sgc (sq_ s)), .agg (sgc (sq_ t)), capP ps] = some (.bool (sharpI ps s t)) := byVal_imm (imm_L3' imm_sg imm_sg imm_capP) (by
  have ks := fun h => c_shared (h := h) (s := sq_ s) (t := sq_ t)
  rw [well_First_3.eq]
  unfold well_First_3.f sharpI
  by_cases hh : (sharedF (sq_ s) (sq_ t)).2.2.2 = true
  rotate_left
  · rw [if_neg hh]
    have hf : (sharedF (sq_ s) (sq_ t)).2.2.2 = false := by cases h : (sharedF (sq_ s) (sq_ t)).2.2.2 <;> simp_all
    rw [hf] at ks
    unfold sgc at *
    simp (disch := first | exact dD | fail) only [Wd, W2d, W3d, Nat.reduceAdd, Nat.reduceMul, Nat.reduceSub, ext3, ks]
  rw [if_pos hh]
  obtain ⟨c, x, y, e, c1, x1, y1, n1, n2⟩ := shared_ok hs ht hh
  rw [e] at ks ⊢
  have d1 : ¬ (px ps x = px ps c ∧ py ps x = py ps c) := by simpa [eqI] using hd x c x1 c1 n1
  have d2 : ¬ (px ps y = px ps c ∧ py ps y = py ps c) := by simpa [eqI] using hd y c y1 c1 n2
  have k := fun h => k_sharp (h := h) (hz.x x1).1 (hz.x x1).2 (hz.x c1).1 (hz.x c1).2 (hz.x y1).1 (hz.x y1).2 d1 d2
  have ea := pcs_at c1
  have eb := pcs_at x1
  have ec := pcs_at y1
  simp only [Int.toNat_natCast]
  unfold sgc at *
  simp (disch := first | exact dD | fail) only [Wd, W2d, W3d, Nat.reduceAdd, Nat.reduceMul, Nat.reduceSub, ext3, ks, ea, eb, ec, k])
theorem tells3 {ps : List (Rat × Rat)} {ss : List Sq} (hz : PsZ ps 100) (hd : ∀ i k, i < ps.length → k < ps.length → i ≠ k → eqI ps i k = false) (hs : ∀ s ∈ ss, SqOk ps.length s) : TellsS (ss.map sq_) (.fn fid.well_First_3 [capP ps]) (fun i k => sharpI ps (sat ss i) (sat ss k)) := by
  intro i k hi hk h K
  have g : ∀ i, i < (ss.map sq_).length → SqOk ps.length (sat ss i) := fun i hi => by
    have hi' : i < ss.length := by rwa [List.length_map] at hi
    have e : ss.getD i (0, 0, false) = ss[i] := by simp [List.getD, List.getElem?_eq_getElem hi']
    unfold sat; rw [e]; exact hs _ (List.getElem_mem hi')
  rw [sq_get hi, sq_get hk, callfn rfl]
  exact congrArg (fun o => Option.bind o fun v => K v h) (c_first3 hz hd (g i hi) (g k hk))
end Go.Proofs.YtechbfodaallkaaGreat.Am

/- Well: what a plan is made of; points on segments; holes. -/
set_option linter.unusedVariables false
set_option maxRecDepth 10000
set_option linter.unusedSimpArgs false
namespace Go.Proofs.YtechbfodaallkaaGreat.Am
open Go

/-- A plan. -/
structure Pl where
  pts : List PT
  segs : List Sg
  holes : List PT
  F : R6
  G : R6
def plc (p : Pl) : List AV := .is p.pts.length false (p.pts.flatMap ptc) :: .is p.segs.length false (p.segs.flatMap sgc) :: .is p.holes.length false (p.holes.flatMap ptc) :: (r6c p.F ++ r6c p.G)
structure Pl.ok (p : Pl) : Prop where
  pts : ∀ t ∈ p.pts, t.ok
  holes : ∀ t ∈ p.holes, t.ok
  F : p.F.ok
  G : p.G.ok
  n1 : p.pts.length ≤ 100000
  n2 : p.segs.length ≤ 100000
  n3 : p.holes.length ≤ 100000
section
variable {p : Pl}
theorem rc39 : readCells (plc p) (some 39) = some (.agg (plc p)) := Eq.trans rfl rfl
theorem plc_0 : readCells (plc p) none = some (.is p.pts.length false (p.pts.flatMap ptc)) := Eq.trans rfl rfl
theorem plc_1 : readCells (List.drop 1 (plc p)) none = some (.is p.segs.length false (p.segs.flatMap sgc)) := Eq.trans rfl rfl
theorem plc_2 : readCells (List.drop 2 (plc p)) none = some (.is p.holes.length false (p.holes.flatMap ptc)) := Eq.trans rfl rfl
theorem plc_3 : readCells (List.drop 3 (plc p)) (some 18) = some (.agg (r6c p.F)) := Eq.trans rfl rfl
theorem plc_21 : readCells (List.drop 21 (plc p)) (some 18) = some (.agg (r6c p.G)) := Eq.trans rfl rfl
theorem imm_plc : ∀ c ∈ plc p, Imm 2 c := fun c hc => by
  unfold plc at hc
  rcases List.mem_cons.1 hc with rfl | hc
  · exact imm_is (imm_flat imm_ptc _)
  rcases List.mem_cons.1 hc with rfl | hc
  · exact imm_is (imm_flat imm_sgc _)
  rcases List.mem_cons.1 hc with rfl | hc
  · exact imm_is (imm_flat imm_ptc _)
  rcases List.mem_append.1 hc with hc | hc
  · exact (imm_flat imm_rtc _ c hc).mono (by omega)
  · exact (imm_flat imm_rtc _ c hc).mono (by omega)
theorem imm_pl : Imm 12 (.agg (plc p)) := (imm_agg (imm_plc (p := p))).mono (by omega)
end
/-! ### What may be asked -/
theorem wasked_l0 {xs : List PT} {f : Bool} (hb : ∀ t ∈ xs, t.ok) (hn : xs.length ≤ 1000000) : ∀ (k i : Nat) (hh : Heap), i + k = xs.length → well_asked.l0 (.is xs.length f (xs.flatMap ptc)) (.int .i64 xs.length) (.int .i64 (i : Nat)) hh = some (.int .i64 (firstE ((xs.drop i).map askc))) := by
  intro k
  induction k with
  | zero =>
    intro i hh hik
    rw [well_asked.l0_eq]
    simp (disch := first | exact dD | fail) only [Wd, W2d, W3d, Nat.reduceAdd, Nat.reduceMul, Nat.reduceSub]
    rw [List.drop_of_length_le (by omega)]
    rfl
  | succ k ih =>
    intro i hh hik
    rw [well_asked.l0_eq]
    have hi : i < xs.length := by omega
    have ht := hb _ (List.getElem_mem hi)
    have e : (xs.flatMap ptc).drop (i * 6) = .bool xs[i].1.s :: str xs[i].1.m :: str xs[i].1.d :: .bool xs[i].2.s :: str xs[i].2.m :: str xs[i].2.d :: (xs.drop (i + 1)).flatMap ptc := by
      rw [drop_flatMap ptc_len, List.drop_eq_getElem_cons hi, List.flatMap_cons]; rfl
    obtain ⟨z, hc⟩ := k_orient1 ht
    unfold ptc rtc at hc
    simp only [List.cons_append, List.nil_append] at hc
    rw [List.drop_eq_getElem_cons hi, List.map_cons, firstE]
    simp (disch := first | exact dD | fail) only [Wd, W2d, W3d, Nat.reduceAdd, Nat.reduceMul, Nat.reduceSub, e, hc, cond_d, set_app_self, live_app_self]
    by_cases h0 : askc xs[i] = 0
    · rw [if_pos h0, if_neg (by simpa using h0)]
      exact ih (i + 1) _ (by omega)
    · rw [if_neg h0, if_pos h0]
theorem k_wasked {h : Heap} {xs : List PT} {f : Bool} (hb : ∀ t ∈ xs, t.ok) (hn : xs.length ≤ 1000000) : byVal (callW gp) h fid.well_asked [.is xs.length f (xs.flatMap ptc)] = some (.int .i64 (firstE (xs.map askc))) := byVal_lit (fun c hc => (imm_flat imm_ptc xs c hc).mono (by omega)) (by
  rw [well_asked.eq]
  unfold well_asked.f
  simp only [len_is, bind_s]
  exact wasked_l0 hb hn xs.length 0 [] (by omega))
def mnI (x y : Int) : Int := if y < x then y else x
def mxI (x y : Int) : Int := if x < y then y else x
theorem mmn {k : IntKind} {x y : Int} : opMm false [.int k x, .int k y] = some (.int k (mnI x y)) := rfl
theorem mmx {k : IntKind} {x y : Int} : opMm true [.int k x, .int k y] = some (.int k (mxI x y)) := rfl
def sgAt (ss : List Sg) (i : Nat) : Sg := ss.getD i ⟨0, 0, false⟩
/-- Is a segment none? -/
def badS (n : Nat) (s : Sg) : Bool := decide (mnI s.a s.b < 0) || (decide ((n : Int) ≤ mxI s.a s.b) || decide (s.a = s.b))
theorem bslc_r2 {a b : Nat} {xs ys : List AV} {f g : Bool} : opBslc 1 2 [.is 0 true []] [(0, .is a f xs), (1, .is b g ys)] = some (.is 2 true [.is a f xs, .is b g ys]) := Eq.trans rfl rfl
theorem rcFG0 {F G : R6} : readCells (r6c F ++ r6c G) (some 18) = some (.agg (r6c F)) := Eq.trans rfl rfl
theorem rcFG1 {F G : R6} : readCells (List.drop 18 (r6c F ++ r6c G)) (some 18) = some (.agg (r6c G)) := Eq.trans rfl rfl
theorem rcF {F : R6} : readCells (r6c F) (some 18) = some (.agg (r6c F)) := Eq.trans rfl rfl
theorem bslc_FG {F G : R6} : opBslc 18 2 [.bool false, .str ⟨#[]⟩, .str ⟨#[]⟩, .bool false, .str ⟨#[]⟩, .str ⟨#[]⟩, .bool false, .str ⟨#[]⟩, .str ⟨#[]⟩, .bool false, .str ⟨#[]⟩, .str ⟨#[]⟩, .bool false, .str ⟨#[]⟩, .str ⟨#[]⟩, .bool false, .str ⟨#[]⟩, .str ⟨#[]⟩] [(0, .agg (r6c F)), (1, .agg (r6c G))] = some (.is 2 true (r6c F ++ r6c G)) := bslc_a2 rfl rfl rfl
theorem given_l2 {p : Pl} (hp : p.ok) : ∀ (m i : Nat) (hh : Heap), i + m = p.segs.length → 1 < hh.length → live hh 0 = some (plc p) → live hh 1 = some z3i →
    well_given.l2 (.rp 0 0) (.rp 1 0) (.is p.segs.length false (p.segs.flatMap sgc)) (.int .i64 p.segs.length) (.int .i64 (i : Int)) hh = some (match scan (fun i => badS p.pts.length (sgAt p.segs i)) m i with | some i' => fd 1 i' 0 | none => .agg z3i) := by
  have n1 := hp.n1
  have n2 := hp.n2
  intro m
  induction m with
  | zero =>
    intro i hh him h0 hl0 hl1
    obtain rfl : i = p.segs.length := by omega
    have av : ∀ cs, live (hh.set 1 (some cs)) 1 = some cs := fun cs => live_set_self hl1
    rw [well_given.l2_eq]
    simp (disch := first | exact dD | fail) only [Wd, W2d, W3d, Nat.reduceAdd, Nat.reduceMul, Nat.reduceSub, hl1, av, frz_i3]
    rfl
  | succ m ih =>
    intro i hh him h0 hl0 hl1
    have hi : i < p.segs.length := by omega
    rw [well_given.l2_eq]
    have es : sgAt p.segs i = p.segs[i] := by simp [sgAt, List.getD, List.getElem?_eq_getElem hi]
    have e1 : (p.segs.flatMap sgc).drop (i * 3) = .int .i64 (sgAt p.segs i).a :: .int .i64 (sgAt p.segs i).b :: .bool (sgAt p.segs i).f :: (p.segs.drop (i + 1)).flatMap sgc := by
      rw [drop_flatMap sgc_len, List.drop_eq_getElem_cons hi, List.flatMap_cons, es]; rfl
    have a0 : ∀ x, live (hh ++ [x]) 0 = some (plc p) := fun x => lv_app (by omega) hl0
    have a1 : ∀ x, live (hh ++ [x]) 1 = some z3i := fun x => lv_app h0 hl1
    have av : ∀ x cs, live ((hh ++ [x]).set 1 (some cs)) 1 = some cs := fun x cs => live_set_self (a1 x)
    have g := fun x => ih (i + 1) (hh ++ [x]) (by omega) (by rw [List.length_append]; omega) (a0 x) (a1 x)
    rw [scan]
    unfold badS at *
    generalize sgAt p.segs i = s at *
    obtain ⟨a, b, f⟩ := s
    simp only at *
    by_cases q1 : mnI a b < 0
    · rw [decide_eq_true q1, Bool.true_or, if_pos rfl]
      simp (disch := first | exact dD | fail) only [Wd, W2d, W3d, Nat.reduceAdd, Nat.reduceMul, Nat.reduceSub, e1, set_app_self, live_app_self, a0, a1, av, frz_i3, mmn, mmx, plc_0]
    rw [decide_eq_false q1, Bool.false_or]
    by_cases q2 : (p.pts.length : Int) ≤ mxI a b
    · rw [decide_eq_true q2, Bool.true_or, if_pos rfl]
      simp (disch := first | exact dD | fail) only [Wd, W2d, W3d, Nat.reduceAdd, Nat.reduceMul, Nat.reduceSub, e1, set_app_self, live_app_self, a0, a1, av, frz_i3, mmn, mmx, plc_0]
    rw [decide_eq_false q2, Bool.false_or]
    by_cases q3 : a = b
    · rw [decide_eq_true q3, if_pos rfl]
      simp (disch := first | exact dD | fail) only [Wd, W2d, W3d, Nat.reduceAdd, Nat.reduceMul, Nat.reduceSub, e1, set_app_self, live_app_self, a0, a1, av, frz_i3, mmn, mmx, plc_0, cond_d, decide_eq_true q3]
    · rw [decide_eq_false q3, if_neg (by decide)]
      simp (disch := first | exact dD | fail) only [Wd, W2d, W3d, Nat.reduceAdd, Nat.reduceMul, Nat.reduceSub, e1, set_app_self, live_app_self, a0, a1, av, frz_i3, mmn, mmx, plc_0, cond_d, decide_eq_false q3]
      exact g _
/-- What is wrong: of a kind, and two numbers. -/
abbrev Fnd := Int × Int × Int
def fdv (f : Fnd) : AV := fd f.1 f.2.1 f.2.2
def foundF (e : Int) : Option (Nat × Nat) → Fnd
  | some (i, k) => (e, i, k)
  | none => (0, 0, 0)
theorem found_eq (e : Int) (o : Option (Nat × Nat)) : found e o = fdv (foundF e o) := by cases o <;> rfl
/-- What is wrong with what a plan is made of. -/
def givenF (p : Pl) : Fnd :=
  if 40 < p.pts.length ∨ 60 < p.segs.length ∨ 10 < p.holes.length then (5, 0, 0)
  else if firstE (p.pts.map askc) ≠ 0 then (firstE (p.pts.map askc), 0, 0)
  else if firstE (p.holes.map askc) ≠ 0 then (firstE (p.holes.map askc), 0, 0)
  else if ask6 p.F ≠ 0 ∨ ask6 p.G ≠ 0 then (1, 0, 0)
  else match scan (fun i => badS p.pts.length (sgAt p.segs i)) p.segs.length 0 with
    | some i => (1, i, 0)
    | none => (0, 0, 0)
theorem k_given {h : Heap} {p : Pl} (hp : p.ok) : byVal (callW gp) h fid.well_given [.agg (plc p)] = some (fdv (givenF p)) := byVal_imm (imm_L1 imm_pl) (by
  have n1 := hp.n1
  have n2 := hp.n2
  have n3 := hp.n3
  rw [well_given.eq]
  unfold well_given.f givenF
  by_cases q1 : 40 < p.pts.length
  · rw [if_pos (.inl q1)]
    simp (disch := first | exact dD | fail) only [Wd, W2d, W3d, Nat.reduceAdd, Nat.reduceMul, Nat.reduceSub, plc_0, plc_1, plc_2, frz_i3]
    rfl
  by_cases q2 : 60 < p.segs.length
  · rw [if_pos (.inr (.inl q2))]
    simp (disch := first | exact dD | fail) only [Wd, W2d, W3d, Nat.reduceAdd, Nat.reduceMul, Nat.reduceSub, plc_0, plc_1, plc_2, frz_i3]
    rfl
  by_cases q3 : 10 < p.holes.length
  · rw [if_pos (.inr (.inr q3))]
    simp (disch := first | exact dD | fail) only [Wd, W2d, W3d, Nat.reduceAdd, Nat.reduceMul, Nat.reduceSub, plc_0, plc_1, plc_2, frz_i3]
    rfl
  rw [if_neg (by omega)]
  have ka := fun h => k_wasked (h := h) (f := false) hp.pts (by omega)
  have kb := fun h => k_wasked (h := h) (f := false) hp.holes (by omega)
  have kF := fun h => k_pcheck (h := h) hp.F
  have kG := fun h => k_pcheck (h := h) hp.G
  have l2 := given_l2 hp p.segs.length 0
  simp (disch := first | exact dD | fail) only [Wd, W2d, W3d, Nat.reduceAdd, Nat.reduceMul, Nat.reduceSub, plc_0, plc_1, plc_2, bslc_r2]
  rw [well_given.l0_eq]
  by_cases h1 : firstE (p.pts.map askc) = 0
  rotate_left
  · rw [if_pos h1]
    simp (disch := first | exact dD | fail) only [Wd, W2d, W3d, Nat.reduceAdd, Nat.reduceMul, Nat.reduceSub, wl0, wl1, wi0, ka, cond_d, decide_eq_false h1, h1, frz_i3]
    rfl
  rw [if_neg (by simpa using h1)]
  rw [h1] at ka
  simp (disch := first | exact dD | fail) only [Wd, W2d, W3d, Nat.reduceAdd, Nat.reduceMul, Nat.reduceSub, wl0, wl1, wi0, ka, frz_i3]
  rw [well_given.l0_eq]
  by_cases h2 : firstE (p.holes.map askc) = 0
  rotate_left
  · rw [if_pos h2]
    simp (disch := first | exact dD | fail) only [Wd, W2d, W3d, Nat.reduceAdd, Nat.reduceMul, Nat.reduceSub, wl0, wl1, wi0, kb, cond_d, decide_eq_false h2, h2, frz_i3]
    rfl
  rw [if_neg (by simpa using h2)]
  rw [h2] at kb
  simp (disch := first | exact dD | fail) only [Wd, W2d, W3d, Nat.reduceAdd, Nat.reduceMul, Nat.reduceSub, wl0, wl1, wl2, wi0, wi1, kb, frz_i3]
  rw [well_given.l0_eq]
  simp (disch := first | exact dD | fail) only [Wd, W2d, W3d, Nat.reduceAdd, Nat.reduceMul, Nat.reduceSub, wl0, wl1, wl2, wi0, wi1, plc_3, plc_21, bslc_FG]
  rw [well_given.l1_eq]
  by_cases h3 : ask6 p.F = 0
  rotate_left
  · rw [if_pos (.inl h3)]
    simp (disch := first | exact dD | fail) only [Wd, W2d, W3d, Nat.reduceAdd, Nat.reduceMul, Nat.reduceSub, wl0, wl1, wi0, rcFG0, rcF, kF, cond_d, decide_eq_false h3, h3, frz_i3]
    rfl
  rw [h3] at kF
  simp (disch := first | exact dD | fail) only [Wd, W2d, W3d, Nat.reduceAdd, Nat.reduceMul, Nat.reduceSub, wl0, wl1, wi0, rcFG0, rcF, kF, frz_i3]
  rw [well_given.l1_eq]
  by_cases h4 : ask6 p.G = 0
  rotate_left
  · rw [if_pos (.inr h4)]
    simp (disch := first | exact dD | fail) only [Wd, W2d, W3d, Nat.reduceAdd, Nat.reduceMul, Nat.reduceSub, wl0, wl1, wl2, wi0, wi1, rcFG1, rcF, kG, cond_d, decide_eq_false h4, h4, frz_i3]
    rfl
  rw [h4] at kG
  rw [if_neg (fun hh => hh.elim (fun h => h h3) (fun h => h h4))]
  simp (disch := first | exact dD | fail) only [Wd, W2d, W3d, Nat.reduceAdd, Nat.reduceMul, Nat.reduceSub, wl0, wl1, wl2, wi0, wi1, rcFG1, rcF, kG, frz_i3]
  rw [well_given.l1_eq]
  simp (disch := first | exact dD | fail) only [Wd, W2d, W3d, Nat.reduceAdd, Nat.reduceMul, Nat.reduceSub, wl0, wl1, wl2, wi0, wi1, plc_1]
  refine (l2 _ (by omega) (by simp) rfl rfl).trans ?_
  cases scan (fun i => badS p.pts.length (sgAt p.segs i)) p.segs.length 0 <;> rfl)
end Go.Proofs.YtechbfodaallkaaGreat.Am

/- Well: points on segments, holes, the first thing that is wrong. -/
set_option linter.unusedVariables false
set_option maxRecDepth 10000
set_option linter.unusedSimpArgs false
namespace Go.Proofs.YtechbfodaallkaaGreat.Am
open Go

/-- A plan whose numbers may be asked. -/
structure Pq where
  ps : List (Rat × Rat)
  ss : List Sq
  hs : List (Rat × Rat)
  F : R6
  G : R6
def Pq.pl (q : Pq) : Pl := ⟨q.ps.map pc, q.ss.map sq_, q.hs.map pc, q.F, q.G⟩
structure Pq.ok (q : Pq) : Prop where
  zp : PsZ q.ps 100
  zh : PsZ q.hs 100
  sg : ∀ s ∈ q.ss, SqOk q.ps.length s
  F : q.F.ok
  G : q.G.ok
  n1 : q.ps.length ≤ 100000
  n2 : q.ss.length ≤ 100000
  n3 : q.hs.length ≤ 100000
theorem pc_ok (p : Rat × Rat) : (pc p).ok := ⟨⟨nb_lt _, nb_lt _⟩, ⟨nb_lt _, nb_lt _⟩⟩
theorem pcm_ok (ps : List (Rat × Rat)) : ∀ t ∈ ps.map pc, t.ok := fun t ht => by
  obtain ⟨p, _, rfl⟩ := List.mem_map.1 ht
  exact pc_ok p
theorem Pq.plok {q : Pq} (h : q.ok) : q.pl.ok := ⟨pcm_ok _, pcm_ok _, h.F, h.G, by show (q.ps.map pc).length ≤ _; rw [List.length_map]; exact h.n1, by show (q.ss.map sq_).length ≤ _; rw [List.length_map]; exact h.n2, by show (q.hs.map pc).length ≤ _; rw [List.length_map]; exact h.n3⟩
section
variable {q : Pq}
theorem plq_0 : readCells (plc q.pl) none = some (.is q.ps.length false (pcs q.ps)) := by
  rw [plc_0]; unfold pcs Pq.pl; simp only [List.length_map]
theorem plq_1 : readCells (List.drop 1 (plc q.pl)) none = some (.is q.ss.length false (scs q.ss)) := by
  rw [plc_1]; unfold scs Pq.pl; simp only [List.length_map]
theorem plq_2 : readCells (List.drop 2 (plc q.pl)) none = some (.is q.hs.length false (pcs q.hs)) := by
  rw [plc_2]; unfold pcs Pq.pl; simp only [List.length_map]
end
theorem sat_ok {q : Pq} (h : q.ok) {i : Nat} (hi : i < q.ss.length) : SqOk q.ps.length (sat q.ss i) := by
  have e : q.ss.getD i (0, 0, false) = q.ss[i] := by simp [List.getD, List.getElem?_eq_getElem hi]
  unfold sat; rw [e]; exact h.sg _ (List.getElem_mem hi)
/-! ### Points on segments -/
def onI (ps : List (Rat × Rat)) (s : Sq) (x y : Rat) : Bool := decide (onP (px ps s.1) (py ps s.1) (px ps s.2.1) (py ps s.2.1) x y)
def thrI (ps : List (Rat × Rat)) (s : Sq) (k : Nat) : Bool := decide (¬ (k : Int) = s.1) && (decide (¬ (k : Int) = s.2.1) && onI ps s (px ps k) (py ps k))
/-- The first pair of all. -/
def pairG (n : Nat) (P : Nat → Nat → Bool) : Nat → Nat → Option (Nat × Nat)
  | 0, _ => none
  | m + 1, i => match scan (P i) n 0 with
    | some k => some (i, k)
    | none => pairG n P m (i + 1)
theorem thr_l1 {q : Pq} (h : q.ok) {i j : Nat} {s : Sq} (hs : SqOk q.ps.length s) {RR : Option AV} {y8 y9 : AV} : ∀ (m k : Nat) (hh : Heap), k + m = q.ps.length → 1 < hh.length → live hh 0 = some (plc q.pl) → live hh 1 = some z3i → j < hh.length → live hh j = some [.int .i64 (s.1 : Int), .int .i64 (s.2.1 : Int), .bool s.2.2] →
    (∀ hh', 1 < hh'.length → live hh' 0 = some (plc q.pl) → live hh' 1 = some z3i → well_through.l0 (.rp 0 0) (.rp 1 0) y8 y9 (.int .i64 ((i + 1 : Nat) : Int)) hh' = RR) → i ≤ 100000 →
    well_through.l1 (.rp 0 0) (.rp 1 0) (.int .i64 (i : Int)) (.rp j 0) y8 y9 (.int .i64 (i : Int)) (.is q.ps.length false (pcs q.ps)) (.int .i64 q.ps.length) (.int .i64 (k : Int)) hh = match scan (thrI q.ps s) m k with | some k' => some (fd 9 i k') | none => RR := by
  have n1 := h.n1
  obtain ⟨a, b, f⟩ := s
  obtain ⟨sa, sb, _⟩ := hs
  simp only at sa sb
  have ea := pcs_at sa
  have eb := pcs_at sb
  intro m
  induction m with
  | zero =>
    intro k hh hkm h0 hl0 hl1 hj hlj hR hi
    obtain rfl : k = q.ps.length := by omega
    rw [well_through.l1_eq]
    simp (disch := first | exact dD | fail) only [Wd, W2d, W3d, Nat.reduceAdd, Nat.reduceMul, Nat.reduceSub]
    exact hR hh h0 hl0 hl1
  | succ m ih =>
    intro k hh hkm h0 hl0 hl1 hj hlj hR hi
    have hk : k < q.ps.length := by omega
    rw [well_through.l1_eq]
    have e1 := pcs_at hk
    have a0 : ∀ x, live (hh ++ [x]) 0 = some (plc q.pl) := fun x => lv_app (by omega) hl0
    have a1 : ∀ x, live (hh ++ [x]) 1 = some z3i := fun x => lv_app h0 hl1
    have aj : ∀ x, live (hh ++ [x]) j = some [.int .i64 (a : Int), .int .i64 (b : Int), .bool f] := fun x => lv_app hj hlj
    have av : ∀ x cs, live ((hh ++ [x]).set 1 (some cs)) 1 = some cs := fun x cs => live_set_self (a1 x)
    have g := fun x => ih (k + 1) (hh ++ [x]) (by omega) (by rw [List.length_append]; omega) (a0 x) (a1 x) (by rw [List.length_append]; omega) (aj x) hR hi
    have ko := fun h' => c_won (h := h') (h.zp.x sa).1 (h.zp.x sa).2 (h.zp.x sb).1 (h.zp.x sb).2 (h.zp.x hk).1 (h.zp.x hk).2
    rw [scan]
    unfold thrI onI at *
    simp only at g ko ⊢
    by_cases q1 : (k : Int) = a
    · rw [decide_eq_false (not_not_intro q1), Bool.false_and, if_neg (by decide)]
      simp (disch := first | exact dD | fail) only [Wd, W2d, W3d, Nat.reduceAdd, Nat.reduceMul, Nat.reduceSub, e1, ea, eb, set_app_self, live_app_self, a0, a1, aj, plq_0, cond_d, decide_eq_true q1, decide_eq_false (not_not_intro q1), ko]
      exact g _
    rw [decide_eq_true q1, Bool.true_and]
    by_cases q2 : (k : Int) = b
    · rw [decide_eq_false (not_not_intro q2), Bool.false_and, if_neg (by decide)]
      simp (disch := first | exact dD | fail) only [Wd, W2d, W3d, Nat.reduceAdd, Nat.reduceMul, Nat.reduceSub, e1, ea, eb, set_app_self, live_app_self, a0, a1, aj, plq_0, cond_d, decide_eq_true q1, decide_eq_false (not_not_intro q2), ko]
      exact g _
    rw [decide_eq_true q2, Bool.true_and]
    generalize decide (onP (px q.ps a) (py q.ps a) (px q.ps b) (py q.ps b) (px q.ps k) (py q.ps k)) = o at *
    cases o
    · rw [if_neg (by decide)]
      simp (disch := first | exact dD | fail) only [Wd, W2d, W3d, Nat.reduceAdd, Nat.reduceMul, Nat.reduceSub, e1, ea, eb, set_app_self, live_app_self, a0, a1, aj, plq_0, decide_eq_true q1, decide_eq_true q2, ko]
      exact g _
    · rw [if_pos rfl]
      simp (disch := first | exact dD | fail) only [Wd, W2d, W3d, Nat.reduceAdd, Nat.reduceMul, Nat.reduceSub, e1, ea, eb, set_app_self, live_app_self, a0, a1, aj, av, plq_0, decide_eq_true q1, decide_eq_true q2, ko, frz_i3]
theorem thr_l0 {q : Pq} (h : q.ok) : ∀ (m i : Nat) (hh : Heap), i + m = q.ss.length → 1 < hh.length → live hh 0 = some (plc q.pl) → live hh 1 = some z3i →
    well_through.l0 (.rp 0 0) (.rp 1 0) (.is q.ss.length false (scs q.ss)) (.int .i64 q.ss.length) (.int .i64 (i : Int)) hh = some (found 9 (pairG q.ps.length (fun i k => thrI q.ps (sat q.ss i) k) m i)) := by
  have n1 := h.n1
  have n2 := h.n2
  intro m
  induction m with
  | zero =>
    intro i hh him h0 hl0 hl1
    obtain rfl : i = q.ss.length := by omega
    have av : ∀ cs, live (hh.set 1 (some cs)) 1 = some cs := fun cs => live_set_self hl1
    rw [well_through.l0_eq]
    simp (disch := first | exact dD | fail) only [Wd, W2d, W3d, Nat.reduceAdd, Nat.reduceMul, Nat.reduceSub, hl1, av, frz_i3]
    rfl
  | succ m ih =>
    intro i hh him h0 hl0 hl1
    have hi : i < q.ss.length := by omega
    rw [well_through.l0_eq]
    have e1 := scs_at hi
    have a0 : ∀ x, live (hh ++ [x]) 0 = some (plc q.pl) := fun x => lv_app (by omega) hl0
    have a1 : ∀ x, live (hh ++ [x]) 1 = some z3i := fun x => lv_app h0 hl1
    have g := thr_l1 (y8 := .is q.ss.length false (scs q.ss)) (y9 := .int .i64 q.ss.length) (i := i) (j := hh.length) h (sat_ok h hi) q.ps.length 0 (hh ++ [some [.int .i64 ((sat q.ss i).1 : Int), .int .i64 ((sat q.ss i).2.1 : Int), .bool (sat q.ss i).2.2]]) (by omega) (by rw [List.length_append]; omega) (a0 _) (a1 _) (by rw [List.length_append]; simp) live_app_self (fun hh' q1 q2 q3 => ih (i + 1) hh' (by omega) q1 q2 q3) (by omega)
    simp (disch := first | exact dD | fail) only [Wd, W2d, W3d, Nat.reduceAdd, Nat.reduceMul, Nat.reduceSub, e1, set_app_self, live_app_self, a0, plq_0]
    refine g.trans ?_
    rw [pairG]
    cases scan (fun k => thrI q.ps (sat q.ss i) k) q.ps.length 0 <;> rfl
theorem k_through {h : Heap} {q : Pq} (hq : q.ok) : byVal (callW gp) h fid.well_through [.agg (plc q.pl)] = some (fdv (foundF 9 (pairG q.ps.length (fun i k => thrI q.ps (sat q.ss i) k) q.ss.length 0))) := byVal_imm (imm_L1 imm_pl) (by
  rw [well_through.eq, ← found_eq]
  unfold well_through.f
  have l := thr_l0 hq q.ss.length 0
  simp (disch := first | exact dD | fail) only [Wd, W2d, W3d, Nat.reduceAdd, Nat.reduceMul, Nat.reduceSub, plq_1]
  exact l _ (by omega) (by simp) rfl rfl)
/-! ### Holes -/
def eqN (ps : List (Rat × Rat)) (x y : Rat) (k : Nat) : Bool := decide (x = px ps k ∧ y = py ps k)
def ixV : Option Nat → AV
  | some k => .int .i64 (k : Int)
  | none => .int .i64 (-1)
theorem index_l0 {ps : List (Rat × Rat)} {x y : Rat} {f : Bool} (hn : ps.length ≤ 100000) : ∀ (m k : Nat), k + m = ps.length →
    slices_Index_Lapi_Point_api_Point.l0 (.is ps.length f (pcs ps)) (.rp 0 0) (.int .i64 ps.length) (.int .i64 (k : Int)) [some [.bool (decide (x.num < 0)), str (nb x.num.natAbs), str (nb x.den), .bool (decide (y.num < 0)), str (nb y.num.natAbs), str (nb y.den)]] = some (ixV (scan (eqN ps x y) m k)) := by
  intro m
  induction m with
  | zero =>
    intro k hkm
    obtain rfl : k = ps.length := by omega
    rw [slices_Index_Lapi_Point_api_Point.l0_eq]
    simp (disch := first | exact dD | fail) only [Wd, W2d, W3d, Nat.reduceAdd, Nat.reduceMul, Nat.reduceSub]
    rfl
  | succ m ih =>
    intro k hkm
    have hk : k < ps.length := by omega
    have e1 := pcs_at hk
    rw [slices_Index_Lapi_Point_api_Point.l0_eq, scan]
    have eq := @eqa_p x y (px ps k) (py ps k)
    unfold eqN at *
    by_cases q : x = px ps k ∧ y = py ps k
    · rw [decide_eq_true q] at eq ⊢
      rw [if_pos rfl]
      simp (disch := first | exact dD | fail) only [Wd, W2d, W3d, Nat.reduceAdd, Nat.reduceMul, Nat.reduceSub, e1, eq]
      rfl
    · rw [decide_eq_false q] at eq ⊢
      rw [if_neg (by decide)]
      simp (disch := first | exact dD | fail) only [Wd, W2d, W3d, Nat.reduceAdd, Nat.reduceMul, Nat.reduceSub, e1, eq]
      exact ih (k + 1) (by omega)
theorem k_index {h : Heap} {ps : List (Rat × Rat)} {x y : Rat} {f : Bool} (hn : ps.length ≤ 100000) : byVal (callW gp) h fid.slices_Index_Lapi_Point_api_Point [.is ps.length f (pcs ps), pa x y] = some (ixV (scan (eqN ps x y) ps.length 0)) := by
  have hc : cv gp fid.slices_Index_Lapi_Point_api_Point [.is ps.length false (pcs ps), pa x y] = some (ixV (scan (eqN ps x y) ps.length 0)) := by
    rw [slices_Index_Lapi_Point_api_Point.eq]
    unfold slices_Index_Lapi_Point_api_Point.f
    simp (disch := first | exact dD | fail) only [Wd, W2d, W3d, Nat.reduceAdd, Nat.reduceMul, Nat.reduceSub]
    exact index_l0 hn ps.length 0 (by omega)
  refine byVal_flat (xs := [.is ps.length false (pcs ps), pa x y]) ?_ hc ?_
  · have h1 : freeze h (.is ps.length f (pcs ps)) = some (.is ps.length false (pcs ps)) := by
      show freezeN 12 h _ = _
      rw [fz_is, imm_mapM (imm_pcs ps) (by omega)]; rfl
    simp only [List.mapM_cons, List.mapM_nil, h1, frz_p]
    rfl
  · cases scan (eqN ps x y) ps.length 0 <;> rfl
theorem geq_ix (o : Option Nat) : opBin .geq (ixV o) (.int .i64 0) = some (.bool o.isSome) := by
  cases o with
  | none => rfl
  | some k =>
    unfold ixV
    have : decide ((k : Int) ≥ 0) = true := decide_eq_true (by omega)
    simp (disch := first | exact dD | fail) only [Wd, W2d, W3d, Nat.reduceAdd, Nat.reduceMul, Nat.reduceSub]
    rfl
theorem k_wcontains {h : Heap} {ps : List (Rat × Rat)} {x y : Rat} {f : Bool} (hn : ps.length ≤ 100000) : byVal (callW gp) h fid.slices_Contains_Lapi_Point_api_Point [.is ps.length f (pcs ps), pa x y] = some (.bool (scan (eqN ps x y) ps.length 0).isSome) := by
  have hc : cv gp fid.slices_Contains_Lapi_Point_api_Point [.is ps.length false (pcs ps), pa x y] = some (.bool (scan (eqN ps x y) ps.length 0).isSome) := by
    rw [slices_Contains_Lapi_Point_api_Point.eq]
    unfold slices_Contains_Lapi_Point_api_Point.f
    simp (disch := first | exact dD | fail) only [Wd, W2d, W3d, Nat.reduceAdd, Nat.reduceMul, Nat.reduceSub, k_index, geq_ix]
  refine byVal_flat (xs := [.is ps.length false (pcs ps), pa x y]) ?_ hc rfl
  have h1 : freeze h (.is ps.length f (pcs ps)) = some (.is ps.length false (pcs ps)) := by
    show freezeN 12 h _ = _
    rw [fz_is, imm_mapM (imm_pcs ps) (by omega)]; rfl
  simp only [List.mapM_cons, List.mapM_nil, h1, frz_p]
  rfl
/-- What is called tells whether it holds of one. -/
def TellsH (ss : List Sq) (fv : AV) (P : Nat → Bool) : Prop := ∀ (k : Nat) (hk : k < ss.length) (h : Heap) (K : AV → Heap → Option AV), callK' (callW gp) gp.refm h fv [.agg [.int .i64 ((sat ss k).1 : Int), .int .i64 ((sat ss k).2.1 : Int), .bool (sat ss k).2.2]] K = K (.bool (P k)) h
theorem indexF_l0 {ss : List Sq} {fv : AV} {P : Nat → Bool} {f : Bool} (hP : TellsH ss fv P) (hn : ss.length ≤ 100000) : ∀ (m k : Nat), k + m = ss.length →
    slices_IndexFunc_Lapi_Seg_api_Seg.l0 (.is ss.length f (scs ss)) fv (.int .i64 ss.length) (.int .i64 (k : Int)) [] = some (ixV (scan P m k)) := by
  intro m
  induction m with
  | zero =>
    intro k hkm
    obtain rfl : k = ss.length := by omega
    rw [slices_IndexFunc_Lapi_Seg_api_Seg.l0_eq]
    simp (disch := first | exact dD | fail) only [Wd, W2d, W3d, Nat.reduceAdd, Nat.reduceMul, Nat.reduceSub]
    rfl
  | succ m ih =>
    intro k hkm
    have hk : k < ss.length := by omega
    have e1 := scs_at hk
    have hp := hP k hk
    rw [slices_IndexFunc_Lapi_Seg_api_Seg.l0_eq, scan]
    cases hb : P k
    · rw [hb] at hp
      rw [if_neg (by decide)]
      simp (disch := first | exact dD | fail) only [Wd, W2d, W3d, Nat.reduceAdd, Nat.reduceMul, Nat.reduceSub, e1, hp]
      exact ih (k + 1) (by omega)
    · rw [hb] at hp
      rw [if_pos rfl]
      simp (disch := first | exact dD | fail) only [Wd, W2d, W3d, Nat.reduceAdd, Nat.reduceMul, Nat.reduceSub, e1, hp]
      rfl
theorem c_containsF {h : Heap} {ss : List Sq} {x fx fv : AV} {P : Nat → Bool} (hP : TellsH ss fv P) (hn : ss.length ≤ 100000) (hx : freeze h x = some (.is ss.length false (scs ss))) (hf : freeze h fx = some fv) (hi : Imm 12 fv) : byVal (callW gp) h fid.slices_ContainsFunc_Lapi_Seg_api_Seg [x, fx] = some (.bool (scan P ss.length 0).isSome) := by
  have ki : ∀ h, byVal (callW gp) h fid.slices_IndexFunc_Lapi_Seg_api_Seg [.is ss.length false (scs ss), fv] = some (ixV (scan P ss.length 0)) := fun h => byVal_imm (imm_L2 ((imm_is (imm_scs ss)).mono (by omega)) hi) (by
    rw [slices_IndexFunc_Lapi_Seg_api_Seg.eq]
    unfold slices_IndexFunc_Lapi_Seg_api_Seg.f
    simp only [len_is, bind_s]
    exact indexF_l0 hP hn ss.length 0 (by omega))
  have hc : cv gp fid.slices_ContainsFunc_Lapi_Seg_api_Seg [.is ss.length false (scs ss), fv] = some (.bool (scan P ss.length 0).isSome) := by
    rw [slices_ContainsFunc_Lapi_Seg_api_Seg.eq]
    unfold slices_ContainsFunc_Lapi_Seg_api_Seg.f
    simp (disch := first | exact dD | fail) only [Wd, W2d, W3d, Nat.reduceAdd, Nat.reduceMul, Nat.reduceSub, ki, geq_ix]
  refine byVal_flat ?_ hc rfl
  simp only [List.mapM_cons, List.mapM_nil, hx, hf]
  rfl
/-- A point's cells. -/
def ptC (x y : Rat) : List AV := [.bool (decide (x.num < 0)), str (nb x.num.natAbs), str (nb x.den), .bool (decide (y.num < 0)), str (nb y.num.natAbs), str (nb y.den)]
theorem imm_ptC {x y : Rat} : ∀ c ∈ ptC x y, Imm 1 c := imm_ptc (rt x, rt y)
theorem tellsH {q : Pq} (h : q.ok) {x y : Rat} (hx : Rz x 100) (hy : Rz y 100) : TellsH q.ss (.fn fid.well_holes_1 [.ip (plc q.pl), .ip (ptC x y)]) (fun k => onI q.ps (sat q.ss k) x y) := by
  intro k hk hh K
  rw [callfn rfl]
  show _ = K (.bool (onI q.ps (sat q.ss k) x y)) hh
  have n1 := h.n1
  obtain ⟨a1, b1, _⟩ := sat_ok h hk
  generalize sat q.ss k = s at *
  obtain ⟨a, b, f⟩ := s
  simp only at a1 b1
  have ea := pcs_at a1
  have eb := pcs_at b1
  have ko := fun h' => c_won (h := h') (h.zp.x a1).1 (h.zp.x a1).2 (h.zp.x b1).1 (h.zp.x b1).2 hx hy
  have : byVal (callW gp) hh fid.well_holes_1 [.agg [.int .i64 (a : Int), .int .i64 (b : Int), .bool f], .ip (plc q.pl), .ip (ptC x y)] = some (.bool (onI q.ps (a, b, f) x y)) := byVal_imm (imm_L3 (imm_sg (s := ⟨a, b, f⟩)) ((imm_ip (imm_plc (p := q.pl))).mono (by omega)) ((imm_ip imm_ptC).mono (by omega))) (by
    rw [well_holes_1.eq]
    unfold well_holes_1.f onI ptC
    simp (disch := first | exact dD | fail) only [Wd, W2d, W3d, Nat.reduceAdd, Nat.reduceMul, Nat.reduceSub, plq_0, ea, eb, ko])
  show ((byVal (callW gp) hh fid.well_holes_1 [.agg [.int .i64 (a : Int), .int .i64 (b : Int), .bool f], .ip (plc q.pl), .ip (ptC x y)]).bind fun v => K v hh) = K (.bool (onI q.ps (a, b, f) x y)) hh
  rw [this]; rfl
/-- Does a hole's point lie on something? -/
def holeI (q : Pq) (i : Nat) : Bool := (scan (eqN q.ps (px q.hs i) (py q.hs i)) q.ps.length 0).isSome || (scan (fun k => onI q.ps (sat q.ss k) (px q.hs i) (py q.hs i)) q.ss.length 0).isSome
theorem frz_rp {h : Heap} {id d n : Nat} {cs : List AV} (hl : live h id = some cs) (hi : ∀ c ∈ cs, Imm d c) (hd : d ≤ n) : freezeN (n + 1) h (.rp id 0) = some (.ip cs) := by
  show ((live h id).bind fun cs => ((cs.drop 0).mapM (freezeN n h)).map AV.ip) = _
  rw [hl, Option.bind_some, List.drop_zero, imm_mapM hi hd]; rfl
theorem holes_l0 {q : Pq} (h : q.ok) : ∀ (m i : Nat) (hh : Heap), i + m = q.hs.length → 1 < hh.length → live hh 0 = some (plc q.pl) → live hh 1 = some z3i →
    well_holes.l0 (.rp 0 0) (.rp 1 0) (.is q.hs.length false (pcs q.hs)) (.int .i64 q.hs.length) (.int .i64 (i : Int)) hh = some (match scan (holeI q) m i with | some i' => fd 11 i' 0 | none => .agg z3i) := by
  have n1 := h.n1
  have n2 := h.n2
  have n3 := h.n3
  intro m
  induction m with
  | zero =>
    intro i hh him h0 hl0 hl1
    obtain rfl : i = q.hs.length := by omega
    have av : ∀ cs, live (hh.set 1 (some cs)) 1 = some cs := fun cs => live_set_self hl1
    rw [well_holes.l0_eq]
    simp (disch := first | exact dD | fail) only [Wd, W2d, W3d, Nat.reduceAdd, Nat.reduceMul, Nat.reduceSub, hl1, av, frz_i3]
    rfl
  | succ m ih =>
    intro i hh him h0 hl0 hl1
    have hi : i < q.hs.length := by omega
    rw [well_holes.l0_eq]
    have e1 := pcs_at hi
    obtain ⟨zx, zy⟩ := h.zh.x hi
    have a0 : ∀ x, live (hh ++ [x]) 0 = some (plc q.pl) := fun x => lv_app (by omega) hl0
    have a1 : ∀ x, live (hh ++ [x]) 1 = some z3i := fun x => lv_app h0 hl1
    have av : ∀ x cs, live ((hh ++ [x]).set 1 (some cs)) 1 = some cs := fun x cs => live_set_self (a1 x)
    have g := fun x => ih (i + 1) (hh ++ [x]) (by omega) (by rw [List.length_append]; omega) (a0 x) (a1 x)
    have th := tellsH h zx zy
    have hfz : freeze (hh ++ [some (ptC (px q.hs i) (py q.hs i))]) (.fn fid.well_holes_1 [.rp 0 0, .rp hh.length 0]) = some (.fn fid.well_holes_1 [.ip (plc q.pl), .ip (ptC (px q.hs i) (py q.hs i))]) := by
      show ([AV.rp 0 0, AV.rp hh.length 0].mapM (freezeN 11 _)).map _ = _
      have r1 := frz_rp (n := 10) (a0 (some (ptC (px q.hs i) (py q.hs i)))) (imm_plc (p := q.pl)) (by omega)
      have r2 := frz_rp (n := 10) (h := hh ++ [some (ptC (px q.hs i) (py q.hs i))]) (id := hh.length) live_app_self imm_ptC (by omega)
      simp only [List.mapM_cons, List.mapM_nil, r1, r2]
      rfl
    have hsz : freeze (hh ++ [some (ptC (px q.hs i) (py q.hs i))]) (.is q.ss.length false (scs q.ss)) = some (.is q.ss.length false (scs q.ss)) := by
      show freezeN 12 _ _ = _
      rw [fz_is, imm_mapM (imm_scs q.ss) (by omega)]; rfl
    have kf := c_containsF th h.n2 hsz hfz ((imm_fn (d := 3) (fun c hc => by
      rcases List.mem_cons.1 hc with rfl | hc
      · exact imm_ip (imm_plc (p := q.pl))
      · rcases List.mem_cons.1 hc with rfl | hc
        · exact (imm_ip imm_ptC).mono (by omega)
        · cases hc)).mono (by omega))
    have kc := fun h' => k_wcontains (h := h') (f := false) (x := px q.hs i) (y := py q.hs i) h.n1
    rw [scan]
    unfold holeI at *
    unfold ptC at kf
    cases b1 : (scan (eqN q.ps (px q.hs i) (py q.hs i)) q.ps.length 0).isSome
    rotate_left
    · rw [b1] at kc
      rw [Bool.true_or, if_pos rfl]
      simp (disch := first | exact dD | fail) only [Wd, W2d, W3d, Nat.reduceAdd, Nat.reduceMul, Nat.reduceSub, e1, set_app_self, live_app_self, a0, a1, av, plq_0, plq_1, kc, frz_i3]
    · rw [b1] at kc
      rw [Bool.false_or]
      cases b2 : (scan (fun k => onI q.ps (sat q.ss k) (px q.hs i) (py q.hs i)) q.ss.length 0).isSome
      · rw [b2] at kf
        rw [if_neg (by decide)]
        simp (disch := first | exact dD | fail) only [Wd, W2d, W3d, Nat.reduceAdd, Nat.reduceMul, Nat.reduceSub, e1, set_app_self, live_app_self, a0, a1, av, plq_0, plq_1, kc, kf]
        exact g _
      · rw [b2] at kf
        rw [if_pos rfl]
        simp (disch := first | exact dD | fail) only [Wd, W2d, W3d, Nat.reduceAdd, Nat.reduceMul, Nat.reduceSub, e1, set_app_self, live_app_self, a0, a1, av, plq_0, plq_1, kc, kf, frz_i3]
def holesF (q : Pq) : Fnd := match scan (holeI q) q.hs.length 0 with
  | some i => (11, i, 0)
  | none => (0, 0, 0)
theorem k_holes {h : Heap} {q : Pq} (hq : q.ok) : byVal (callW gp) h fid.well_holes [.agg (plc q.pl)] = some (fdv (holesF q)) := byVal_imm (imm_L1 imm_pl) (by
  rw [well_holes.eq]
  unfold well_holes.f holesF
  have l := holes_l0 hq q.hs.length 0
  simp (disch := first | exact dD | fail) only [Wd, W2d, W3d, Nat.reduceAdd, Nat.reduceMul, Nat.reduceSub, plq_2]
  refine (l _ (by omega) (by simp) rfl rfl).trans ?_
  cases scan (holeI q) q.hs.length 0 <;> rfl)
end Go.Proofs.YtechbfodaallkaaGreat.Am

/- Well: the first thing that is wrong. -/
set_option linter.unusedVariables false
set_option maxRecDepth 10000
set_option linter.unusedSimpArgs false
namespace Go.Proofs.YtechbfodaallkaaGreat.Am
open Go

theorem scan_none {P : Nat → Bool} : ∀ {m k : Nat}, scan P m k = none → ∀ j, k ≤ j → j < k + m → P j = false
  | 0, k, _, j, h1, h2 => by omega
  | m + 1, k, h, j, h1, h2 => by
    rw [scan] at h
    by_cases hp : P k = true
    · rw [if_pos hp] at h; cases h
    · rw [if_neg hp] at h
      by_cases hj : j = k
      · subst hj; cases hq : P j
        · rfl
        · exact absurd hq hp
      · exact scan_none h j (by omega) (by omega)
theorem pairF_none {P : Nat → Nat → Bool} : ∀ {m i : Nat}, pairF P m i = none → ∀ a, i ≤ a → a < i + m → ∀ k, k < a → P a k = false
  | 0, i, _, a, h1, h2 => by omega
  | m + 1, i, h, a, h1, h2 => by
    rw [pairF] at h
    cases hs : scan (P i) i 0 with
    | some k => rw [hs] at h; cases h
    | none =>
      rw [hs] at h
      by_cases ha : a = i
      · subst ha; exact fun k hk => scan_none hs k (by omega) (by omega)
      · exact pairF_none h a (by omega) (by omega)
theorem eqI_symm {ps : List (Rat × Rat)} {i k : Nat} (h : eqI ps i k = false) : eqI ps k i = false := by
  unfold eqI at *
  have h := of_decide_eq_false h
  exact decide_eq_false fun hh => h ⟨hh.1.symm, hh.2.symm⟩
def twiceF (q : Pq) : Option (Nat × Nat) := pairF (eqI q.ps) q.ps.length 0
def thrF (q : Pq) : Option (Nat × Nat) := pairG q.ps.length (fun i k => thrI q.ps (sat q.ss i) k) q.ss.length 0
def crsF (q : Pq) : Option (Nat × Nat) := pairF (fun i k => crossI q.ps (sat q.ss i) (sat q.ss k)) q.ss.length 0
def angF (q : Pq) : Option (Nat × Nat) := pairF (fun i k => sharpI q.ps (sat q.ss i) (sat q.ss k)) q.ss.length 0
/-- The first thing that is wrong with a plan whose parts may be so. -/
def firstQ (q : Pq) : Fnd :=
  match twiceF q with
  | some (i, k) => (8, i, k)
  | none => match thrF q with
    | some (i, k) => (9, i, k)
    | none => match crsF q with
      | some (i, k) => (9, i, k)
      | none => match angF q with
        | some (i, k) => (10, i, k)
        | none => holesF q
theorem distinct {q : Pq} (h : twiceF q = none) : ∀ i k, i < q.ps.length → k < q.ps.length → i ≠ k → eqI q.ps i k = false := fun i k hi hk hne => by
  rcases Nat.lt_or_gt_of_ne hne with hh | hh
  · exact eqI_symm (pairF_none h k (by omega) (by omega) i hh)
  · exact pairF_none h i (by omega) (by omega) k hh
theorem frz_iii {h : Heap} {a b c : Int} : freeze h (.tup [.int .i64 a, .int .i64 b, .int .i64 c]) = some (.tup [.int .i64 a, .int .i64 b, .int .i64 c]) := Eq.trans rfl rfl
section
variable {q : Pq}
theorem kp1 {H : Heap} (hq : q.ok) : byVal (callW gp) H fid.well_pairs_api_Point [.is q.ps.length false (pcs q.ps), .int .i64 8, .fn fid.well_First_1 []] = some (fdv (foundF 8 (twiceF q))) := by
  have := c_pairsP (H := H) (x := .is q.ps.length false (pcs q.ps)) (fx := .fn fid.well_First_1 []) (e := 8) (tells1 q.ps) (by rw [List.length_map]; exact hq.n1) (by
    rw [List.length_map]
    show freezeN 12 H _ = _
    rw [fz_is, imm_mapM (imm_pcs q.ps) (by omega)]; rfl) rfl
  rw [List.length_map, found_eq] at this
  exact this
theorem frzS {H : Heap} : freeze H (.is q.ss.length false (scs q.ss)) = some (.is q.ss.length false (scs q.ss)) := by
  show freezeN 12 H _ = _
  rw [fz_is, imm_mapM (imm_scs q.ss) (by omega)]; rfl
theorem frzC {H : Heap} {f : Nat} {x : Option (List AV)} : freeze (x :: some [.is q.ps.length false (pcs q.ps)] :: H) (.fn f [.rp 1 0]) = some (.fn f [capP q.ps]) := by
  show ([AV.rp 1 0].mapM (freezeN 11 _)).map _ = _
  have r1 := frz_rp (n := 10) (h := x :: some [.is q.ps.length false (pcs q.ps)] :: H) (id := 1) (d := 2) rfl (fun c hc => by
    rcases List.mem_cons.1 hc with rfl | hc
    · exact imm_is (imm_pcs q.ps)
    · cases hc) (by omega)
  simp only [List.mapM_cons, List.mapM_nil, r1]
  rfl
theorem kp2 {H : Heap} {x : Option (List AV)} (hq : q.ok) : byVal (callW gp) (x :: some [.is q.ps.length false (pcs q.ps)] :: H) fid.well_pairs_api_Seg [.is q.ss.length false (scs q.ss), .int .i64 9, .fn fid.well_First_2 [.rp 1 0]] = some (fdv (foundF 9 (crsF q))) := by
  have := c_pairsS (H := x :: some [.is q.ps.length false (pcs q.ps)] :: H) (x := .is q.ss.length false (scs q.ss)) (fx := .fn fid.well_First_2 [.rp 1 0]) (e := 9) (tells2 hq.zp hq.sg) (by rw [List.length_map]; exact hq.n2) (by rw [List.length_map]; exact frzS) frzC
  rw [List.length_map, found_eq] at this
  exact this
theorem kp3 {H : Heap} {x : Option (List AV)} (hq : q.ok) (hd : twiceF q = none) : byVal (callW gp) (x :: some [.is q.ps.length false (pcs q.ps)] :: H) fid.well_pairs_api_Seg [.is q.ss.length false (scs q.ss), .int .i64 10, .fn fid.well_First_3 [.rp 1 0]] = some (fdv (foundF 10 (angF q))) := by
  have := c_pairsS (H := x :: some [.is q.ps.length false (pcs q.ps)] :: H) (x := .is q.ss.length false (scs q.ss)) (fx := .fn fid.well_First_3 [.rp 1 0]) (e := 10) (tells3 hq.zp (distinct hd) hq.sg) (by rw [List.length_map]; exact hq.n2) (by rw [List.length_map]; exact frzS) frzC
  rw [List.length_map, found_eq] at this
  exact this
end
abbrev fdt (f : Fnd) : AV := .tup [.int .i64 f.1, .int .i64 f.2.1, .int .i64 f.2.2]
section
variable {h : Heap}
theorem k_firstE {p : Pl} (hp : p.ok) (he : (givenF p).1 ≠ 0) : byVal (callW gp) h fid.well_First [.agg (plc p)] = some (fdt (givenF p)) := byVal_imm (imm_L1 imm_pl) (by
  have kg := fun h => k_given (h := h) hp
  rw [well_First.eq]
  unfold well_First.f well_First.j0 well_First.j1 well_First.j2 well_First.j3 well_First.j4
  generalize givenF p = g at *
  obtain ⟨e, a, b⟩ := g
  unfold fdv at kg
  simp only at kg he ⊢
  simp (maxSteps := 1000000) (disch := first | exact dD | fail) only [Wd, W2d, W3d, Nat.reduceAdd, Nat.reduceMul, Nat.reduceSub, rc39, plc_0, kg, cond_d, decide_eq_false he, he, frz_iii])
theorem k_firstQ {q : Pq} (hq : q.ok) (hg : givenF q.pl = (0, 0, 0)) : byVal (callW gp) h fid.well_First [.agg (plc q.pl)] = some (fdt (firstQ q)) := byVal_imm (imm_L1 imm_pl) (by
  have kg := fun h => k_given (h := h) (Pq.plok hq)
  rw [hg] at kg
  have k1 := fun H => kp1 (H := H) hq
  have k2 := fun h => k_through (h := h) hq
  have k3 := fun x H => kp2 (x := x) (H := H) hq
  have k5 := fun h => k_holes (h := h) hq
  change ∀ h, _ = some (fdv (foundF 9 (thrF q))) at k2
  rw [well_First.eq]
  unfold well_First.f firstQ
  cases c1 : twiceF q with
  | some r =>
    rw [c1] at k1
    obtain ⟨i, k⟩ := r
    unfold foundF fdv at k1
    unfold fdv at kg
    simp only at k1 kg ⊢
    unfold well_First.j0 well_First.j1 well_First.j2 well_First.j3 well_First.j4
    simp (maxSteps := 1000000) (disch := first | exact dD | fail) only [Wd, W2d, W3d, Nat.reduceAdd, Nat.reduceMul, Nat.reduceSub, rc39, plq_0, kg, k1, frz_iii]
  | none =>
    have k4 := fun x H => kp3 (x := x) (H := H) hq c1
    rw [c1] at k1
    cases c2 : thrF q with
    | some r =>
      rw [c2] at k2
      obtain ⟨i, k⟩ := r
      unfold foundF fdv at k1 k2
      unfold fdv at kg
      simp only at k1 k2 kg ⊢
      unfold well_First.j0 well_First.j1 well_First.j2 well_First.j3 well_First.j4
      simp (maxSteps := 1000000) (disch := first | exact dD | fail) only [Wd, W2d, W3d, Nat.reduceAdd, Nat.reduceMul, Nat.reduceSub, rc39, plq_0, kg, k1, k2, frz_iii]
    | none =>
      rw [c2] at k2
      cases c3 : crsF q with
      | some r =>
        rw [c3] at k3
        obtain ⟨i, k⟩ := r
        unfold foundF fdv at k1 k2 k3
        unfold fdv at kg
        simp only at k1 k2 k3 kg ⊢
        unfold well_First.j0 well_First.j1 well_First.j2 well_First.j3 well_First.j4
        simp (maxSteps := 1000000) (disch := first | exact dD | fail) only [Wd, W2d, W3d, Nat.reduceAdd, Nat.reduceMul, Nat.reduceSub, rc39, plq_0, plq_1, kg, k1, k2, k3, frz_iii]
      | none =>
        rw [c3] at k3
        cases c4 : angF q with
        | some r =>
          rw [c4] at k4
          obtain ⟨i, k⟩ := r
          unfold foundF fdv at k1 k2 k3 k4
          unfold fdv at kg
          simp only at k1 k2 k3 k4 kg ⊢
          unfold well_First.j0 well_First.j1 well_First.j2 well_First.j3 well_First.j4
          simp (maxSteps := 1000000) (disch := first | exact dD | fail) only [Wd, W2d, W3d, Nat.reduceAdd, Nat.reduceMul, Nat.reduceSub, rc39, plq_0, plq_1, kg, k1, k2, k3, k4, frz_iii]
        | none =>
          rw [c4] at k4
          generalize holesF q = r at *
          obtain ⟨e, i, k⟩ := r
          unfold foundF at k1 k2 k3 k4
          unfold fdv at k1 k2 k3 k4 k5 kg
          simp only at k1 k2 k3 k4 k5 kg ⊢
          unfold well_First.j0 well_First.j1 well_First.j2 well_First.j3 well_First.j4
          simp (maxSteps := 1000000) (disch := first | exact dD | fail) only [Wd, W2d, W3d, Nat.reduceAdd, Nat.reduceMul, Nat.reduceSub, rc39, plq_0, plq_1, kg, k1, k2, k3, k4, k5, frz_iii])
theorem k_wcheck {p : Pl} {f : Fnd} (hf : ∀ h, byVal (callW gp) h fid.well_First [.agg (plc p)] = some (fdt f)) : byVal (callW gp) h fid.well_Check [.agg (plc p)] = some (.int .i64 f.1) := byVal_imm (imm_L1 imm_pl) (by
  rw [well_Check.eq]
  unfold well_Check.f
  simp (disch := first | exact dD | fail) only [Wd, W2d, W3d, Nat.reduceAdd, Nat.reduceMul, Nat.reduceSub, rc39, hf])
end
end Go.Proofs.YtechbfodaallkaaGreat.Am
