import Derived.Test.YtechbfodaallkaaGreatAmGeom2w
import Derived.Test.YtechbfodaallkaaGreatTPlan
/- Well: segments; the first pair of which something holds. -/
set_option linter.unusedVariables false
set_option maxRecDepth 10000
set_option linter.unusedSimpArgs false
namespace Go.Proofs.YtechbfodaallkaaGreat.Am
open Go

theorem imm_ip {d : Nat} {cs : List AV} (hc : ∀ c ∈ cs, Imm d c) : Imm (d + 1) (.ip cs) := fun m hm => by
  cases m with
  | zero => omega
  | succ m => exact ⟨imm_all hc (n := m) (by omega), fun hp => by show (cs.mapM (freezeN m hp)).map AV.ip = _; rw [imm_mapM hc (by omega)]; rfl⟩
theorem imm_fn {d f : Nat} {cs : List AV} (hc : ∀ c ∈ cs, Imm d c) : Imm (d + 1) (.fn f cs) := fun m hm => by
  cases m with
  | zero => omega
  | succ m => exact ⟨imm_all hc (n := m) (by omega), fun hp => by show (cs.mapM (freezeN m hp)).map (AV.fn f) = _; rw [imm_mapM hc (by omega)]; rfl⟩
/-- A segment. -/
structure Sg where
  a : Int
  b : Int
  f : Bool
def sgc (s : Sg) : List AV := [.int .i64 s.a, .int .i64 s.b, .bool s.f]
theorem sgc_len (s : Sg) : (sgc s).length = 3 := rfl
theorem imm_sgc (s : Sg) : ∀ c ∈ sgc s, Imm 1 c := imm_three imm_int imm_int imm_bool
theorem imm_sg {s : Sg} : Imm 12 (.agg (sgc s)) := (imm_agg (imm_sgc s)).mono (by omega)
theorem callfn {R : Type} {h : Heap} {f : Nat} {caps args : List AV} {K : AV → Heap → Option R} (hr : gp.refm f = false) : callK' (callW gp) gp.refm h (.fn f caps) args K = (byVal (callW gp) h f (args ++ caps)).bind fun v => K v h := by
  unfold callK'
  simp only [hr, cond_false]
theorem take_fm {α : Type} {f : α → List AV} {n : Nat} (hf : ∀ x, (f x).length = n) : ∀ (xs : List α) (i : Nat), (xs.flatMap f).take (i * n) = (xs.take i).flatMap f
  | xs, 0 => by simp
  | [], i + 1 => by simp
  | x :: xs, i + 1 => by
    rw [List.flatMap_cons, List.take_succ_cons, List.flatMap_cons, Nat.add_mul, Nat.one_mul, Nat.add_comm, ← hf x, List.take_append, List.take_of_length_le (by omega)]
    rw [show (f x).length + i * (f x).length - (f x).length = i * (f x).length by omega, hf x, take_fm hf xs i]
theorem slc_hd {α : Type} {f : α → List AV} {sz n i : Nat} {fl : Bool} {xs : List α} {k : IntKind} (hf : ∀ x, (f x).length = sz) (h : i ≤ n) : opSlc sz (.is n fl (xs.flatMap f)) none (some (.int k (i : Int))) none = some (.is i (fullOf none fl i n n) ((xs.take i).flatMap f)) := by
  rw [← take_fm hf]
  have h0 : (0 : Int) ≤ (i : Int) := by omega
  simp only [opSlc, bnd, if_pos h0, Option.bind_some, Int.toNat_natCast]
  rw [if_pos ⟨by omega, h, by omega⟩]
  simp
/-- The first number, from k on, of which something holds. -/
def scan (P : Nat → Bool) : Nat → Nat → Option Nat
  | 0, _ => none
  | m + 1, k => if P k = true then some k else scan P m (k + 1)
/-- The first pair, the greater number first. -/
def pairF (P : Nat → Nat → Bool) : Nat → Nat → Option (Nat × Nat)
  | 0, _ => none
  | m + 1, i => match scan (P i) i 0 with
    | some k => some (i, k)
    | none => pairF P m (i + 1)
abbrev z3i : List AV := [.int .i64 0, .int .i64 0, .int .i64 0]
abbrev fd (e i k : Int) : AV := .agg [.int .i64 e, .int .i64 i, .int .i64 k]
def found (e : Int) : Option (Nat × Nat) → AV
  | some (i, k) => fd e i k
  | none => .agg z3i
theorem frz_i3 {h : Heap} {a b c : Int} : freeze h (.agg [.int .i64 a, .int .i64 b, .int .i64 c]) = some (.agg [.int .i64 a, .int .i64 b, .int .i64 c]) := Eq.trans rfl rfl
theorem lv_app {h : Heap} {id : Nat} {x : Option (List AV)} {cs : List AV} (hi : id < h.length) (hl : live h id = some cs) : live (h ++ [x]) id = some cs := (live_old hi).trans hl

section
variable {xs : List Sg} {e : Int} {fv : AV} {P : Nat → Nat → Bool} {i : Nat}
/-- What is called tells whether it holds of two. -/
def TellsS (xs : List Sg) (fv : AV) (P : Nat → Nat → Bool) : Prop := ∀ (i k : Nat) (hi : i < xs.length) (hk : k < xs.length) (h : Heap) (K : AV → Heap → Option AV), callK' (callW gp) gp.refm h fv [.agg (sgc (xs[i]'hi)), .agg (sgc (xs[k]'hk))] K = K (.bool (P i k)) h
theorem pairsS_l1 (hP : TellsS xs fv P) (hi : i < xs.length) (hn : xs.length ≤ 100000) {fl : Bool} {RR : Option AV} {j : Nat} {yy : AV} {y0 y11 : AV} : ∀ (m k : Nat) (hh : Heap), k + m = i → 0 < hh.length → live hh 0 = some z3i → j < hh.length → live hh j = some (sgc (xs[i]'hi)) →
    (∀ hh', 0 < hh'.length → live hh' 0 = some z3i → well_pairs_api_Seg.l0 y0 (.int .i64 e) fv (.rp 0 0) y11 yy (.int .i64 ((i + 1 : Nat) : Int)) hh' = RR) →
    well_pairs_api_Seg.l1 y0 (.int .i64 e) fv (.rp 0 0) (.int .i64 (i : Int)) (.rp j 0) y11 yy (.int .i64 (i : Int)) (.is i fl ((xs.take i).flatMap sgc)) (.int .i64 (i : Int)) (.int .i64 (k : Int)) hh = match scan (P i) m k with | some k' => some (fd e i k') | none => RR := by
  intro m
  induction m with
  | zero =>
    intro k hh hkm h0 hl0 hj hlj hR
    obtain rfl : k = i := by omega
    rw [well_pairs_api_Seg.l1_eq]
    simp (disch := first | exact dD | fail) only [Wd, W2d, W3d, Nat.reduceAdd, Nat.reduceMul, Nat.reduceSub]
    exact hR hh h0 hl0
  | succ m ih =>
    intro k hh hkm h0 hl0 hj hlj hR
    rw [well_pairs_api_Seg.l1_eq]
    have hk : k < xs.length := by omega
    have hkt : k < (xs.take i).length := by rw [List.length_take]; omega
    have ex : (xs.take i)[k]'hkt = xs[k]'hk := List.getElem_take
    have e1 : ((xs.take i).flatMap sgc).drop (k * 3) = .int .i64 (xs[k]'hk).a :: .int .i64 (xs[k]'hk).b :: .bool (xs[k]'hk).f :: ((xs.take i).drop (k + 1)).flatMap sgc := by
      rw [drop_flatMap sgc_len, List.drop_eq_getElem_cons hkt, List.flatMap_cons, ex]; rfl
    have hp := hP i k hi hk
    have a0 : ∀ x, live (hh ++ [x]) 0 = some z3i := fun x => lv_app h0 hl0
    have aj : ∀ x, live (hh ++ [x]) j = some (sgc (xs[i]'hi)) := fun x => lv_app hj hlj
    have av : ∀ x cs, live ((hh ++ [x]).set 0 (some cs)) 0 = some cs := fun x cs => live_set_self (a0 x)
    have g := fun x => ih (k + 1) (hh ++ [x]) (by omega) (by rw [List.length_append]; omega) (a0 x) (by rw [List.length_append]; omega) (aj x) hR
    unfold sgc at hp aj

    rw [scan]
    by_cases hb : P i k = true
    · rw [hb] at hp
      rw [if_pos hb]
      simp (disch := first | exact dD | fail) only [Wd, W2d, W3d, Nat.reduceAdd, Nat.reduceMul, Nat.reduceSub, e1, set_app_self, live_app_self, a0, aj, av, hp, frz_i3]
    · have hb' : P i k = false := by cases h : P i k <;> simp_all
      rw [hb'] at hp
      rw [if_neg hb]
      simp (disch := first | exact dD | fail) only [Wd, W2d, W3d, Nat.reduceAdd, Nat.reduceMul, Nat.reduceSub, e1, set_app_self, live_app_self, a0, aj, av, hp]
      exact g _
theorem pairsS_l0 (hP : TellsS xs fv P) (hn : xs.length ≤ 100000) {f0 : Bool} : ∀ (m i : Nat) (hh : Heap), i + m = xs.length → 0 < hh.length → live hh 0 = some z3i →
    well_pairs_api_Seg.l0 (.is xs.length f0 (xs.flatMap sgc)) (.int .i64 e) fv (.rp 0 0) (.is xs.length f0 (xs.flatMap sgc)) (.int .i64 xs.length) (.int .i64 (i : Int)) hh = some (found e (pairF P m i)) := by
  intro m
  induction m with
  | zero =>
    intro i hh him h0 hl0
    obtain rfl : i = xs.length := by omega
    have av : ∀ cs, live (hh.set 0 (some cs)) 0 = some cs := fun cs => live_set_self hl0
    rw [well_pairs_api_Seg.l0_eq]
    simp (disch := first | exact dD | fail) only [Wd, W2d, W3d, Nat.reduceAdd, Nat.reduceMul, Nat.reduceSub, hl0, av, frz_i3]
    rfl
  | succ m ih =>
    intro i hh him h0 hl0
    have hi : i < xs.length := by omega
    rw [well_pairs_api_Seg.l0_eq]
    have e1 : (xs.flatMap sgc).drop (i * 3) = .int .i64 (xs[i]'hi).a :: .int .i64 (xs[i]'hi).b :: .bool (xs[i]'hi).f :: (xs.drop (i + 1)).flatMap sgc := by
      rw [drop_flatMap sgc_len, List.drop_eq_getElem_cons hi, List.flatMap_cons]; rfl
    have sl := fun fl => @slc_hd _ sgc 3 xs.length i fl xs .i64 sgc_len (by omega)
    have a0 : ∀ x, live (hh ++ [x]) 0 = some z3i := fun x => lv_app h0 hl0
    have g := fun fl (_ : Unit) => pairsS_l1 (e := e) (fl := fl) (j := hh.length) (yy := .int .i64 xs.length) (y0 := .is xs.length f0 (xs.flatMap sgc)) (y11 := .is xs.length f0 (xs.flatMap sgc)) hP hi hn i 0 (hh ++ [some (sgc (xs[i]'hi))]) (by omega) (by rw [List.length_append]; omega) (a0 _) (by rw [List.length_append]; simp) live_app_self (fun hh' q1 q2 => ih (i + 1) hh' (by omega) q1 q2)
    simp (disch := first | exact dD | fail) only [Wd, W2d, W3d, Nat.reduceAdd, Nat.reduceMul, Nat.reduceSub, e1, set_app_self, live_app_self, sl]
    refine (g _ ()).trans ?_
    rw [pairF]
    cases scan (P i) i 0 <;> rfl
theorem c_pairsS {H : Heap} {x fx : AV} (hP : TellsS xs fv P) (hn : xs.length ≤ 100000) (hx : freeze H x = some (.is xs.length false (xs.flatMap sgc))) (hf : freeze H fx = some fv) : byVal (callW gp) H fid.well_pairs_api_Seg [x, .int .i64 e, fx] = some (found e (pairF P xs.length 0)) := by
  have hc : cv gp fid.well_pairs_api_Seg [.is xs.length false (xs.flatMap sgc), .int .i64 e, fv] = some (found e (pairF P xs.length 0)) := by
    rw [well_pairs_api_Seg.eq]
    unfold well_pairs_api_Seg.f
    simp only [len_is, bind_s]
    exact pairsS_l0 hP hn xs.length 0 [some z3i] (by omega) (by simp) rfl
  refine byVal_flat ?_ hc ?_
  · simp only [List.mapM_cons, List.mapM_nil, hx, hf]
    rfl
  · cases pairF P xs.length 0 <;> rfl
end
section
variable {xs : List PT} {e : Int} {fv : AV} {P : Nat → Nat → Bool} {i : Nat}
/-- What is called tells whether it holds of two. -/
def TellsP (xs : List PT) (fv : AV) (P : Nat → Nat → Bool) : Prop := ∀ (i k : Nat) (hi : i < xs.length) (hk : k < xs.length) (h : Heap) (K : AV → Heap → Option AV), callK' (callW gp) gp.refm h fv [.agg (ptc (xs[i]'hi)), .agg (ptc (xs[k]'hk))] K = K (.bool (P i k)) h
theorem pairsP_l1 (hP : TellsP xs fv P) (hi : i < xs.length) (hn : xs.length ≤ 100000) {fl : Bool} {RR : Option AV} {j : Nat} {yy : AV} {y0 y11 : AV} : ∀ (m k : Nat) (hh : Heap), k + m = i → 0 < hh.length → live hh 0 = some z3i → j < hh.length → live hh j = some (ptc (xs[i]'hi)) →
    (∀ hh', 0 < hh'.length → live hh' 0 = some z3i → well_pairs_api_Point.l0 y0 (.int .i64 e) fv (.rp 0 0) y11 yy (.int .i64 ((i + 1 : Nat) : Int)) hh' = RR) →
    well_pairs_api_Point.l1 y0 (.int .i64 e) fv (.rp 0 0) (.int .i64 (i : Int)) (.rp j 0) y11 yy (.int .i64 (i : Int)) (.is i fl ((xs.take i).flatMap ptc)) (.int .i64 (i : Int)) (.int .i64 (k : Int)) hh = match scan (P i) m k with | some k' => some (fd e i k') | none => RR := by
  intro m
  induction m with
  | zero =>
    intro k hh hkm h0 hl0 hj hlj hR
    obtain rfl : k = i := by omega
    rw [well_pairs_api_Point.l1_eq]
    simp (disch := first | exact dD | fail) only [Wd, W2d, W3d, Nat.reduceAdd, Nat.reduceMul, Nat.reduceSub]
    exact hR hh h0 hl0
  | succ m ih =>
    intro k hh hkm h0 hl0 hj hlj hR
    rw [well_pairs_api_Point.l1_eq]
    have hk : k < xs.length := by omega
    have hkt : k < (xs.take i).length := by rw [List.length_take]; omega
    have ex : (xs.take i)[k]'hkt = xs[k]'hk := List.getElem_take
    have e1 : ((xs.take i).flatMap ptc).drop (k * 6) = .bool (xs[k]'hk).1.s :: str (xs[k]'hk).1.m :: str (xs[k]'hk).1.d :: .bool (xs[k]'hk).2.s :: str (xs[k]'hk).2.m :: str (xs[k]'hk).2.d :: ((xs.take i).drop (k + 1)).flatMap ptc := by
      rw [drop_flatMap ptc_len, List.drop_eq_getElem_cons hkt, List.flatMap_cons, ex]; rfl
    have hp := hP i k hi hk
    have a0 : ∀ x, live (hh ++ [x]) 0 = some z3i := fun x => lv_app h0 hl0
    have aj : ∀ x, live (hh ++ [x]) j = some (ptc (xs[i]'hi)) := fun x => lv_app hj hlj
    have av : ∀ x cs, live ((hh ++ [x]).set 0 (some cs)) 0 = some cs := fun x cs => live_set_self (a0 x)
    have g := fun x => ih (k + 1) (hh ++ [x]) (by omega) (by rw [List.length_append]; omega) (a0 x) (by rw [List.length_append]; omega) (aj x) hR
    unfold ptc rtc at hp aj
    simp only [List.cons_append, List.nil_append] at hp aj
    rw [scan]
    by_cases hb : P i k = true
    · rw [hb] at hp
      rw [if_pos hb]
      simp (disch := first | exact dD | fail) only [Wd, W2d, W3d, Nat.reduceAdd, Nat.reduceMul, Nat.reduceSub, e1, set_app_self, live_app_self, a0, aj, av, hp, frz_i3]
    · have hb' : P i k = false := by cases h : P i k <;> simp_all
      rw [hb'] at hp
      rw [if_neg hb]
      simp (disch := first | exact dD | fail) only [Wd, W2d, W3d, Nat.reduceAdd, Nat.reduceMul, Nat.reduceSub, e1, set_app_self, live_app_self, a0, aj, av, hp]
      exact g _
theorem pairsP_l0 (hP : TellsP xs fv P) (hn : xs.length ≤ 100000) {f0 : Bool} : ∀ (m i : Nat) (hh : Heap), i + m = xs.length → 0 < hh.length → live hh 0 = some z3i →
    well_pairs_api_Point.l0 (.is xs.length f0 (xs.flatMap ptc)) (.int .i64 e) fv (.rp 0 0) (.is xs.length f0 (xs.flatMap ptc)) (.int .i64 xs.length) (.int .i64 (i : Int)) hh = some (found e (pairF P m i)) := by
  intro m
  induction m with
  | zero =>
    intro i hh him h0 hl0
    obtain rfl : i = xs.length := by omega
    have av : ∀ cs, live (hh.set 0 (some cs)) 0 = some cs := fun cs => live_set_self hl0
    rw [well_pairs_api_Point.l0_eq]
    simp (disch := first | exact dD | fail) only [Wd, W2d, W3d, Nat.reduceAdd, Nat.reduceMul, Nat.reduceSub, hl0, av, frz_i3]
    rfl
  | succ m ih =>
    intro i hh him h0 hl0
    have hi : i < xs.length := by omega
    rw [well_pairs_api_Point.l0_eq]
    have e1 : (xs.flatMap ptc).drop (i * 6) = .bool (xs[i]'hi).1.s :: str (xs[i]'hi).1.m :: str (xs[i]'hi).1.d :: .bool (xs[i]'hi).2.s :: str (xs[i]'hi).2.m :: str (xs[i]'hi).2.d :: (xs.drop (i + 1)).flatMap ptc := by
      rw [drop_flatMap ptc_len, List.drop_eq_getElem_cons hi, List.flatMap_cons]; rfl
    have sl := fun fl => @slc_hd _ ptc 6 xs.length i fl xs .i64 ptc_len (by omega)
    have a0 : ∀ x, live (hh ++ [x]) 0 = some z3i := fun x => lv_app h0 hl0
    have g := fun fl (_ : Unit) => pairsP_l1 (e := e) (fl := fl) (j := hh.length) (yy := .int .i64 xs.length) (y0 := .is xs.length f0 (xs.flatMap ptc)) (y11 := .is xs.length f0 (xs.flatMap ptc)) hP hi hn i 0 (hh ++ [some (ptc (xs[i]'hi))]) (by omega) (by rw [List.length_append]; omega) (a0 _) (by rw [List.length_append]; simp) live_app_self (fun hh' q1 q2 => ih (i + 1) hh' (by omega) q1 q2)
    simp (disch := first | exact dD | fail) only [Wd, W2d, W3d, Nat.reduceAdd, Nat.reduceMul, Nat.reduceSub, e1, set_app_self, live_app_self, sl]
    refine (g _ ()).trans ?_
    rw [pairF]
    cases scan (P i) i 0 <;> rfl
theorem c_pairsP {H : Heap} {x fx : AV} (hP : TellsP xs fv P) (hn : xs.length ≤ 100000) (hx : freeze H x = some (.is xs.length false (xs.flatMap ptc))) (hf : freeze H fx = some fv) : byVal (callW gp) H fid.well_pairs_api_Point [x, .int .i64 e, fx] = some (found e (pairF P xs.length 0)) := by
  have hc : cv gp fid.well_pairs_api_Point [.is xs.length false (xs.flatMap ptc), .int .i64 e, fv] = some (found e (pairF P xs.length 0)) := by
    rw [well_pairs_api_Point.eq]
    unfold well_pairs_api_Point.f
    simp only [len_is, bind_s]
    exact pairsP_l0 hP hn xs.length 0 [some z3i] (by omega) (by simp) rfl
  refine byVal_flat ?_ hc ?_
  · simp only [List.mapM_cons, List.mapM_nil, hx, hf]
    rfl
  · cases pairF P xs.length 0 <;> rfl
end
end Go.Proofs.YtechbfodaallkaaGreat.Am
