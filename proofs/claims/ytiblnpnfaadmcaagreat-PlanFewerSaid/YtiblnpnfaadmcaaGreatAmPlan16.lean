import Derived.Test.YtiblnpnfaadmcaaGreatAmPlan15
/- Section 09: PlanFewer. -/
set_option linter.unusedVariables false
set_option maxRecDepth 10000
set_option linter.unusedSimpArgs false
namespace Go.Proofs.YtiblnpnfaadmcaaGreat.Am
open Go

structure LO (xs : List PT) (gs : List Sg) (v : List AV) (e : Int) : Prop where
  c : CellsOK v 3
  r : readCells v (some 3) = some (.agg v)
  k : ∀ h, byVal (callW gp) h fid.zf0j [.is xs.length false (xs.flatMap ptc), .is gs.length false (gs.flatMap sgc)] = some (.tup [.agg v, .int .i64 e])
theorem lo_err {xs : List PT} {gs : List Sg} (hx : ∀ t ∈ xs, t.ok) (n1 : xs.length ≤ 40) (n2 : gs.length ≤ 60) (h : firstE (xs.map askc) ≠ 0 ∨ xs.length < 2 ∨ ¬ EVs xs.length gs) : ∃ e, e ≠ 0 ∧ LO xs gs z3 e := by
  by_cases hE : firstE (xs.map askc) = 0
  rotate_left
  · exact ⟨_, hE, ⟨rfl, rfl⟩, z3_rd, fun h => k_leastE hx n1 n2 hE⟩
  by_cases h2 : xs.length < 2
  · exact ⟨1, by decide, ⟨rfl, rfl⟩, z3_rd, fun h => k_least1 hx h2 n2 hE⟩
  have hb : ¬ EVs xs.length gs := by
    rcases h with h | h | h
    · exact absurd hE h
    · exact absurd h h2
    · exact h
  have hb' : ∃ s ∈ gs, ¬ EV xs.length s := Classical.byContradiction fun h => hb fun s hs => Classical.byContradiction fun h' => h ⟨s, hs, h'⟩
  exact ⟨1, by decide, ⟨rfl, rfl⟩, z3_rd, fun h => k_leastB hx (by omega) n1 n2 hE hb'⟩
theorem lo_ok {ps : List (Rat × Rat)} {ss : List Sq} (hz : PZ ps) (hsv : SV ps.length ss) (h2 : 2 ≤ ps.length) (hn : ps.length ≤ 40) (hm : ss.length ≤ 60) : LO (ps.map pc) (ss.map sq_) (rcl (leastQ ps ss)) 0 :=
  ⟨⟨rfl, rfl⟩, rcl_rd, fun h => by
    have := k_least (h := h) hz hsv h2 hn hm
    unfold pcs scs at this
    rw [List.length_map, List.length_map]
    exact this⟩
theorem lo_any {xs : List PT} {gs : List Sg} (hx : ∀ t ∈ xs, t.ok) (hf : fewP xs) (n1 : xs.length ≤ 40) (n2 : gs.length ≤ 60) : ∃ v e, LO xs gs v e := by
  by_cases h : firstE (xs.map askc) ≠ 0 ∨ xs.length < 2 ∨ ¬ EVs xs.length gs
  · obtain ⟨e, _, k⟩ := lo_err hx n1 n2 h
    exact ⟨_, _, k⟩
  · have hE : firstE (xs.map askc) = 0 := Classical.byContradiction fun g => h (.inl g)
    have h2 : ¬ xs.length < 2 := fun g => h (.inr (.inl g))
    have hb : EVs xs.length gs := Classical.byContradiction fun g => h (.inr (.inr g))
    obtain ⟨ps, rfl, hps⟩ := to_ps xs hx hf (firstE_mem hE)
    obtain ⟨ss, rfl, hss⟩ := to_ss gs hb
    rw [List.length_map] at hss h2 n1 n2
    exact ⟨_, _, lo_ok (pz_of hps) (sv_of hss) (by omega) n1 n2⟩
theorem slc_tl {xs : List Sg} (h : 1 ≤ xs.length) : opSlc 3 (.is xs.length false (xs.flatMap sgc)) (some (.int .i64 1)) none none = some (.is xs.tail.length false (xs.tail.flatMap sgc)) := by
  match xs, h with
  | s :: l, _ =>
    have e1 : bnd ((s :: l).length) none = some (s :: l).length := rfl
    have e2 : bnd 0 (some (.int .i64 1)) = some 1 := rfl
    simp only [opSlc, e1, e2, Option.bind_some]
    rw [if_pos ⟨by simp, Nat.le_refl _, Nat.le_refl _⟩, List.take_of_length_le (by rw [len_flatMap sgc_len]; omega)]
    simp [fullOf, sgc]
section
variable {ps : List (Rat × Rat)} {f : Bool} {cid : Nat} {c : Rat}
theorem far_rd {i k : Nat} (hz : PZ ps) (hi : i < ps.length) (hk : k < ps.length) : Rz (dF ps i k) 1500 := by
  obtain ⟨z1, z2⟩ := hz i hi
  obtain ⟨z3', z4⟩ := hz k hk
  exact far_z40 z1 z2 z3' z4
set_option maxHeartbeats 8000000 in
theorem fw_l1 (hz : PZ ps) (hn : ps.length ≤ 1000) (hc : Rz c 2000) (hmin : ∀ i k, k < i → i < ps.length → c ≤ dF ps i k) {i : Nat} (hi : i < ps.length) : ∀ (n k : Nat) (H : Heap) (fd : Bool), k + n = i → live H cid = some (rcl c) →
    (∀ H', live H' cid = some (rcl c) → zf06.l0 (.is ps.length f (pcs ps)) (.rp cid 0) (.bool (fd || (List.range' k n).any fun k => decide (dF ps i k = c))) (.int .i64 ((i + 1 : Nat) : Int)) H' = some (.bool true)) →
    zf06.l1 (.is ps.length f (pcs ps)) (.rp cid 0) (.bool fd) (.int .i64 (i : Int)) (.int .i64 (k : Int)) H = some (.bool true) := by
  intro n
  induction n with
  | zero =>
    intro k H fd hk e hR
    have lk : opBin .lss (.int .i64 (k : Int)) (.int .i64 (i : Int)) = some (.bool false) := lssF (by omega)
    have g := hR H e
    rw [List.range'_zero, List.any_nil, Bool.or_false] at g
    rw [zf06.l1_eq]
    simp (disch := first | exact dD | fail) only [Wd, W2d, W3d, Nat.reduceAdd, Nat.reduceMul, Nat.reduceSub, lk]
    exact g
  | succ n ih =>
    intro k H fd hk e hR
    have hk' : k < ps.length := by omega
    rw [range_cons, List.any_cons, ← Bool.or_assoc] at hR
    have lk : opBin .lss (.int .i64 (k : Int)) (.int .i64 (i : Int)) = some (.bool true) := lssT (by omega)
    have s1 := sidxN (sz := 6) (f := f) (cs := pcs ps) hi
    have s2 := sidxN (sz := 6) (f := f) (cs := pcs ps) hk'
    have r1 := pcs_rd hi
    have r2 := pcs_rd hk'
    obtain ⟨z1, z2⟩ := hz i hi
    obtain ⟨z3', z4⟩ := hz k hk'
    have hd := far_rd hz hi hk'
    have kf : ∀ h, byVal (callW gp) h fid.zf0o [pa (px ps i) (py ps i), pa (px ps k) (py ps k)] = some (ra (dF ps i k)) := fun h => k_6far (h := h) (z1.mono (by omega)) (z2.mono (by omega)) (z3'.mono (by omega)) (z4.mono (by omega))
    have hle := hmin i k (by omega) hi
    generalize dF ps i k = d at *
    have st : opStore (H ++ [some [.bool false, .str ⟨#[]⟩, .str ⟨#[]⟩]]) 3 (.rp H.length 0) (ra d) = some (H ++ [some (rcl d)]) := st_app3 (h := H) (z := z3) (v := rcl d) (n := 3) rfl ⟨rfl, rfl⟩
    have e' : live (H ++ [some (rcl d)]) cid = some (rcl c) := live_app_old e
    have eo : live (H ++ [some (rcl d)]) H.length = some (rcl d) := live_app_self
    have ko : ∀ h, byVal (callW gp) h fid.zf0e [ra d, ra c] = some (.int .i64 (cmpQ d c)) := fun h => k_3order (h := h) (hd.mono (by omega)) (hc.mono (by omega))
    have lo : opBin .lss (.int .i64 (cmpQ d c)) (.int .i64 0) = some (.bool false) := by
      rw [bin_lss, cmpQ_dec, decide_eq_false (by grind)]
    have ld1 : opLoad (H ++ [some (rcl d)]) (some 3) (.rp H.length 0) = some (ra d) := by rw [ld_rp, eo]; exact Eq.trans rfl rfl
    have ld2 : opLoad (H ++ [some (rcl d)]) (some 3) (.rp cid 0) = some (ra c) := by rw [ld_rp, e']; exact Eq.trans rfl rfl
    have g := ih (k + 1) (H ++ [some (rcl d)]) (fd || decide (d = c)) (by omega) e' (fun H' h' => hR H' h')
    rw [zf06.l1_eq]
    have ad : opBin .add (.int .i64 (k : Int)) (.int .i64 1) = some (.int .i64 ((k + 1 : Nat) : Int)) := i_add1 (by omega)
    have lip : ∀ h cs, opLoad h (some 6) (.ip cs) = readCells cs (some 6) := fun _ _ => rfl
    cases fd with
    | true =>
      simp only [bind_s, lk, cond_t, s1, s2, lip, r1, r2, kf, st, ld1, ld2, ko, lo, cond_f, guard_ft, ad]
      exact g
    | false =>
      simp only [bind_s, lk, cond_t, s1, s2, lip, r1, r2, kf, st, ld1, ld2, ko, lo, cond_f, guard_ff, ad, eqa_r]
      exact g
set_option maxHeartbeats 8000000 in
theorem fw_l0 (hz : PZ ps) (hn : ps.length ≤ 1000) (hc : Rz c 2000) (hmin : ∀ i k, k < i → i < ps.length → c ≤ dF ps i k) : ∀ (n i : Nat) (H : Heap) (fd : Bool), i + n = ps.length → live H cid = some (rcl c) → (fd || (List.range' i n).any fun i => (List.range' 0 i).any fun k => decide (dF ps i k = c)) = true →
    zf06.l0 (.is ps.length f (pcs ps)) (.rp cid 0) (.bool fd) (.int .i64 (i : Int)) H = some (.bool true) := by
  intro n
  induction n with
  | zero =>
    intro i H fd hk e hf
    have lk : opBin .lss (.int .i64 (i : Int)) (.int .i64 (ps.length : Int)) = some (.bool false) := lssF (by omega)
    rw [List.range'_zero, List.any_nil, Bool.or_false] at hf
    subst hf
    have kl := fun h => c_live9 (h := h)
    rw [zf06.l0_eq]
    simp only [bind_s, len_is, lk, cond_f, guard_tt, kl]
    rfl
  | succ n ih =>
    intro i H fd hk e hf
    have hi : i < ps.length := by omega
    rw [range_cons, List.any_cons, ← Bool.or_assoc] at hf
    have lk : opBin .lss (.int .i64 (i : Int)) (.int .i64 (ps.length : Int)) = some (.bool true) := lssT (by omega)
    have g := fw_l1 (f := f) (cid := cid) hz hn hc hmin hi i 0 H fd (by omega) e (fun H' h' => ih (i + 1) H' _ (by omega) h' hf)
    rw [zf06.l0_eq]
    simp only [bind_s, len_is, lk, cond_t]
    exact g
end
end Go.Proofs.YtiblnpnfaadmcaaGreat.Am
