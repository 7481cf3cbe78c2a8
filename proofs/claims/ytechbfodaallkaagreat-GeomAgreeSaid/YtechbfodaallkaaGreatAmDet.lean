import Derived.Test.YtechbfodaallkaaGreatAmV
import Derived.Test.YtechbfodaallkaaGreatAmDetP
import Derived.Test.YtechbfodaallkaaGreatAmRc
/- Determinants: rows are cloned, cut and joined; both texts. -/
set_option linter.unusedVariables false
set_option maxRecDepth 10000
set_option linter.unusedSimpArgs false
namespace Go.Proofs.YtechbfodaallkaaGreat.Am
open Go

abbrev zr : List AV := [.bool false, .str ⟨#[]⟩, .str ⟨#[]⟩]
theorem take_flatMap {α : Type} {f : α → List AV} {n : Nat} (hf : ∀ x, (f x).length = n) : ∀ (xs : List α) (i : Nat), (xs.flatMap f).take (i * n) = (xs.take i).flatMap f
  | xs, 0 => by simp
  | [], i + 1 => by simp
  | x :: xs, i + 1 => by
    rw [List.flatMap_cons, List.take_succ_cons, List.flatMap_cons, Nat.add_mul, Nat.one_mul, Nat.add_comm, ← hf x, List.take_append, List.take_of_length_le (by omega)]
    rw [show (f x).length + i * (f x).length - (f x).length = i * (f x).length by omega, hf x, take_flatMap hf xs i]
theorem cells_flat {α : Type} {f : α → List AV} (hf : ∀ x, (f x).all AV.cell = true) (xs : List α) : (xs.flatMap f).all AV.cell = true := by
  rw [List.all_eq_true]
  intro c hc
  obtain ⟨x, _, hx⟩ := List.mem_flatMap.1 hc
  exact List.all_eq_true.1 (hf x) c hx
theorem cells_rtc (xs : List RT) : (xs.flatMap rtc).all AV.cell = true := cells_flat (fun _ => rfl) xs

section
variable {h : Heap}

theorem clone_run {xs : List RT} {f : Bool} (h0 : 0 < xs.length) (hn : xs.length ≤ 100000) :
    callW gp fid.slices_Clone_Lapi_Rat_api_Rat [.is xs.length f (xs.flatMap rtc)] h = some (.rs 3 h.length 0 xs.length, h ++ [some (xs.flatMap rtc)]) := by
  rw [slices_Clone_Lapi_Rat_api_Rat.eq]
  unfold slices_Clone_Lapi_Rat_api_Rat.f
  have e1 : opNilq false (.is xs.length f (xs.flatMap rtc)) = some (.bool false) := by
    obtain ⟨k, hk⟩ : ∃ k, xs.length = k + 1 := ⟨xs.length - 1, by omega⟩
    rw [hk]; rfl
  have e2 : opBslc 3 0 [.bool false, .str ⟨#[]⟩, .str ⟨#[]⟩] [] = some (.is 0 true []) := rfl
  rw [e1, bind_s, cond_f, e2, bind_s, app_s0 (len_flatMap rtc_len xs) h0 (by omega) (cells_rtc xs), bind_s]

theorem delete_run {id k : Nat} {xs : List RT} (hl : live h id = some (xs.flatMap rtc)) (hk : k < xs.length) (hn : xs.length ≤ 100000) :
    ∃ h', callW gp fid.slices_Delete_Lapi_Rat_api_Rat [.rs 3 id 0 xs.length, .int .i64 (k : Int), .int .i64 ((k + 1 : Nat) : Int)] h = some (.rc 3 id 0 (xs.length - 1) xs.length, h') ∧ h'.length = h.length ∧
      live h' id = some ((xs.eraseIdx k).flatMap rtc ++ zr) ∧ ∀ j, j ≠ id → live h' j = live h j := by
  rw [slices_Delete_Lapi_Rat_api_Rat.eq]
  unfold slices_Delete_Lapi_Rat_api_Rat.f
  have hcl : (xs.flatMap rtc).length = xs.length * 3 := len_flatMap rtc_len xs
  have e1 : opBin .eql (.int .i64 (k : Int)) (.int .i64 ((k + 1 : Nat) : Int)) = some (.bool false) := by
    rw [bin_eql]; congr 2; exact decide_eq_false (by omega)
  rw [len_rs, bind_s, slc_m (by omega) (by omega) (by omega) (by omega), bind_s, e1, bind_s, cond_f, bind_s, slcc_lo (by omega) (by omega), bind_s, slcc_hi (by omega) (by omega), bind_s]
  simp only [Int.toNat_natCast, Nat.zero_add]
  have hy : elemsOf h 3 (.rc 3 id ((k + 1) * 3) (xs.length - (k + 1)) (xs.length - (k + 1))) = some (xs.length - (k + 1), (xs.drop (k + 1)).flatMap rtc) := by
    rw [elems_rc hl (by rw [hcl]; omega) (Nat.le_refl _), drop_flatMap rtc_len, take_flatMap rtc_len, List.take_of_length_le (by simp)]
  have main : ∃ h1, opApp h 3 (.rc 3 id 0 k xs.length) (.rc 3 id ((k + 1) * 3) (xs.length - (k + 1)) (xs.length - (k + 1))) = some (.rc 3 id 0 (xs.length - 1) xs.length, h1) ∧ h1.length = h.length ∧
      (∃ cs, live h1 id = some cs ∧ cs.length = xs.length * 3 ∧ cs.take ((xs.length - 1) * 3) = (xs.eraseIdx k).flatMap rtc) ∧ ∀ j, j ≠ id → live h1 j = live h j := by
    have er : (xs.eraseIdx k) = xs.take k ++ xs.drop (k + 1) := List.eraseIdx_eq_take_drop_succ ..
    by_cases hm : xs.length - (k + 1) = 0
    · have hk' : k = xs.length - 1 := by omega
      rw [hm] at hy ⊢
      rw [app_rc0 hl (by rw [hcl]; omega) (by omega) (by omega) hy (cells_rtc _)]
      refine ⟨h, by rw [← hk'], rfl, ⟨_, hl, hcl, ?_⟩, fun _ _ => rfl⟩
      rw [take_flatMap rtc_len, er, List.drop_of_length_le (by omega), List.append_nil, hk']
    · rw [app_rc hl (by rw [hcl]; omega) (by omega) (by omega) hy (cells_rtc _) hm]
      have hnl : ((xs.drop (k + 1)).flatMap rtc).length = (xs.length - (k + 1)) * 3 := by rw [len_flatMap rtc_len, List.length_drop]
      refine ⟨_, by rw [show k + (xs.length - (k + 1)) = xs.length - 1 by omega], by simp, ⟨_, live_set_self hl, by rw [splice_mid (by rw [hnl, hcl]; omega), hcl], ?_⟩, fun j hj => live_set_ne fun e => hj e.symm⟩
      unfold splice
      rw [Nat.zero_add, er, List.flatMap_append]
      have e2 : ((xs.flatMap rtc).take (k * 3) ++ (xs.drop (k + 1)).flatMap rtc).length = (xs.length - 1) * 3 := by
        rw [List.length_append, hnl, List.length_take, hcl]; omega
      rw [← e2, List.take_left, take_flatMap rtc_len]
  obtain ⟨h1, ha, h1l, ⟨cs, hl1, hcs, htk⟩, hold⟩ := main
  rw [ha, bind_s, len_rc, bind_s, slcc_rc (by omega) (by omega) (by omega), bind_s]
  simp only [Int.toNat_natCast, Nat.zero_add]
  rw [show xs.length - (xs.length - 1) = 1 by omega, clr_rc (z := zr) (sz := 3) hl1 (by omega) (Nat.le_refl _) (by rfl) rfl, bind_s]
  refine ⟨_, rfl, by simp [h1l], ?_, fun j hj => by rw [live_set_ne fun e => hj e.symm]; exact hold j hj⟩
  rw [live_set_self hl1]
  congr 1
  unfold splice
  rw [htk]
  have : cs.drop ((xs.length - 1) * 3 + (zeros zr 1).length) = [] := List.drop_of_length_le (by simp [zeros]; omega)
  rw [this, List.append_nil]
  rfl

/-! ### Rows in the making -/

/-- A row of numbers. -/
abbrev rowV (r : List RT) : AV := .is r.length false (r.flatMap rtc)
abbrev matV (m : List (List RT)) : AV := .is m.length false (m.map rowV)
theorem imm_row {r : List RT} : Imm 3 (rowV r) := (imm_is (d := 1) (imm_flat imm_rtc r)).mono (by omega)
theorem imm_rows {m : List (List RT)} : ∀ c ∈ m.map rowV, Imm 3 c := fun c hc => by
  obtain ⟨r, _, rfl⟩ := List.mem_map.1 hc
  exact imm_row
theorem imm_mat {m : List (List RT)} : Imm 4 (matV m) := imm_is imm_rows
/-- A row that this call has made. -/
def RowAt (h : Heap) (x : AV) (r : List RT) (id : Nat) : Prop := (x = .rs 3 id 0 r.length ∨ ∃ k, x = .rc 3 id 0 r.length k) ∧ ∃ tl, live h id = some (r.flatMap rtc ++ tl)
theorem RowAt.frz {x : AV} {r : List RT} {id : Nat} (hr : RowAt h x r id) (m : Nat) (hm : 1 ≤ m) : freezeN (m + 1) h x = some (rowV r) := by
  obtain ⟨hx, tl, hl⟩ := hr
  have e : ((r.flatMap rtc ++ tl).drop 0).take (r.length * 3) = r.flatMap rtc := by
    rw [List.drop_zero, List.take_left' (len_flatMap rtc_len r)]
  have hle : 0 + r.length * 3 ≤ (r.flatMap rtc ++ tl).length := by rw [List.length_append, len_flatMap rtc_len]; omega
  rcases hx with rfl | ⟨k, rfl⟩
  · rw [fz_rs, hl, bind_s, if_pos hle, e, imm_mapM (imm_flat imm_rtc r) hm]; rfl
  · rw [fz_rc hl hle, e, imm_mapM (imm_flat imm_rtc r) hm]; rfl
theorem RowAt.cell {x : AV} {r : List RT} {id : Nat} (hr : RowAt h x r id) : x.cell = true := by
  rcases hr.1 with rfl | ⟨k, rfl⟩ <;> rfl
theorem RowAt.mono {h' : Heap} {x : AV} {r : List RT} {id : Nat} (hr : RowAt h x r id) (hl : live h' id = live h id) : RowAt h' x r id := ⟨hr.1, by rw [hl]; exact hr.2⟩

/-- Rows of rows that this call has made; all that it has made for them lies at base or behind. -/
def Minor (base : Nat) (h : Heap) (x : AV) (m : List (List RT)) : Prop :=
  base ≤ h.length ∧ ((m = [] ∧ x = .is 0 true []) ∨ ∃ id cs, x = .rs 1 id 0 m.length ∧ m ≠ [] ∧ base ≤ id ∧ live h id = some cs ∧ cs.length = m.length ∧
    ∀ (j : Nat) (r : List RT), m[j]? = some r → ∃ y idj, cs[j]? = some y ∧ RowAt h y r idj ∧ idj ≠ id)
theorem Minor.add {base : Nat} {x : AV} {m : List (List RT)} (hm : Minor base h x m) (hn : m.length ≤ 100000) {h2 : Heap} {y : AV} {r : List RT} {id : Nat} (hy : RowAt h2 y r id) (hid : h.length ≤ id) (hid2 : id < h2.length) (hold : ∀ j, j < h.length → live h2 j = live h j) :
    ∃ x' h', ((opBslc 1 1 [.is 0 true []] [(0, y)]).bind fun v => opApp h2 1 x v) = some (x', h') ∧ Minor base h' x' (m ++ [r]) ∧ ∀ j, j < base → live h' j = live h2 j := by
  obtain ⟨hb, hm⟩ := hm
  have hlen : h.length < h2.length := by omega
  have e1 : opBslc 1 1 [.is 0 true []] [(0, y)] = some (.is 1 true [y]) := by
    unfold opBslc
    rw [show [(0, y)].map (fun p : Nat × AV => (p.1 * 1, 1, p.2)) = [(0, 1, y)] from rfl, show zeros [AV.is 0 true []] 1 = [.is 0 true []] from rfl, fill_one hy.cell (by simp), fill_nil]; rfl
  rw [e1, bind_s]
  rcases hm with ⟨rfl, rfl⟩ | ⟨idm, cs, rfl, hne, hbi, hl, hcs, hall⟩
  · rw [app_s0 (by simp) (by omega) (by omega) (by simp [hy.cell])]
    refine ⟨_, _, rfl, ⟨by simp; omega, .inr ⟨h2.length, [y], rfl, by simp, by omega, live_app_self, rfl, fun j r' hj => ?_⟩⟩, fun j hj => live_app_ne (by omega)⟩
    cases j with
    | zero =>
      simp at hj; subst hj
      exact ⟨y, id, rfl, hy.mono (live_app_ne hid2), by omega⟩
    | succ j => simp at hj
  · have hid3 : idm < h.length := live_lt hl
    have hl2 : live h2 idm = some cs := by rw [hold idm hid3]; exact hl
    rw [app_sr (old := cs) hl2 (by rw [hcs]; simp) (by simp) (by omega) (by omega) (by simp [hy.cell])]
    have hget : ∀ j, j ≠ idm → j < h2.length → live (h2.set idm none ++ [some (cs ++ [y])]) j = live h2 j := fun j h1 h3 => by
      rw [live_app_ne (by simpa using h3), live_set_ne (fun e => h1 e.symm)]
    refine ⟨_, _, rfl, ⟨by simp; omega, .inr ⟨h2.length, cs ++ [y], by simp, by simp, by omega, live_app_self' (by simp), by simp [hcs], fun j r' hj => ?_⟩⟩, fun j hj => hget j (by omega) (by omega)⟩
    rcases Nat.lt_or_ge j m.length with hjl | hjl
    · rw [List.getElem?_append_left hjl] at hj
      obtain ⟨z, idj, hz, hr, hne'⟩ := hall j r' hj
      obtain ⟨tl, hlj⟩ := hr.2
      have hlt := live_lt hlj
      exact ⟨z, idj, by rw [List.getElem?_append_left (by omega)]; exact hz, hr.mono (by rw [hget idj hne' (by omega), hold idj hlt]), by omega⟩
    · rw [List.getElem?_append_right hjl] at hj
      have : j = m.length := by
        have := (List.getElem?_eq_some_iff.1 hj).1
        simp at this; omega
      subst this
      simp at hj; subst hj
      exact ⟨y, id, by rw [List.getElem?_append_right (by omega), hcs]; simp, hy.mono (hget id (by omega) hid2), by omega⟩
theorem Minor.frz {base : Nat} {x : AV} {m : List (List RT)} (hm : Minor base h x m) (hne : m ≠ []) : freeze h x = some (matV m) := by
  obtain ⟨_, ⟨rfl, _⟩ | ⟨id, cs, rfl, _, _, hl, hcs, hall⟩⟩ := hm
  · exact absurd rfl hne
  · show freezeN 12 h _ = _
    rw [fz_rs, hl, bind_s, if_pos (by rw [hcs]; omega), List.drop_zero, Nat.mul_one, ← hcs, List.take_length]
    have key : ∀ (cs : List AV) (m : List (List RT)), cs.length = m.length → (∀ (j : Nat) (r : List RT), m[j]? = some r → ∃ y idj, cs[j]? = some y ∧ RowAt h y r idj) → cs.mapM (freezeN 11 h) = some (m.map rowV) := by
      intro cs
      induction cs with
      | nil => intro m hl _; cases m with | nil => rfl | cons r m => simp at hl
      | cons c cs ih =>
        intro m hl ha
        cases m with
        | nil => simp at hl
        | cons r m =>
          obtain ⟨y, idj, hy, hr⟩ := ha 0 r rfl
          simp at hy; subst hy
          rw [List.mapM_cons, hr.frz 10 (by omega)]
          have := ih m (by simpa using hl) (fun j r' hj => by
            obtain ⟨y, idj, hy, hr⟩ := ha (j + 1) r' (by simpa using hj)
            exact ⟨y, idj, by simpa using hy, hr⟩)
          rw [this]; rfl
    rw [key cs m hcs (fun j r hj => let ⟨y, idj, h1, h2, _⟩ := hall j r hj; ⟨y, idj, h1, h2⟩)]
    show some (AV.is cs.length false _) = _
    rw [hcs]

/-! ### The program's determinant -/

theorem det_l1 {y0 y2 y3 y5 y21 y22 y23 : AV} {f : Bool} {n k base : Nat} {L : List (List RT)} (hn : n ≤ 1000) (hL : L.length = n) (hr : ∀ r ∈ L, r.length = n + 1) (hk : k < n + 1) :
    ∀ (d i : Nat) (mn : AV) (hh : Heap) (done : List (List RT)), i + d = n → done.length = i → Minor base hh mn done →
      ∃ mn' hh', Minor base hh' mn' (done ++ (L.drop i).map fun r => r.eraseIdx k) ∧ (∀ j, j < base → live hh' j = live hh j) ∧
        vec_det.l1 y0 y2 y3 (.int .i64 (k : Int)) y5 mn y21 y22 y23 (.is n f (L.map rowV)) (.int .i64 (n : Int)) (.int .i64 (i : Int)) hh =
        vec_det.l1 y0 y2 y3 (.int .i64 (k : Int)) y5 mn' y21 y22 y23 (.is n f (L.map rowV)) (.int .i64 (n : Int)) (.int .i64 (n : Int)) hh' := by
  intro d
  induction d with
  | zero =>
    intro i mn hh done hi hd hm
    have : i = n := by omega
    subst this
    exact ⟨mn, hh, by rw [List.drop_of_length_le (by omega)]; simpa using hm, fun _ _ => rfl, rfl⟩
  | succ d ih =>
    intro i mn hh done hi hd hm
    have hil : i < L.length := by omega
    have hLi := hr _ (List.getElem_mem hil)
    have e1 : (L.map rowV).drop (i * 1) = rowV L[i] :: (L.map rowV).drop (i + 1) := by
      rw [Nat.mul_one, List.drop_eq_getElem_cons (by simpa using hil)]; simp
    obtain ⟨h2, hdel, hl2, hlv, hold⟩ := delete_run (h := hh ++ [some (L[i].flatMap rtc)]) (id := hh.length) (k := k) (xs := L[i]) live_app_self (by omega) (by omega)
    have hrow : RowAt h2 (.rc 3 hh.length 0 (L[i].length - 1) L[i].length) (L[i].eraseIdx k) hh.length := by
      have : (L[i].eraseIdx k).length = L[i].length - 1 := List.length_eraseIdx_of_lt (by omega)
      exact ⟨.inr ⟨_, by rw [this]⟩, _, hlv⟩
    obtain ⟨x', h', happ, hm', hbase⟩ := hm.add (by omega) hrow (Nat.le_refl _) (by rw [hl2]; simp) (fun j hj => by rw [hold j (by omega), live_app_ne hj])
    obtain ⟨mn', hh', g1, g2, g3⟩ := ih (i + 1) x' h' (done ++ [L[i].eraseIdx k]) (by omega) (by simp [hd]) hm'
    refine ⟨mn', hh', ?_, fun j hj => ?_, ?_⟩
    · rw [List.append_assoc] at g1
      rw [List.drop_eq_getElem_cons hil]
      exact g1
    · have hb := hm.1
      rw [g2 j hj, hbase j hj, hold j (by omega), live_app_ne (by omega)]
    · rw [← g3]
      rw [vec_det.l1_eq, bin_lss, bind_s, cond_d, if_pos (by omega), nsidx_is (by omega), bind_s, load_ip, e1, rc_one, bind_s, clone_run (by omega) (by omega), bind_s, i_add1 (by omega), bind_s]
      rw [hdel, bind_s]
      cases hb : opBslc 1 1 [.is 0 true []] [(0, AV.rc 3 hh.length 0 (L[i].length - 1) L[i].length)] with
      | none => rw [hb] at happ; cases happ
      | some v =>
        rw [hb, bind_s] at happ
        rw [bind_s, happ, bind_s, i_add1 (by omega), bind_s]

/-! ### How long determinants may be -/

def bd (b : Nat) : Nat → Nat
  | 0 => b
  | n + 1 => 1 + (n + 2) * (b + bd b n + 1)
theorem Rz_zero : Rz (0 : Rat) 1 := ⟨by show (nb 0).length ≤ 1; rw [nb_zero]; simp, by show (nb 1).length ≤ 1; rw [nb_one]; simp⟩
theorem sum_Rz {f : Nat → Rat} {c : Nat} : ∀ k, (∀ j, j < k → Rz (f j) c) → Rz (sumR f k) (1 + k * (c + 1))
  | 0, _ => Rz_zero.mono (by omega)
  | k + 1, hf => by
    have h1 := sum_Rz k fun j hj => hf j (by omega)
    have h2 := hf k (by omega)
    unfold sumR
    split
    · exact (h1.sub h2).mono (by rw [Nat.add_mul]; omega)
    · exact (h1.add h2).mono (by rw [Nat.add_mul]; omega)
theorem mem_getD {r : List Rat} {k b : Nat} (hb : 1 ≤ b) (h : ∀ q ∈ r, Rz q b) : Rz (r.getD k 0) b := by
  rw [List.getD_eq_getElem?_getD]
  cases hk : r[k]? with
  | none => exact Rz_zero.mono hb
  | some q => exact h q (List.mem_of_getElem? hk)
theorem row_getD {m : List (List Rat)} {b : Nat} (h : ∀ r ∈ m, ∀ q ∈ r, Rz q b) (k : Nat) : ∀ q ∈ m.getD k [], Rz q b := by
  rw [List.getD_eq_getElem?_getD]
  cases hk : m[k]? with
  | none => intro q hq; simp at hq
  | some r => exact h r (List.mem_of_getElem? hk)
theorem minor_Rz {m : List (List Rat)} {b : Nat} (h : ∀ r ∈ m, ∀ q ∈ r, Rz q b) (k : Nat) : ∀ r ∈ minorR m k, ∀ q ∈ r, Rz q b := fun r hr q hq => by
  obtain ⟨r', hr', rfl⟩ := List.mem_map.1 hr
  exact h r' (List.mem_of_mem_drop hr') q (List.mem_of_mem_eraseIdx hq)
theorem det_Rz {b : Nat} (hb : 1 ≤ b) : ∀ (n : Nat) (m : List (List Rat)), (∀ r ∈ m, ∀ q ∈ r, Rz q b) → Rz (detR (n + 1) m) (bd b n)
  | 0, m, h => mem_getD hb (row_getD h 0)
  | n + 1, m, h => sum_Rz (n + 2) fun j _ => (mem_getD hb (row_getD h 0)).mul (det_Rz hb n _ (minor_Rz h j))

/-! ### A matrix of numbers -/

abbrev matQ (m : List (List Rat)) : AV := matV (m.map fun r => r.map rt)
theorem erase_map {α β : Type} (f : α → β) : ∀ (l : List α) (k : Nat), (l.map f).eraseIdx k = (l.eraseIdx k).map f
  | [], k => rfl
  | x :: l, 0 => rfl
  | x :: l, k + 1 => by simp [erase_map f l k]
theorem i_and1 {k : Nat} (hk : k < 4) : opBin .and (.int .i64 (k : Int)) (.int .i64 1) = some (.int .i64 ((k % 2 : Nat) : Int)) := by
  have : k = 0 ∨ k = 1 ∨ k = 2 ∨ k = 3 := by omega
  rcases this with rfl | rfl | rfl | rfl <;> rfl
theorem set_old {h : Heap} {x y : Option (List AV)} {j : Nat} (hj : j < h.length) : (h ++ [x]).set j y = h.set j y ++ [x] := List.set_append_left _ _ hj

theorem det_l0 {m : List (List Rat)} {r0 : List Rat} {L : List (List Rat)} {n b : Nat} (hm : m = r0 :: L) (hn : n ≤ 2) (hL : L.length = n + 1) (hr0 : r0.length = n + 2) (hr : ∀ r ∈ L, r.length = n + 2) (hb : 1 ≤ b) (hz : ∀ r ∈ m, ∀ q ∈ r, Rz q b) (hbd : bd b (n + 1) ≤ 8000)
    (ih0 : ∀ k, k < n + 2 → cv gp fid.vec_det [matQ (minorR m k)] = some (ra (detR (n + 1) (minorR m k)))) :
    ∀ (d k : Nat) (hh : Heap) (z0 : List AV), k + d = n + 2 → live hh 0 = some z0 → z0.length = 3 → live hh 1 = some (rtc (rt (sumR (fun k => (m.getD 0 []).getD k 0 * detR (n + 1) (minorR m k)) k))) →
      vec_det.l0 (matQ m) (.rp 0 0) (.rp 1 0) (rowV (r0.map rt)) (.int .i64 ((n + 2 : Nat) : Int)) (.int .i64 (k : Int)) hh = some (ra (detR (n + 2) m)) := by
  have hF : ∀ k, (m.getD 0 []).getD k 0 = r0.getD k 0 := fun k => by rw [hm]; rfl
  intro d
  induction d with
  | zero =>
    intro k hh z0 hk h0 hz0 h1
    have hkn : k = n + 2 := by omega
    subst hkn
    rw [vec_det.l0_eq]
    obtain ⟨z1, z2, z3, rfl⟩ := len3 hz0
    unfold rtc rt at h1
    simp (disch := first | exact dD | fail) only [Wd, W2d, Nat.reduceAdd, Nat.reduceMul, Nat.reduceSub, h0, h1, live_set_self h0, List.drop_zero]
    rfl
  | succ d ih =>
    intro k hh z0 hk h0 hz0 h1
    have hlen : 1 < hh.length := live_lt h1
    have hkl : k < (r0.map rt).length := by rw [List.length_map]; omega
    have hkl' : k < r0.length := by omega
    have ea : ((r0.map rt).flatMap rtc).drop (k * 3) = .bool (rt r0[k]).s :: str (rt r0[k]).m :: str (rt r0[k]).d :: ((r0.map rt).drop (k + 1)).flatMap rtc := by
      rw [drop_flatMap rtc_len, List.drop_eq_getElem_cons hkl, List.flatMap_cons, List.getElem_map]; rfl
    have es : opSlc 1 (matQ m) (some (.int .i64 1)) none none = some (.is (n + 1) false ((L.map fun r => r.map rt).map rowV)) := by
      rw [hm]
      show opSlc 1 (.is (((r0 :: L).map fun r => r.map rt)).length false _) _ _ _ = _
      rw [slc_isl (by omega) (by simp; omega)]
      simp [hL]
      exact List.take_of_length_le (by simp; omega)
    have hq : Rz r0[k] b := hz r0 (by rw [hm]; simp) _ (List.getElem_mem hkl')
    have hdz : Rz (detR (n + 1) (minorR m k)) (bd b n) := det_Rz hb n _ (minor_Rz hz k)
    have hbn : b + bd b n + 1 ≤ 8000 ∧ 1 + (n + 2) * (b + bd b n + 1) ≤ 8000 := by
      have : bd b (n + 1) = 1 + (n + 2) * (b + bd b n + 1) := rfl
      have h2 : 2 * (b + bd b n + 1) ≤ (n + 2) * (b + bd b n + 1) := Nat.mul_le_mul_right _ (by omega)
      omega
    have hx : Rz (r0[k] * detR (n + 1) (minorR m k)) 8000 := (hq.mul hdz).mono (by omega)
    have hs : Rz (sumR (fun k => (m.getD 0 []).getD k 0 * detR (n + 1) (minorR m k)) k) 8000 := by
      refine (sum_Rz (c := b + bd b n) k fun j _ => ?_).mono ?_
      · exact (mem_getD hb (row_getD hz 0)).mul (det_Rz hb n _ (minor_Rz hz j))
      · have : k * (b + bd b n + 1) ≤ (n + 2) * (b + bd b n + 1) := Nat.mul_le_mul_right _ (by omega)
        omega
    obtain ⟨mn, h', hmn, hold, hl1⟩ := det_l1 (y0 := matQ m) (y2 := .rp 0 0) (y3 := .rp 1 0) (y5 := .rp hh.length 0) (y21 := rowV (r0.map rt)) (y22 := .int .i64 ((n + 2 : Nat) : Int)) (y23 := .int .i64 (k : Int)) (f := false) (n := n + 1) (k := k) (base := hh.length + 1) (L := L.map fun r => r.map rt)
      (by omega) (by simp [hL]) (fun r hr' => by
        obtain ⟨r', h1, rfl⟩ := List.mem_map.1 hr'
        rw [List.length_map]; exact hr r' h1) (by omega) (n + 1) 0 (.is 0 true []) (hh ++ [some (rtc (rt r0[k]))]) [] (by omega) rfl ⟨by simp, .inl ⟨rfl, rfl⟩⟩
    have hmin : ([] ++ ((L.map fun r => r.map rt).drop 0).map fun r => r.eraseIdx k) = (minorR m k).map fun r => r.map rt := by
      rw [hm]
      simp [minorR, erase_map, Function.comp_def]
    rw [hmin] at hmn
    have hne : (minorR m k).map (fun r => r.map rt) ≠ [] := by
      intro h
      have := congrArg List.length h
      rw [hm] at this
      simp [minorR] at this
      rw [this] at hL; simp at hL
    have hdet : byVal (callW gp) h' fid.vec_det [mn] = some (ra (detR (n + 1) (minorR m k))) := byVal_flat (mapM1 (hmn.frz hne)) (ih0 k (by omega)) rfl
    have g0 : live h' 0 = some z0 := by rw [hold 0 (by omega), live_app_ne (by omega)]; exact h0
    have g1 : live h' 1 = some (rtc (rt (sumR (fun k => (m.getD 0 []).getD k 0 * detR (n + 1) (minorR m k)) k))) := by rw [hold 1 (by omega), live_app_ne (by omega)]; exact h1
    have ga : live h' hh.length = some (rtc (rt r0[k])) := by rw [hold hh.length (by omega), live_app_self]
    have hb' := hmn.1
    rw [vec_det.l0_eq]
    unfold rtc at hl1 ga g1
    simp (disch := first | exact dD | fail) only [Wd, W2d, Nat.reduceAdd, Nat.reduceMul, Nat.reduceSub, ea, es, live_app_self, set_app_self]
    have hl1' := hl1
    simp only [Int.natCast_zero] at hl1'
    rw [hl1', vec_det.l1_eq]
    rw [bin_lss, bind_s, cond_d, if_neg (by omega)]
    have hFk : (m.getD 0 []).getD k 0 = r0[k] := by rw [hF, List.getD_eq_getElem?_getD, List.getElem?_eq_getElem hkl']; rfl
    unfold rt at ga g1
    have hq8 := hq.mono (m := 8000) (by omega)
    have hd8 := hdz.mono (m := 8000) (by omega)
    by_cases hodd : k % 2 = 1
    · simp (disch := first | exact dD | fail) only [Wd, W2d, Nat.reduceAdd, Nat.reduceMul, Nat.reduceSub, ga, g1, hdet, v_rmul, v_rsub, live_app_self, set_app_self, i_and1, live_old, set_old]
      refine ih (k + 1) _ z0 (by omega) (by rw [live_app_ne (by simp; omega), live_set_ne (by omega)]; exact g0) hz0 ?_
      rw [live_app_ne (by simp; omega), live_set_self g1]
      rw [show sumR (fun k => (m.getD 0 []).getD k 0 * detR (n + 1) (minorR m k)) (k + 1) = sumR (fun k => (m.getD 0 []).getD k 0 * detR (n + 1) (minorR m k)) k - r0[k] * detR (n + 1) (minorR m k) by rw [sumR, if_pos hodd, hFk]]
      rfl
    · simp (disch := first | exact dD | fail) only [Wd, W2d, Nat.reduceAdd, Nat.reduceMul, Nat.reduceSub, ga, g1, hdet, v_rmul, v_radd, live_app_self, set_app_self, i_and1, live_old, set_old]
      refine ih (k + 1) _ z0 (by omega) (by rw [live_app_ne (by simp; omega), live_set_ne (by omega)]; exact g0) hz0 ?_
      rw [live_app_ne (by simp; omega), live_set_self g1]
      rw [show sumR (fun k => (m.getD 0 []).getD k 0 * detR (n + 1) (minorR m k)) (k + 1) = sumR (fun k => (m.getD 0 []).getD k 0 * detR (n + 1) (minorR m k)) k + r0[k] * detR (n + 1) (minorR m k) by rw [sumR, if_neg hodd, hFk]]
      rfl

theorem minor_len {m : List (List Rat)} {n k : Nat} (hm : m.length = n + 2) (hr : ∀ r ∈ m, r.length = n + 2) (hk : k < n + 2) : (minorR m k).length = n + 1 ∧ ∀ r ∈ minorR m k, r.length = n + 1 := by
  refine ⟨by simp [minorR, hm], fun r h => ?_⟩
  obtain ⟨r', h', rfl⟩ := List.mem_map.1 h
  have := hr r' (List.mem_of_mem_drop h')
  rw [List.length_eraseIdx_of_lt (by omega), this]; rfl
theorem det_cv {b : Nat} (hb : 1 ≤ b) : ∀ (n : Nat) (m : List (List Rat)), n ≤ 3 → m.length = n + 1 → (∀ r ∈ m, r.length = n + 1) → (∀ r ∈ m, ∀ q ∈ r, Rz q b) → bd b n ≤ 8000 → cv gp fid.vec_det [matQ m] = some (ra (detR (n + 1) m))
  | 0, m, hn, hm, hr, hz, hbd => by
    obtain ⟨a, rfl⟩ := sq1 hm hr
    have ha : Rz a b := hz [a] (by simp) a (by simp)
    rw [vec_det.eq]
    unfold vec_det.f
    show _ = some (ra a)
    have e1 : opSidx 1 (matQ [[a]]) (.int .i64 0) = some (.ip [rowV [rt a]]) := sidx_is0 (by simp)
    have e2 : opSidx 3 (rowV [rt a]) (.int .i64 0) = some (.ip (rtc (rt a))) := sidx_is0 (by simp)
    have e3 : opLen false (matQ [[a]]) = some (.int .i64 1) := rfl
    have e4 : opBin .eql (.int .i64 1) (.int .i64 1) = some (.bool true) := rfl
    unfold rtc rt at *
    simp (disch := first | exact dD | fail) only [Wd, W2d, Nat.reduceAdd, Nat.reduceMul, Nat.reduceSub, e1, e2, e3, e4]
  | n + 1, m, hn, hm, hr, hz, hbd => by
    match m, hm with
    | r0 :: L, hm =>
      have hr0 := hr r0 (by simp)
      have hL : L.length = n + 1 := by simpa using hm
      have hbn : bd b n ≤ 8000 := by
        have : bd b (n + 1) = 1 + (n + 2) * (b + bd b n + 1) := rfl
        have h2 : 1 * (b + bd b n + 1) ≤ (n + 2) * (b + bd b n + 1) := Nat.mul_le_mul_right _ (by omega)
        omega
      have ih : ∀ k, k < n + 2 → cv gp fid.vec_det [matQ (minorR (r0 :: L) k)] = some (ra (detR (n + 1) (minorR (r0 :: L) k))) := fun k hk => by
        obtain ⟨g1, g2⟩ := minor_len hm hr hk
        exact det_cv hb n _ (by omega) g1 g2 (minor_Rz hz k) hbn
      rw [vec_det.eq]
      unfold vec_det.f
      have e1 : opSidx 1 (matQ (r0 :: L)) (.int .i64 0) = some (.ip (rowV (r0.map rt) :: (L.map fun r => r.map rt).map rowV)) := sidx_is0 (by simp)
      have e3 : opLen false (matQ (r0 :: L)) = some (.int .i64 ((n + 2 : Nat) : Int)) := by
        show some (AV.int .i64 ((((r0 :: L).map fun r => r.map rt).length : Nat) : Int)) = _
        rw [List.length_map, hm]
      have e5 : opLen false (rowV (r0.map rt)) = some (.int .i64 ((n + 2 : Nat) : Int)) := by
        show some (AV.int .i64 (((r0.map rt).length : Nat) : Int)) = _
        rw [List.length_map, hr0]
      rw [e3, bind_s, bin_eql, bind_s, cond_d, if_neg (by omega)]
      simp (disch := first | exact dD | fail) only [Wd, W2d, Nat.reduceAdd, Nat.reduceMul, Nat.reduceSub, e1, e5, k_rof]
      exact det_l0 rfl (by omega) hL hr0 (fun r h => hr r (by simp [h])) hb hz hbd ih (n + 2) 0 _ zr (by omega) rfl rfl rfl
theorem k_det {b n : Nat} {m : List (List Rat)} (hb : 1 ≤ b) (hn : n ≤ 3) (hm : m.length = n + 1) (hr : ∀ r ∈ m, r.length = n + 1) (hz : ∀ r ∈ m, ∀ q ∈ r, Rz q b) (hbd : bd b n ≤ 8000) : byVal (callW gp) h fid.vec_det [matQ m] = some (ra (detR (n + 1) m)) :=
  byVal_imm (imm_L1 (imm_mat.mono (by omega))) (det_cv hb n m hn hm hr hz hbd)
end
end Go.Proofs.YtechbfodaallkaaGreat.Am
