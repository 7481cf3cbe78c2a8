import Derived.Test.YtechbfodaallkaaGreatAmLem
/- Rows of which it is known what room they have. -/
set_option linter.unusedVariables false
set_option maxRecDepth 10000
set_option linter.unusedSimpArgs false
namespace Go.Proofs.YtechbfodaallkaaGreat.Am
open Go

theorem slcc_lo {sz id off n : Nat} {k : IntKind} {b : Int} (h1 : 0 ≤ b) (h2 : b ≤ n) : opSlcc sz (.rs sz id off n) none (some (.int k b)) = some (.rc sz id off b.toNat n) := by
  have : b.toNat ≤ n := by omega
  simp [opSlcc, bnd, h1, this]
theorem slcc_hi {sz id off n : Nat} {k : IntKind} {a : Int} (h1 : 0 ≤ a) (h2 : a ≤ n) : opSlcc sz (.rs sz id off n) (some (.int k a)) none = some (.rc sz id (off + a.toNat * sz) (n - a.toNat) (n - a.toNat)) := by
  have : a.toNat ≤ n := by omega
  simp [opSlcc, bnd, h1, this]
  omega
theorem slcc_rc {sz id off n r : Nat} {k k' : IntKind} {a b : Int} (h0 : 0 ≤ a) (h1 : a ≤ b) (h2 : b ≤ r) : opSlcc sz (.rc sz id off n r) (some (.int k a)) (some (.int k' b)) = some (.rc sz id (off + a.toNat * sz) (b.toNat - a.toNat) (r - a.toNat)) := by
  have e1 : b.toNat ≤ r := by omega
  have e2 : a.toNat ≤ b.toNat := by omega
  have e3 : 0 ≤ b := by omega
  simp [opSlcc, bnd, h0, e1, e2, e3]
  omega
theorem slcc_e {sz : Nat} {k : IntKind} : opSlcc sz (.is 0 true []) none (some (.int k 0)) = some (.is 0 true []) := by
  simp [opSlcc, opSlc, bnd, fullOf]
theorem slc_m {sz id off n : Nat} {k k' k'' : IntKind} {a b c : Int} (h0 : 0 ≤ a) (h1 : a ≤ b) (h2 : b ≤ c) (h3 : c ≤ n) : opSlc sz (.rs sz id off n) (some (.int k a)) (some (.int k' b)) (some (.int k'' c)) = some (.rs sz id (off + a.toNat * sz) (b.toNat - a.toNat)) := by
  have e1 : b.toNat ≤ c.toNat := by omega
  have e2 : a.toNat ≤ b.toNat := by omega
  have e3 : 0 ≤ b := by omega
  have e4 : 0 ≤ c := by omega
  have e5 : c.toNat ≤ n := by omega
  simp [opSlc, bnd, h0, e1, e2, e3, e4, e5]
  omega
theorem len_rc {sz id off n k : Nat} : opLen false (.rc sz id off n k) = some (.int .i64 n) := Eq.trans rfl rfl
theorem cap_is {n : Nat} {cs : List AV} : opCap (.is n true cs) = some (.int .i64 n) := Eq.trans rfl rfl
theorem elems_rc {h : Heap} {sz id off n k : Nat} {cs : List AV} (hl : live h id = some cs) (hc : off + k * sz ≤ cs.length) (hn : n ≤ k) : elemsOf h sz (.rc sz id off n k) = some (n, (cs.drop off).take (n * sz)) := by
  simp [elemsOf, hl, hc, hn]
theorem elems_is {h : Heap} {sz n : Nat} {f : Bool} {cs : List AV} (hl : cs.length = n * sz) : elemsOf h sz (.is n f cs) = some (n, cs) := by
  simp [elemsOf, hl]; rw [← hl, List.take_length]
theorem app_rc0 {h : Heap} {sz id off n k : Nat} {cs : List AV} {y : AV} (hl : live h id = some cs) (hc : off + k * sz ≤ cs.length) (hn : n ≤ k) (hk : k ≤ 4294967296) {new : List AV} (hy : elemsOf h sz y = some (0, new)) (ha : new.all AV.cell = true) : opApp h sz (.rc sz id off n k) y = some (.rc sz id off n k, h) := by
  unfold opApp
  rw [hy, elems_rc hl hc hn]
  have : n ≤ 4294967296 := by omega
  simp only [bind_s, Nat.add_zero, this, ha, AV.notStr, and_self, if_true]
theorem app_rc {h : Heap} {sz id off n k m : Nat} {cs : List AV} {y : AV} (hl : live h id = some cs) (hc : off + k * sz ≤ cs.length) (hn : n + m ≤ k) (hk : k ≤ 4294967296) {new : List AV} (hy : elemsOf h sz y = some (m, new)) (ha : new.all AV.cell = true) (hm : m ≠ 0) :
    opApp h sz (.rc sz id off n k) y = some (.rc sz id off (n + m) k, h.set id (some (splice cs (off + n * sz) new))) := by
  unfold opApp
  rw [hy, elems_rc hl hc (by omega)]
  have : n + m ≤ 4294967296 := by omega
  simp only [bind_s, this, ha, AV.notStr, and_self, if_true, hm, if_false, hn, hl, Option.map_some]
theorem clr_rc {h : Heap} {sz id off n k : Nat} {cs z : List AV} (hl : live h id = some cs) (hc : off + k * sz ≤ cs.length) (hn : n ≤ k) (hz : z.all AV.cell = true) (hzl : z.length = sz) : opClr h sz z (.rc sz id off n k) = some (h.set id (some (splice cs off (zeros z n)))) := by
  unfold opClr
  rw [elems_rc hl hc hn]
  simp only [bind_s, hl, hz, hzl, and_self, if_true]
theorem appm_e {h : Heap} {sz : Nat} {z cs : List AV} {n : Nat} (h0 : 0 < n) (h1 : n ≤ 4294967296) : opAppm h sz z (.is 0 true cs) (.int .i64 (n : Int)) = some (.rs sz h.length 0 n, h ++ [some (zeros z n)]) := by
  have e1 : (0 : Int) < (n : Int) := by omega
  have e2 : (n : Int) ≤ 4294967296 := by omega
  simp [opAppm, e1, e2]; omega
theorem fz_rc {m sz id off n k : Nat} {h : Heap} {cs : List AV} (hl : live h id = some cs) (hc : off + n * sz ≤ cs.length) : freezeN (m + 1) h (.rc sz id off n k) = (((cs.drop off).take (n * sz)).mapM (freezeN m h)).map (.is n false) := by
  simp only [freezeN, hl, bind_s, hc, if_true]
theorem splice_mid {cs new : List AV} {off : Nat} (h : off + new.length ≤ cs.length) : (splice cs off new).length = cs.length := by
  unfold splice; simp; omega
end Go.Proofs.YtechbfodaallkaaGreat.Am
