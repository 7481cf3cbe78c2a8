import Derived.Test.YtechbfodaallkaaGreatAmLem
/- Rows of which it is known what room they have. -/
set_option linter.unusedVariables false
set_option maxRecDepth 10000
set_option linter.unusedSimpArgs false
namespace Go.Proofs.YtechbfodaallkaaGreat.Am
open Go

theorem slcc_lo {sz id off n : Nat} {k : IntKind} {b : Int} (h1 : 0 ≤ b) (h2 : b ≤ n) : opSlcc sz (.rs sz id off n) none (some (.int k b)) = some (.rc sz id off b.toNat n) := by
  have : b.toNat ≤ n := by omega
  simp [opSlcc, bnd, h1, this]
theorem slcc_hi {sz id off n : Nat} {k : IntKind} {a : Int} (h1 : 0 ≤ a) (h2 : a ≤ n) : opSlcc sz (.rs sz id off n) (some (.int k a)) none = some (.rc sz id (off + a.toNat * sz) (n - a.toNat) (n - a.toNat)) := by
  have : a.toNat ≤ n := by omega
  simp [opSlcc, bnd, h1, this]
  omega
theorem elems_rc {h : Heap} {sz id off n k : Nat} {cs : List AV} (hl : live h id = some cs) (hc : off + k * sz ≤ cs.length) (hn : n ≤ k) : elemsOf h sz (.rc sz id off n k) = some (n, (cs.drop off).take (n * sz)) := by
  simp [elemsOf, hl, hc, hn]
theorem app_rc0 {h : Heap} {sz id off n k : Nat} {cs : List AV} {y : AV} (hl : live h id = some cs) (hc : off + k * sz ≤ cs.length) (hn : n ≤ k) (hk : k ≤ 4294967296) {new : List AV} (hy : elemsOf h sz y = some (0, new)) (ha : new.all AV.cell = true) : opApp h sz (.rc sz id off n k) y = some (.rc sz id off n k, h) := by
  unfold opApp
  rw [hy, elems_rc hl hc hn]
  have : n ≤ 4294967296 := by omega
  simp only [bind_s, Nat.add_zero, this, ha, AV.notStr, and_self, if_true]
theorem app_rc {h : Heap} {sz id off n k m : Nat} {cs : List AV} {y : AV} (hl : live h id = some cs) (hc : off + k * sz ≤ cs.length) (hn : n + m ≤ k) (hk : k ≤ 4294967296) {new : List AV} (hy : elemsOf h sz y = some (m, new)) (ha : new.all AV.cell = true) (hm : m ≠ 0) :
    opApp h sz (.rc sz id off n k) y = some (.rc sz id off (n + m) k, h.set id (some (splice cs (off + n * sz) new))) := by
  unfold opApp
  rw [hy, elems_rc hl hc (by omega)]
  have : n + m ≤ 4294967296 := by omega
  simp only [bind_s, this, ha, AV.notStr, and_self, if_true, hm, if_false, hn, hl, Option.map_some]
theorem fz_rc {m sz id off n k : Nat} {h : Heap} {cs : List AV} (hl : live h id = some cs) (hc : off + n * sz ≤ cs.length) : freezeN (m + 1) h (.rc sz id off n k) = (((cs.drop off).take (n * sz)).mapM (freezeN m h)).map (.is n false) := by
  simp only [freezeN, hl, bind_s, hc, if_true]
theorem splice_mid {cs new : List AV} {off : Nat} (h : off + new.length ≤ cs.length) : (splice cs off new).length = cs.length := by
  unfold splice; simp; omega
end Go.Proofs.YtechbfodaallkaaGreat.Am
