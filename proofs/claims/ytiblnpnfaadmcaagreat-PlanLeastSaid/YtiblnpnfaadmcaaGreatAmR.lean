import Derived.Test.YtiblnpnfaadmcaaGreatAmM
import Derived.Test.YtiblnpnfaadmcaaGreatTNum
/- Whole numbers: the program's layer 2 and the document's answer. -/
set_option linter.unusedVariables false
set_option maxRecDepth 10000
set_option linter.unusedSimpArgs false
namespace Go.Proofs.YtiblnpnfaadmcaaGreat.Am
open Go

theorem zy7b {b : Bool} {l : List Nat} : Imm 12 (.agg [.bool b, str l]) :=
 (zy77 (d := 1) (zy7t imm_bool imm_strl)).mono (by omega)
theorem imm_n2 {b : Bool} {l : List Nat} : Imm 12 (.agg [.bool b, nats l]) :=
 (zy77 (d := 2) (zy7t (imm_bool.mono (by omega)) imm_nats)).mono (by omega)
theorem zy72 {a : AV} (ha : Imm 12 a) : ∀ x ∈ [a], Imm 12 x := zy7g ha (by omega)
theorem zy73 {a b : AV} (ha : Imm 12 a) (hb : Imm 12 b) : ∀ x ∈ [a, b], Imm 12 x := zy7t ha hb
theorem zy75 {a b c : AV} (ha : Imm 12 a) (hb : Imm 12 b) (hc : Imm 12 c) : ∀ x ∈ [a, b, c], Imm 12 x := zy7s ha hb hc
theorem zyfv {h : Heap} {x y : Option (List AV)} : (h ++ [x]).set h.length y = h ++ [y] := by simp
theorem set_app2 {h : Heap} {x y z : Option (List AV)} : ((h ++ [x]) ++ [y]).set h.length z = (h ++ [z]) ++ [y] := by simp
theorem live_app2 {h : Heap} {cs : List AV} {y : Option (List AV)} : live ((h ++ [some cs]) ++ [y]) h.length = some cs := zya8 zya9

theorem nb_eq {n : Nat} : (nb n = []) = (n = 0) := by rw [nb_eq_nil]
theorem nil_lt : ∀ x ∈ ([] : List Nat), x < 256 := fun x h => by simp at h
theorem zycm : ∀ x ∈ [1], x < 256 := fun x h => by rw [List.mem_singleton.1 h]; decide
theorem zyh4 : AV.str ⟨#[1]⟩ = str [1] := Eq.trans rfl rfl
theorem zyce {n : Nat} : opBin .neq (str (nb n)) (.str ⟨#[]⟩) = some (.bool (decide (n ≠ 0))) := by
 rw [zyh3, zyh2 (nb_lt n) nil_lt]
 simp only [ne_eq, nb_eq]
theorem zycc {n : Nat} : opBin .eql (str (nb n)) (.str ⟨#[]⟩) = some (.bool (decide (n = 0))) := by
 rw [zyh3, zyh1 (nb_lt n) nil_lt]
 simp only [nb_eq]
theorem nb_eq1 {n : Nat} : (nb n = [1]) = (n = 1) := by
 apply propext
 constructor
 ·intro h; rw [← nb_one] at h; exact nb_inj h
 ·rintro rfl; exact nb_one
theorem zycf {n : Nat} : opBin .neq (str (nb n)) (.str ⟨#[1]⟩) = some (.bool (decide (n ≠ 1))) := by
 rw [zyh4, zyh2 (nb_lt n) zycm]
 simp only [ne_eq, nb_eq1]
theorem zycd {n : Nat} : opBin .eql (str (nb n)) (.str ⟨#[1]⟩) = some (.bool (decide (n = 1))) := by
 rw [zyh4, zyh1 (nb_lt n) zycm]
 simp only [nb_eq1]
theorem zyay {l : List Nat} (h : ∀ x ∈ l, x < 256) : opBin .eql (str l) (.str ⟨#[]⟩) = some (.bool (decide (l = []))) := by rw [zyh3, zyh1 h nil_lt]
theorem lstr_ne0 {l : List Nat} (h : ∀ x ∈ l, x < 256) : opBin .neq (str l) (.str ⟨#[]⟩) = some (.bool (decide (l ≠ []))) := by rw [zyh3, zyh2 h nil_lt]

theorem zy1v {n k : Nat} (h : (nb n).length ≤ 8 * k) : (dig B64 n).length ≤ k := by
 have := zy40 (B := 256) (C := B64) (w := 8) (by decide) (by omega) (by decide) n
 rw [zybu] at h
 omega
theorem zy1u {n k : Nat} (h : (nb n).length ≤ 4 * k) : (dig B32 n).length ≤ k := by
 have := zy40 (B := 256) (C := B32) (w := 4) (by decide) (by omega) (by decide) n
 rw [zybu] at h
 omega
theorem zybv {a b : Nat} (h : a ≤ b) : (nb a).length ≤ (nb b).length := by rw [zybu, zybu]; exact zy9z (by decide) h
theorem zybw {a b n m : Nat} (ha : (nb a).length ≤ n) (hb : (nb b).length ≤ m) : (nb (a * b)).length ≤ n + m := by
 rw [zybu] at *; exact zya0 (by decide) ha hb
theorem nb_add {a b n : Nat} (ha : (nb a).length ≤ n) (hb : (nb b).length ≤ n) : (nb (a + b)).length ≤ n + 1 := by
 rw [zybu] at *; exact zy9v (by decide) ha hb

def ivn (s : Bool) (n : Nat) : AV := .agg [.bool (s && decide (n ≠ 0)), str (nb n)]

def wchk (s : Bool) (l : List Nat) : Int := if 32000 < l.length then 5 else if l.getD 0 1 = 0 then 1 else if s = true ∧ l = [] then 1 else 0

theorem zy2f {h : Heap} {s : Bool} {l : List Nat} (hl : ∀ x ∈ l, x < 256) : byVal (callW gp) h fid.zf3b [.agg [.bool s, str l]] = some (.int .i64 (wchk s l)) := zy1m (zy72 zy7b) (by
 rw [zf3b.eq]
 unfold zf3b.f wchk
 simp (disch := first | exact dD | fail) only [Wd, W2d, Nat.reduceAdd, Nat.reduceMul, Nat.reduceSub, c_of]
 by_cases h1 : 32000 < l.length
 ·simp only [if_pos h1]
  simp (disch := first | exact dD | fail) only [Wd, W2d, Nat.reduceAdd, Nat.reduceMul, Nat.reduceSub]
 ·simp only [if_neg h1]
  by_cases h2 : l.getD 0 1 = 0
  ·simp only [if_pos h2]
   simp (disch := first | exact dD | fail) only [Wd, W2d, Nat.reduceAdd, Nat.reduceMul, Nat.reduceSub]
  ·simp only [if_neg h2]
   cases s
   ·simp (disch := first | exact dD | fail) only [Wd, W2d, Nat.reduceAdd, Nat.reduceMul, Nat.reduceSub]
    rfl
   ·simp (disch := first | exact dD | fail) only [Wd, W2d, Nat.reduceAdd, Nat.reduceMul, Nat.reduceSub, zyay, zy3c]
    by_cases h3 : l = [] <;> simp [h3])
theorem zy2d {h : Heap} {s : Bool} {l : List Nat} (hl : ∀ x ∈ l, x < 256) : byVal (callW gp) h fid.zf2x [.agg [.bool s, str l]] = some (.int .i64 (wchk s l)) := zy1m (zy72 zy7b) (by
 rw [zf2x.eq]
 unfold zf2x.f wchk
 by_cases h1 : 32000 < l.length
 ·simp (disch := first | exact dD | fail) only [Wd, W2d, Nat.reduceAdd, Nat.reduceMul, Nat.reduceSub]
  rw [if_pos h1]
 ·rw [if_neg h1]
  by_cases h2 : l.getD 0 1 = 0
  ·simp (disch := first | exact dD | fail) only [Wd, W2d, Nat.reduceAdd, Nat.reduceMul, Nat.reduceSub, zy25]
   rw [if_pos h2]
  ·rw [if_neg h2]
   cases s
   ·simp (disch := first | exact dD | fail) only [Wd, W2d, Nat.reduceAdd, Nat.reduceMul, Nat.reduceSub, zy25]
    rfl
   ·simp (disch := first | exact dD | fail) only [Wd, W2d, Nat.reduceAdd, Nat.reduceMul, Nat.reduceSub, zy25, zyay, zy3c]
    by_cases h3 : l = [] <;> simp [h3])


theorem c_told {h : Heap} {s : Bool} {l : List Nat} (hl : Dg B64 l) (hn : l.length ≤ 4000) : byVal (callW gp) h fid.zf2w [.agg [.bool s, nats l]] = some (ivn s (val B64 l)) := zy1m (zy72 imm_n2) (by
 rw [zf2w.eq]
 unfold zf2w.f ivn
 cases s
 ·simp (disch := first | exact dD | fail) only [Wd, W2d, Nat.reduceAdd, Nat.reduceMul, Nat.reduceSub, c_nat, zyce]
  rfl
 ·simp (disch := first | exact dD | fail) only [Wd, W2d, Nat.reduceAdd, Nat.reduceMul, Nat.reduceSub, c_nat, zyce]
  rfl)
theorem c_told1 {h : Heap} {s : Bool} {x : Nat} (hx : x < 18446744073709551616) : byVal (callW gp) h fid.zf2w [.agg [.bool s, .is 1 true (nl .u64 [x])]] = some (ivn s x) := by
 have e1 : zy5v h (.agg [.bool s, .is 1 true (nl .u64 [x])]) = some (.agg [.bool s, nats [x]]) := rfl
 have e2 : noRef (.agg [.bool s, .is 1 true (nl .u64 [x])]) = true := rfl
 have hd : Dg B64 [x] := .cons hx .nil
 have := c_told (h := []) (s := s) hd (by simp)
 rw [zy1k] at this ⊢
 have e3 : [AV.agg [.bool s, .is 1 true (nl .u64 [x])]].mapM (zy5v h) = some [.agg [.bool s, nats [x]]] := mapM1 e1
 have e4 : [AV.agg [.bool s, nats [x]]].mapM (zy5v []) = some [.agg [.bool s, nats [x]]] := rfl
 rw [e4] at this
 rw [e3]
 simp only [zy13] at this ⊢
 have e5 : val B64 [x] = x := by simp [val]
 rw [e5] at this
 cases hc : cv gp fid.zf2w [.agg [.bool s, nats [x]]] with
 | none => rw [hc] at this; cases this
 | some v =>
  rw [hc] at this
  simp only [zy13] at this ⊢
  have e6 : ([AV.agg [.bool s, .is 1 true (nl .u64 [x])]].all noRef || flatV v) = true := by simp [e2]
  rw [if_pos e6]
  have e7 : ([AV.agg [.bool s, nats [x]]].all noRef || flatV v) = true := by
   have : noRef (.agg [.bool s, nats [x]]) = true := rfl
   simp [this]
  rw [if_pos e7] at this
  exact this

theorem wchk_ok {s : Bool} {a : Nat} (hs : s = true → a ≠ 0) (la : (nb a).length ≤ 32000) : wchk s (nb a) = 0 := by
 unfold wchk
 have h0 : (nb a).getD 0 1 ≠ 0 := by
  by_cases h : a = 0
  ·subst h; rw [zyby]; simp
  ·have h1 := zybs h
   have hl : 0 < (nb a).length := by
    rcases Nat.eq_zero_or_pos (nb a).length with h2 | h2
    ·exact absurd (nb_eq_nil.1 (List.length_eq_zero_iff.1 h2)) h
    ·exact h2
   rw [List.getD_eq_getElem?_getD, List.getElem?_eq_getElem hl] at h1 ⊢
   exact h1
 rw [if_neg (by omega), if_neg h0, if_neg]
 rintro ⟨h1, h2⟩
 exact hs h1 (nb_eq_nil.1 h2)
theorem c_of_nb {h : Heap} {n : Nat} (hn : (nb n).length ≤ 32000) : byVal (callW gp) h fid.limb_Of [str (nb n)] = some (.tup [nats (dig B64 n), .int .i64 0]) := zy1m (zy72 (imm_strl.mono (by omega))) (of_nb n hn)

theorem read2 {hh : Heap} {s t : Bool} {a b : Nat} (hs : s = true → a ≠ 0) (ht : t = true → b ≠ 0) (la : (nb a).length ≤ 32000) (lb : (nb b).length ≤ 32000) :
  callW gp fid.zf2t [.is 2 true [.bool s, str (nb a), .bool t, str (nb b)]] hh = some (.tup [.rs 2 (hh.length + 3) 0 2, .int .i64 0], hh ++ [some [.bool s, str (nb a)], none, some [.bool t, str (nb b)], some [.bool s, nats (dig B64 a), .bool t, nats (dig B64 b)]]) := by
 rw [zf2t.eq]
 unfold zf2t.f
 have wa := wchk_ok hs la
 have wb := wchk_ok ht lb
 have ga := nb_lt a
 have gb := nb_lt b
 simp (disch := first | exact dD | fail) only [Wd, W2d, Nat.reduceAdd, Nat.reduceMul, Nat.reduceSub]
 rw [zf2t.l0_eq]
 simp (disch := first | exact dD | fail) only [Wd, W2d, Nat.reduceAdd, Nat.reduceMul, Nat.reduceSub, zya9, zyfv, zy2f, c_of_nb, wa, zy1e, app_s0]
 rw [zf2t.l0_eq]
 simp (disch := first | exact dD | fail) only [Wd, W2d, Nat.reduceAdd, Nat.reduceMul, Nat.reduceSub, zya9, zyfv, zy2f, c_of_nb, wb, zy1e]
 rw [app_sr (n := 1) (m := 1) (live_app2) rfl rfl (by omega) (by omega) rfl, set_app2]
 simp (disch := first | exact dD | fail) only [Wd, W2d, Nat.reduceAdd, Nat.reduceMul, Nat.reduceSub]
 rw [zf2t.l0_eq]
 simp (disch := first | exact dD | fail) only [Wd, W2d, Nat.reduceAdd, Nat.reduceMul, Nat.reduceSub]
 simp
end Go.Proofs.YtiblnpnfaadmcaaGreat.Am
/- Whole numbers: sums, products, quotients. -/
set_option linter.unusedVariables false
set_option linter.unusedSimpArgs false
namespace Go.Proofs.YtiblnpnfaadmcaaGreat.Am
open Go


section
variable {h : Heap} {a b : Nat}
theorem k_mul (la : (dig B64 a).length ≤ 4000) (lb : (dig B64 b).length ≤ 4000) : byVal (callW gp) h fid.zf2v [nats (dig B64 a), nats (dig B64 b)] = some (.tup [nats (dig B64 (a * b)), .int .i64 0]) := by
 rw [c_mul (zy3s zy0u a) (zy3s zy0u b) la lb, zyhy zy0u, zyhy zy0u]
theorem k_add (la : (dig B64 a).length ≤ 4000) (lb : (dig B64 b).length ≤ 4000) : byVal (callW gp) h fid.zf4s [nats (dig B64 a), nats (dig B64 b)] = some (.tup [nats (dig B64 (a + b)), .int .i64 0]) := by
 rw [c_add (zy3s zy0u a) (zy3s zy0u b) la lb, zyhy zy0u, zyhy zy0u]
theorem k_sub (la : (dig B64 a).length ≤ 4000) (lb : (dig B64 b).length ≤ 4000) (hle : b ≤ a) : byVal (callW gp) h fid.zf4t [nats (dig B64 a), nats (dig B64 b)] = some (.tup [nats (dig B64 (a - b)), .int .i64 0]) := by
 rw [c_sub (zy3s zy0u a) (zy3s zy0u b) la lb (by rw [zyhy zy0u, zyhy zy0u]; exact hle), zyhy zy0u, zyhy zy0u]
theorem k_subn (la : (dig B64 a).length ≤ 4000) (lb : (dig B64 b).length ≤ 4000) (hlt : a < b) : byVal (callW gp) h fid.zf4t [nats (dig B64 a), nats (dig B64 b)] = some (.tup [nats [], .int .i64 2]) := by
 rw [c_subn (zy3s zy0u a) (zy3s zy0u b) la lb (by rw [zyhy zy0u, zyhy zy0u]; exact hlt)]
theorem k_dm (la : (dig B64 a).length ≤ 4000) (lb : (dig B64 b).length ≤ 4000) (h0 : 0 < b) : byVal (callW gp) h fid.zf3s [nats (dig B64 a), nats (dig B64 b)] = some (.tup [nats (dig B64 (a / b)), nats (dig B64 (a % b)), .int .i64 0]) := by
 rw [c_dm (zy3s zy0u a) (zy3s zy0u b) la lb (by rw [zyhy zy0u]; exact h0), zyhy zy0u, zyhy zy0u]
theorem zy9b {s : Bool} (la : (dig B64 a).length ≤ 4000) : byVal (callW gp) h fid.zf2w [.agg [.bool s, nats (dig B64 a)]] = some (ivn s a) := by
 rw [c_told (zy3s zy0u a) la, zyhy zy0u]
theorem zy8y (la : (nb a).length ≤ 1000000) : byVal (callW gp) h fid.zf1l [str (nb a)] = some (nats (dig B32 a)) := by
 rw [c_digits (nb_lt a) la, zybx]
end


def sgn (s : Bool) (n : Nat) : Int := if s = true then -(n : Int) else n
def iv (z : Int) : AV := ivn (decide (z < 0)) z.natAbs
theorem zy8h (s : Bool) (n : Nat) : ivn s n = iv (sgn s n) := by
 unfold iv ivn sgn
 cases s
 ·have e : decide (((n : Nat) : Int) < 0) = false := decide_eq_false (by omega)
  simp [e]
 ·by_cases h : n = 0
  ·subst h; simp
  ·have e : (-((n : Nat) : Int) < 0) := by omega
   rw [if_pos rfl]
   simp only [decide_eq_true e, Int.natAbs_neg, Int.natAbs_natCast]
theorem iv_eq (z : Int) : iv z = .agg [.bool (decide (z < 0)), str (nb z.natAbs)] := by
 unfold iv ivn
 by_cases h : z < 0
 ·have : z.natAbs ≠ 0 := by omega
  simp [h, this]
 ·simp [h]
theorem iv_neg {z : Int} : decide (z < 0) = true → z.natAbs ≠ 0 := fun h => by
 have := of_decide_eq_true h
 omega
theorem zyg1 (z : Int) : sgn (decide (z < 0)) z.natAbs = z := by
 unfold sgn
 by_cases h : z < 0
 ·rw [if_pos (decide_eq_true h)]; omega
 ·rw [if_neg (by simpa using h)]; omega
def sumS (s : Bool) (a : Nat) (t : Bool) (b : Nat) : Bool := if s = t then s else if b ≤ a then s else t
def sumN (s : Bool) (a : Nat) (t : Bool) (b : Nat) : Nat := if s = t then a + b else if b ≤ a then a - b else b - a
theorem zyh6 (s : Bool) (a : Nat) (t : Bool) (b : Nat) : sgn (sumS s a t b) (sumN s a t b) = sgn s a + sgn t b := by
 unfold sumS sumN sgn
 cases s <;> cases t
 ·simp
 ·by_cases h : b ≤ a
  ·simp [h]; omega
  ·simp [h]; omega
 ·by_cases h : b ≤ a
  ·simp [h]; omega
  ·simp [h]; omega
 ·simp; omega
theorem sumN_le (s : Bool) (a : Nat) (t : Bool) (b : Nat) : sumN s a t b ≤ a + b := by
 unfold sumN
 split
 ·omega
 ·split <;> omega
theorem mul_sgn (s : Bool) (a : Nat) (t : Bool) (b : Nat) : sgn (!(s == t)) (a * b) = sgn s a * sgn t b := by
 unfold sgn
 cases s <;> cases t <;> simp [Int.neg_mul, Int.mul_neg]


theorem c_sum {h : Heap} {s t : Bool} {a b : Nat} (la : (dig B64 a).length ≤ 4000) (lb : (dig B64 b).length ≤ 4000) : byVal (callW gp) h fid.zf4n [.agg [.bool s, nats (dig B64 a)], .agg [.bool t, nats (dig B64 b)]] = some (.agg [.bool (sumS s a t b), nats (dig B64 (sumN s a t b))]) := zy1m (zy73 imm_n2 imm_n2) (by
 rw [zf4n.eq]
 unfold zf4n.f sumS sumN
 by_cases hst : s = t
 ·subst hst
  simp (disch := first | exact dD | fail) only [Wd, W2d, Nat.reduceAdd, Nat.reduceMul, Nat.reduceSub, k_add, beq_self_eq_true, if_true]
 ·have e : (s == t) = false := by simpa using hst
  simp only [if_neg hst]
  by_cases hab : b ≤ a
  ·simp only [if_pos hab]
   simp (disch := first | exact dD | fail) only [Wd, W2d, Nat.reduceAdd, Nat.reduceMul, Nat.reduceSub, k_sub, e]
  ·simp only [if_neg hab]
   simp (disch := first | exact dD | fail) only [Wd, W2d, Nat.reduceAdd, Nat.reduceMul, Nat.reduceSub, k_sub, k_subn, e])

theorem c_wadd {h : Heap} {s t : Bool} {a b : Nat} (hs : s = true → a ≠ 0) (ht : t = true → b ≠ 0) (la : (nb a).length ≤ 16000) (lb : (nb b).length ≤ 16000) :
  byVal (callW gp) h fid.zf4l [.agg [.bool s, str (nb a)], .agg [.bool t, str (nb b)]] = some (.tup [ivn (sumS s a t b) (sumN s a t b), .int .i64 0]) := zy1m (zy73 zy7b zy7b) (by
 rw [zf4l.eq]
 unfold zf4l.f
 have l1 : (dig B64 a).length ≤ 2000 := zy1v (by omega)
 have l2 : (dig B64 b).length ≤ 2000 := zy1v (by omega)
 have l3 : (dig B64 (sumN s a t b)).length ≤ 2001 := Nat.le_trans (zy9z zy0u (sumN_le s a t b)) (zy9v zy0u l1 l2)
 simp (disch := first | exact dD | fail) only [Wd, W2d, Nat.reduceAdd, Nat.reduceMul, Nat.reduceSub]
 rw [read2 hs ht (by omega) (by omega)]
 simp (disch := first | exact dD | fail) only [Wd, W2d, Nat.reduceAdd, Nat.reduceMul, Nat.reduceSub, c_sum, zy9b, ivn])
theorem c_wsub {h : Heap} {s t : Bool} {a b : Nat} (hs : s = true → a ≠ 0) (ht : t = true → b ≠ 0) (la : (nb a).length ≤ 16000) (lb : (nb b).length ≤ 16000) :
  byVal (callW gp) h fid.zf48 [.agg [.bool s, str (nb a)], .agg [.bool t, str (nb b)]] = some (.tup [ivn (sumS s a (!t) b) (sumN s a (!t) b), .int .i64 0]) := zy1m (zy73 zy7b zy7b) (by
 rw [zf48.eq]
 unfold zf48.f
 have l1 : (dig B64 a).length ≤ 2000 := zy1v (by omega)
 have l2 : (dig B64 b).length ≤ 2000 := zy1v (by omega)
 have l3 : (dig B64 (sumN s a (!t) b)).length ≤ 2001 := Nat.le_trans (zy9z zy0u (sumN_le s a _ b)) (zy9v zy0u l1 l2)
 simp (disch := first | exact dD | fail) only [Wd, W2d, Nat.reduceAdd, Nat.reduceMul, Nat.reduceSub]
 rw [read2 hs ht (by omega) (by omega)]
 simp (disch := first | exact dD | fail) only [Wd, W2d, Nat.reduceAdd, Nat.reduceMul, Nat.reduceSub, un_not, c_sum, zy9b, ivn])
theorem c_wmul {h : Heap} {s t : Bool} {a b : Nat} (hs : s = true → a ≠ 0) (ht : t = true → b ≠ 0) (la : (nb a).length ≤ 16000) (lb : (nb b).length ≤ 16000) :
  byVal (callW gp) h fid.zf2a [.agg [.bool s, str (nb a)], .agg [.bool t, str (nb b)]] = some (.tup [ivn (!(s == t)) (a * b), .int .i64 0]) := zy1m (zy73 zy7b zy7b) (by
 rw [zf2a.eq]
 unfold zf2a.f
 have l1 : (dig B64 a).length ≤ 2000 := zy1v (by omega)
 have l2 : (dig B64 b).length ≤ 2000 := zy1v (by omega)
 have l3 := zya0 zy0u l1 l2
 simp (disch := first | exact dD | fail) only [Wd, W2d, Nat.reduceAdd, Nat.reduceMul, Nat.reduceSub]
 rw [read2 hs ht (by omega) (by omega)]
 simp (disch := first | exact dD | fail) only [Wd, W2d, Nat.reduceAdd, Nat.reduceMul, Nat.reduceSub, k_mul, zy9b, ivn])
theorem wgcd_l0 {c0 c1 : Option (List AV)} {u v : AV} {rest : Heap} : ∀ (b a : Nat), (dig B64 a).length ≤ 4000 → (dig B64 b).length ≤ 4000 →
  zf3c.l0 (.rp 2 0) (nats (dig B64 a)) (nats (dig B64 b)) (c0 :: c1 :: some [u, v] :: rest) = some (.tup [ivn false (Nat.gcd a b), .int .i64 0]) := by
 intro b
 induction b using Nat.strongRecOn with
 | _ b ih =>
  intro a la lb
  rw [zf3c.l0_eq]
  simp (disch := first | exact dD | fail) only [Wd, W2d, Nat.reduceAdd, Nat.reduceMul, Nat.reduceSub, zy3c]
  by_cases hb : b = 0
  ·rw [if_neg (by rw [hb, zy43]; simp), hb, Nat.gcd_zero_right]
   simp (disch := first | exact dD | fail) only [Wd, W2d, Nat.reduceAdd, Nat.reduceMul, Nat.reduceSub, zy9b, ivn]
  ·have h1 := (dig0 zy0u hb).2
   rw [if_pos (by omega)]
   simp (disch := first | exact dD | fail) only [Wd, W2d, Nat.reduceAdd, Nat.reduceMul, Nat.reduceSub, k_dm]
   rw [ih (a % b) (Nat.mod_lt _ (by omega)) b lb (Nat.le_trans (zy9z zy0u (Nat.le_of_lt (Nat.mod_lt a (by omega)))) lb)]
   rw [Nat.gcd_comm b, ← Nat.gcd_rec, Nat.gcd_comm]
theorem c_wgcd {h : Heap} {s t : Bool} {a b : Nat} (hs : s = true → a ≠ 0) (ht : t = true → b ≠ 0) (la : (nb a).length ≤ 32000) (lb : (nb b).length ≤ 32000) :
  byVal (callW gp) h fid.zf3c [.agg [.bool s, str (nb a)], .agg [.bool t, str (nb b)]] = some (.tup [ivn false (Nat.gcd a b), .int .i64 0]) := zy1m (zy73 zy7b zy7b) (by
 rw [zf3c.eq]
 unfold zf3c.f
 have l1 : (dig B64 a).length ≤ 4000 := zy1v (by omega)
 have l2 : (dig B64 b).length ≤ 4000 := zy1v (by omega)
 simp (disch := first | exact dD | fail) only [Wd, W2d, Nat.reduceAdd, Nat.reduceMul, Nat.reduceSub]
 rw [read2 hs ht (by omega) (by omega)]
 simp (disch := first | exact dD | fail) only [Wd, W2d, Nat.reduceAdd, Nat.reduceMul, Nat.reduceSub]
 exact wgcd_l0 b a l1 l2)
theorem c_wdiv {h : Heap} {s : Bool} {a b : Nat} (hs : s = true → a ≠ 0) (hb : 0 < b) (hd : a % b = 0) (la : (nb a).length ≤ 32000) (lb : (nb b).length ≤ 32000) :
  byVal (callW gp) h fid.zf4m [.agg [.bool s, str (nb a)], .agg [.bool false, str (nb b)]] = some (.tup [ivn s (a / b), ivn s 0, .int .i64 0]) := zy1m (zy73 zy7b zy7b) (by
 rw [zf4m.eq]
 unfold zf4m.f
 have l1 : (dig B64 a).length ≤ 4000 := zy1v (by omega)
 have l2 : (dig B64 b).length ≤ 4000 := zy1v (by omega)
 have l3 : (dig B64 (a / b)).length ≤ 4000 := Nat.le_trans (zy9z zy0u (Nat.div_le_self _ _)) l1
 have l4 : (dig B64 0).length = 0 := by rw [zy43]; rfl
 simp (disch := first | exact dD | fail) only [Wd, W2d, Nat.reduceAdd, Nat.reduceMul, Nat.reduceSub]
 rw [read2 hs (by simp) (by omega) (by omega)]
 simp (disch := first | exact dD | fail) only [Wd, W2d, Nat.reduceAdd, Nat.reduceMul, Nat.reduceSub, k_dm, hd]
 have e : (!(s == false)) = s := by cases s <;> rfl
 cases s
 ·simp (disch := first | exact dD | fail) only [Wd, W2d, Nat.reduceAdd, Nat.reduceMul, Nat.reduceSub]
  unfold zf4m.j0 zf4m.j1
  simp (disch := first | exact dD | fail) only [Wd, W2d, Nat.reduceAdd, Nat.reduceMul, Nat.reduceSub, zy9b, ivn, e]
 ·simp (disch := first | exact dD | fail) only [Wd, W2d, Nat.reduceAdd, Nat.reduceMul, Nat.reduceSub]
  unfold zf4m.j0 zf4m.j1
  simp (disch := first | exact dD | fail) only [Wd, W2d, Nat.reduceAdd, Nat.reduceMul, Nat.reduceSub, zy9b, ivn, e])
end Go.Proofs.YtiblnpnfaadmcaaGreat.Am
/- Whole numbers: the document's answer; both, on whole numbers. -/
set_option linter.unusedVariables false
set_option linter.unusedSimpArgs false
namespace Go.Proofs.YtiblnpnfaadmcaaGreat.Am
open Go

section
variable {h : Heap} {s t : Bool} {a b : Nat}
theorem zy90 (la : (dig B32 a).length ≤ 100000) : byVal (callW gp) h fid.zf1m [.bool s, nats (dig B32 a)] = some (ivn s a) := zy1m (zy73 (imm_bool.mono (by omega)) (imm_nats.mono (by omega))) (by
 rw [zf1m.eq]
 unfold zf1m.f ivn
 cases s
 ·simp (disch := first | exact dD | fail) only [Wd, W2d, Nat.reduceAdd, Nat.reduceMul, Nat.reduceSub, c_rnat]
  rfl
 ·simp (disch := first | exact dD | fail) only [Wd, W2d, Nat.reduceAdd, Nat.reduceMul, Nat.reduceSub, c_rnat, zyce]
  rfl)
theorem c_w2neg {l : List Nat} (hl : ∀ x ∈ l, x < 256) : byVal (callW gp) h fid.zf21 [.agg [.bool s, str l]] = some (.agg [.bool (!s && decide (l ≠ [])), str l]) := zy1m (zy72 zy7b) (by
 rw [zf21.eq]
 unfold zf21.f
 cases s
 ·simp (disch := first | exact dD | fail) only [Wd, W2d, Nat.reduceAdd, Nat.reduceMul, Nat.reduceSub, lstr_ne0]
  rfl
 ·simp (disch := first | exact dD | fail) only [Wd, W2d, Nat.reduceAdd, Nat.reduceMul, Nat.reduceSub]
  rfl)
theorem c_w2sum (la : (nb a).length ≤ 100000) (lb : (nb b).length ≤ 100000) : byVal (callW gp) h fid.zf36 [.agg [.bool s, str (nb a)], .agg [.bool t, str (nb b)]] = some (ivn (sumS s a t b) (sumN s a t b)) := zy1m (zy73 zy7b zy7b) (by
 rw [zf36.eq]
 unfold zf36.f sumS sumN
 have l1 : (dig B32 a).length ≤ 25000 := zy1u (by omega)
 have l2 : (dig B32 b).length ≤ 25000 := zy1u (by omega)
 by_cases hst : s = t
 ·subst hst
  have l3 := zy9v zy0t l1 l2
  simp (disch := first | exact dD | fail) only [Wd, W2d, Nat.reduceAdd, Nat.reduceMul, Nat.reduceSub, zy8y, c_radd, zy90, ivn, beq_self_eq_true, if_true]
 ·have e : (s == t) = false := by simpa using hst
  simp only [if_neg hst]
  by_cases hab : b ≤ a
  ·have hc : (0 : Int) ≤ cmpI a b := by unfold cmpI; split <;> (try split) <;> omega
   have l3 : (dig B32 (a - b)).length ≤ 25000 := Nat.le_trans (zy9z zy0t (Nat.sub_le _ _)) l1
   simp only [if_pos hab]
   simp (disch := first | exact dD | fail) only [Wd, W2d, Nat.reduceAdd, Nat.reduceMul, Nat.reduceSub, zy8y, zy29, c_rsub, zy90, ivn, e]
  ·have hc : ¬ (0 : Int) ≤ cmpI a b := by unfold cmpI; rw [if_pos (by omega)]; omega
   have l3 : (dig B32 (b - a)).length ≤ 25000 := Nat.le_trans (zy9z zy0t (Nat.sub_le _ _)) l2
   simp only [if_neg hab]
   simp (disch := first | exact dD | fail) only [Wd, W2d, Nat.reduceAdd, Nat.reduceMul, Nat.reduceSub, zy8y, zy29, c_rsub, zy90, ivn, e])
theorem c_w2mul (la : (nb a).length ≤ 100000) (lb : (nb b).length ≤ 100000) : byVal (callW gp) h fid.zf12 [.agg [.bool s, str (nb a)], .agg [.bool t, str (nb b)]] = some (ivn (!(s == t)) (a * b)) := zy1m (zy73 zy7b zy7b) (by
 rw [zf12.eq]
 unfold zf12.f
 have l1 : (dig B32 a).length ≤ 25000 := zy1u (by omega)
 have l2 : (dig B32 b).length ≤ 25000 := zy1u (by omega)
 have l3 := zya0 zy0t l1 l2
 simp (disch := first | exact dD | fail) only [Wd, W2d, Nat.reduceAdd, Nat.reduceMul, Nat.reduceSub, zy8y, c_rmul, zy90, ivn])
theorem zy2e (la : (nb a).length ≤ 100000) (lb : (nb b).length ≤ 100000) : byVal (callW gp) h fid.zf20 [.agg [.bool s, str (nb a)], .agg [.bool t, str (nb b)]] = some (ivn false (Nat.gcd a b)) := zy1m (zy73 zy7b zy7b) (by
 rw [zf20.eq]
 unfold zf20.f
 have l1 : (dig B32 a).length ≤ 25000 := zy1u (by omega)
 have l2 : (dig B32 b).length ≤ 25000 := zy1u (by omega)
 have l3 : (dig B32 (Nat.gcd a b)).length ≤ 25000 := by
  by_cases ha : a = 0
  ·rw [ha, Nat.gcd_zero_left]; exact l2
  ·exact Nat.le_trans (zy9z zy0t (Nat.gcd_le_left b (by omega))) l1
 simp (disch := first | exact dD | fail) only [Wd, W2d, Nat.reduceAdd, Nat.reduceMul, Nat.reduceSub, zy8y, c_rgcd, zy90, ivn])
end


theorem zyhr {z : Int} (h1 : -9223372036854775808 ≤ -z) (h2 : -z ≤ 9223372036854775807) : opUn .neg (.int .i64 z) = some (.int .i64 (-z)) := by
 show some (AV.int .i64 (IntKind.i64.wrap (0 - z))) = _
 rw [zyii (by omega) (by omega)]; congr 2; omega
theorem val1 (B x : Nat) : val B [x] = x := by simp [val]

theorem c_wof {h : Heap} {z : Int} (h1 : -9223372036854775808 ≤ z) (h2 : z ≤ 9223372036854775807) : byVal (callW gp) h fid.whole_Of [.int .i64 z] = some (iv z) := zy1m (zy72 (imm_int.mono (by omega))) (by
 rw [whole_Of.eq]
 unfold whole_Of.f iv
 simp (disch := first | exact dD | fail) only [Wd, W2d, Nat.reduceAdd, Nat.reduceMul, Nat.reduceSub, zy3c]
 by_cases hz : z < 0
 ·rw [if_pos hz, zy7w (by omega) (by omega)]
  simp (disch := first | exact dD | fail) only [Wd, W2d, Nat.reduceAdd, Nat.reduceMul, Nat.reduceSub]
  rw [zyhr (by omega) (by omega)]
  simp (disch := first | exact dD | fail) only [Wd, W2d, Nat.reduceAdd, Nat.reduceMul, Nat.reduceSub]
  rw [zy3l (by omega) (by omega)]
  have e : (-(z + 1)).toNat + 1 = z.natAbs := by omega
  have e2 : z.natAbs < 18446744073709551616 := by omega
  simp (disch := first | exact dD | fail) only [Wd, W2d, Nat.reduceAdd, Nat.reduceMul, Nat.reduceSub, e, c_told1, ivn, decide_eq_true hz]
 ·rw [if_neg hz, zy3l (by omega) (by omega)]
  have e : z.toNat = z.natAbs := by omega
  have e2 : z.natAbs < 18446744073709551616 := by omega
  simp (disch := first | exact dD | fail) only [Wd, W2d, Nat.reduceAdd, Nat.reduceMul, Nat.reduceSub, e, c_told1, ivn, decide_eq_false hz])
theorem zy2b {h : Heap} {x : Nat} (hx : x < 18446744073709551616) : byVal (callW gp) h fid.zf24 [.is 1 true (nl .u64 [x])] = some (nats (dig B32 x)) := by
 have hd : Dg B64 [x] := .cons hx .nil
 have := zy1n (h := h) (g := fid.zf24) (f := true) (l := [x]) (bs := []) (fun _ h => by cases h) (split_cv [x] hd (by simp))
 rw [val1] at this
 exact this
theorem c_w2of {h : Heap} {z : Int} (h1 : -9223372036854775808 ≤ z) (h2 : z ≤ 9223372036854775807) : byVal (callW gp) h fid.gussetref02_Of [.int .i64 z] = some (iv z) := zy1m (zy72 (imm_int.mono (by omega))) (by
 rw [gussetref02_Of.eq]
 unfold gussetref02_Of.f iv
 have l3 : (dig B32 z.natAbs).length ≤ 2 := zy3z zy0t (show z.natAbs < 4294967296 ^ 2 by omega)
 simp (disch := first | exact dD | fail) only [Wd, W2d, Nat.reduceAdd, Nat.reduceMul, Nat.reduceSub, zy3c]
 by_cases hz : z < 0
 ·rw [if_pos hz, zy7w (by omega) (by omega)]
  simp (disch := first | exact dD | fail) only [Wd, W2d, Nat.reduceAdd, Nat.reduceMul, Nat.reduceSub]
  rw [zyhr (by omega) (by omega)]
  simp (disch := first | exact dD | fail) only [Wd, W2d, Nat.reduceAdd, Nat.reduceMul, Nat.reduceSub]
  rw [zy3l (by omega) (by omega)]
  have e : (-(z + 1)).toNat + 1 = z.natAbs := by omega
  have e2 : z.natAbs < 18446744073709551616 := by omega
  simp (disch := first | exact dD | fail) only [Wd, W2d, Nat.reduceAdd, Nat.reduceMul, Nat.reduceSub, e, zy2b, zy90, ivn, decide_eq_true hz]
 ·rw [if_neg hz, zy3l (by omega) (by omega)]
  have e : z.toNat = z.natAbs := by omega
  have e2 : z.natAbs < 18446744073709551616 := by omega
  simp (disch := first | exact dD | fail) only [Wd, W2d, Nat.reduceAdd, Nat.reduceMul, Nat.reduceSub, e, zy2b, zy90, ivn, decide_eq_false hz])
end Go.Proofs.YtiblnpnfaadmcaaGreat.Am
/- Rational numbers, as both texts write them; what they reckon with. -/
set_option linter.unusedVariables false
set_option linter.unusedSimpArgs false
namespace Go.Proofs.YtiblnpnfaadmcaaGreat.Am
open Go

abbrev ia (x : Int) : AV := .agg [.bool (decide (x < 0)), str (nb x.natAbs)]
abbrev ra (q : Rat) : AV := .agg [.bool (decide (q.num < 0)), str (nb q.num.natAbs), str (nb q.den)]
abbrev isz (x : Int) : Nat := (nb x.natAbs).length
structure Rz (q : Rat) (n : Nat) : Prop where
 num : isz q.num ≤ n
 den : (nb q.den).length ≤ n

theorem iv_ia (z : Int) : iv z = ia z := iv_eq z
theorem imm_ra {q : Rat} : Imm 12 (ra q) := (zy77 (d := 1) (zy7s imm_bool imm_strl imm_strl)).mono (by omega)
theorem ia_ne {z : Int} : decide (z < 0) = true → z.natAbs ≠ 0 := iv_neg
theorem zy8b {x y : Int} {n m : Nat} (hx : isz x ≤ n) (hy : isz y ≤ m) : isz (x * y) ≤ n + m := by
 unfold isz at *; rw [Int.natAbs_mul]; exact zybw hx hy
theorem zy8a {x y : Int} {n : Nat} (hx : isz x ≤ n) (hy : isz y ≤ n) : isz (x + y) ≤ n + 1 :=
 Nat.le_trans (zybv (Int.natAbs_add_le x y)) (nb_add hx hy)
theorem zy8d {x : Int} : isz (-x) = isz x := by unfold isz; rw [Int.natAbs_neg]
theorem isz_sub {x y : Int} {n : Nat} (hx : isz x ≤ n) (hy : isz y ≤ n) : isz (x - y) ≤ n + 1 := by
 rw [Int.sub_eq_add_neg]; exact zy8a hx (by rw [zy8d]; exact hy)
theorem zy8c {n : Nat} : isz (n : Int) = (nb n).length := by unfold isz; rw [Int.natAbs_natCast]


theorem mk_num (n : Int) {d : Nat} (hd : d ≠ 0) : (mkRat n d).num = n / (Nat.gcd n.natAbs d : Nat) := by rw [Rat.num_mkRat, if_neg hd, Nat.gcd_comm]
theorem mk_den (n : Int) {d : Nat} (hd : d ≠ 0) : (mkRat n d).den = d / Nat.gcd n.natAbs d := by rw [Rat.den_mkRat, if_neg hd, Nat.gcd_comm]
theorem zy48 (n : Int) {g : Nat} (h : g ∣ n.natAbs) : (n / (g : Int)).natAbs = n.natAbs / g := by
 have : (g : Int) ∣ n := Int.ofNat_dvd_left.2 h
 rw [Int.natAbs_ediv_of_dvd this, Int.natAbs_natCast]
theorem zy49 (n : Int) {g : Nat} (h : g ∣ n.natAbs) (hg : 0 < g) : (n / (g : Int) < 0) = (n < 0) := by
 have hd : (g : Int) ∣ n := Int.ofNat_dvd_left.2 h
 obtain ⟨k, rfl⟩ := hd
 rw [Int.mul_ediv_cancel_left k (by omega)]
 apply propext
 constructor
 ·intro hk; exact Int.mul_neg_of_pos_of_neg (by omega) hk
 ·intro hk
  rcases Int.lt_or_le k 0 with h1 | h1
  ·exact h1
  ·have := Int.mul_nonneg (show (0 : Int) ≤ g by omega) h1
   omega
theorem ra_mk (n : Int) {d : Nat} (hd : d ≠ 0) : ra (mkRat n d) = .agg [.bool (decide (n < 0)), str (nb (n.natAbs / Nat.gcd n.natAbs d)), str (nb (d / Nat.gcd n.natAbs d))] := by
 have hg : 0 < Nat.gcd n.natAbs d := Nat.gcd_pos_of_pos_right _ (by omega)
 unfold ra
 rw [mk_den n hd, mk_num n hd, zy48 n (Nat.gcd_dvd_left _ _)]
 simp only [zy49 n (Nat.gcd_dvd_left _ _) hg]
theorem Rz_mk {n : Int} {d k : Nat} (hd : d ≠ 0) (h1 : isz n ≤ k) (h2 : (nb d).length ≤ k) : Rz (mkRat n d) k := by
 refine ⟨?_, ?_⟩
 ·unfold isz
  rw [mk_num n hd, zy48 n (Nat.gcd_dvd_left _ _)]
  exact Nat.le_trans (zybv (Nat.div_le_self _ _)) h1
 ·rw [mk_den n hd]
  exact Nat.le_trans (zybv (Nat.div_le_self _ _)) h2
theorem Rz.mono {q : Rat} {n m : Nat} (h : Rz q n) (hm : n ≤ m) : Rz q m := ⟨Nat.le_trans h.num hm, Nat.le_trans h.den hm⟩
theorem zy3o {q : Rat} : q.den ≠ 0 := q.den_nz
theorem Rz.add {p q : Rat} {n m : Nat} (hp : Rz p n) (hq : Rz q m) : Rz (p + q) (n + m + 1) := by
 rw [Rat.add_def']
 refine Rz_mk (Nat.mul_ne_zero zy3o zy3o) (zy8a ?_ ?_) (Nat.le_trans (zybw hp.den hq.den) (by omega))
 ·exact zy8b hp.num (by rw [zy8c]; exact hq.den)
 ·have := zy8b hq.num (show isz (p.den : Int) ≤ n by rw [zy8c]; exact hp.den)
  omega
theorem Rz.neg {q : Rat} {n : Nat} (h : Rz q n) : Rz (-q) n := ⟨by show isz (-q.num) ≤ n; rw [zy8d]; exact h.num, h.den⟩
theorem Rz.sub {p q : Rat} {n m : Nat} (hp : Rz p n) (hq : Rz q m) : Rz (p - q) (n + m + 1) := by
 rw [Rat.sub_eq_add_neg]; exact hp.add hq.neg
theorem Rz.mul {p q : Rat} {n m : Nat} (hp : Rz p n) (hq : Rz q m) : Rz (p * q) (n + m) := by
 rw [Rat.mul_def']
 exact Rz_mk (Nat.mul_ne_zero zy3o zy3o) (zy8b hp.num hq.num) (zybw hp.den hq.den)
theorem zy46 (n d : Int) : Rat.divInt n d = mkRat (if d < 0 then -n else n) d.natAbs := by
 cases d with
 | ofNat d =>
  rw [if_neg (by simp)]
  exact Rat.divInt_ofNat n d
 | negSucc d =>
  rw [if_pos (Int.negSucc_lt_zero d)]
  show Rat.normalize (-n) d.succ (Nat.succ_ne_zero d) = _
  rw [Rat.normalize_eq_mkRat]
  rfl
theorem zy04 {n d : Int} {k : Nat} (hd : d ≠ 0) (h1 : isz n ≤ k) (h2 : isz d ≤ k) : Rz (Rat.divInt n d) k := by
 rw [zy46]
 refine Rz_mk (by omega) ?_ h2
 split
 ·rw [zy8d]; exact h1
 ·exact h1
theorem zy47 (p q : Rat) : p / q = Rat.divInt (p.num * q.den) (p.den * q.num) := by
 rw [Rat.div_def, Rat.inv_def]
 conv => lhs; rw [← Rat.num_divInt_den p]
 rw [Rat.divInt_mul_divInt]
theorem Rz.div {p q : Rat} {n m : Nat} (hp : Rz p n) (hq : Rz q m) : Rz (p / q) (n + m) := by
 rw [zy47]
 by_cases h : q.num = 0
 ·rw [h, Int.mul_zero, Rat.divInt_zero]
  exact ⟨by show (nb 0).length ≤ _; rw [zyby]; simp, by
   show (nb 1).length ≤ _
   have h1 := hp.den
   have : (nb 1).length ≤ (nb p.den).length := zybv (Nat.one_le_iff_ne_zero.2 zy3o)
   omega⟩
 ·refine zy04 (Int.mul_ne_zero (by have := p.den_nz; omega) h) ?_ ?_
  ·exact zy8b hp.num (by rw [zy8c]; exact hq.den)
  ·exact zy8b (by rw [zy8c]; exact hp.den) hq.num


def rok (s : Bool) (m d : List Nat) : Prop := m.getD 0 1 ≠ 0 ∧ ¬ (s = true ∧ m = []) ∧ d.getD 0 1 ≠ 0 ∧ d ≠ [] ∧ Nat.gcd (val 256 m.reverse) (val 256 d.reverse) = 1
instance (s : Bool) (m d : List Nat) : Decidable (rok s m d) := by unfold rok; exact inferInstance
def rchk (s : Bool) (m d : List Nat) : Int := if 8000 < m.length ∨ 8000 < d.length then 5 else if rok s m d then 0 else 1

theorem rok_rat {s : Bool} {m d : List Nat} (hm : ∀ x ∈ m, x < 256) (hd : ∀ x ∈ d, x < 256) (h : rok s m d) : ∃ q : Rat, s = decide (q.num < 0) ∧ m = nb q.num.natAbs ∧ d = nb q.den := by
 obtain ⟨h1, h2, h3, h4, h5⟩ := h
 have em := nb_of hm h1
 have ed := nb_of hd h3
 have hd0 : val 256 d.reverse ≠ 0 := fun e => h4 (by rw [← ed, e, zyby])
 refine ⟨⟨sgn s (val 256 m.reverse), val 256 d.reverse, hd0, ?_⟩, ?_, ?_, ?_⟩
 ·have : (sgn s (val 256 m.reverse)).natAbs = val 256 m.reverse := by unfold sgn; split <;> simp
  rw [this]; exact h5
 ·show s = decide (sgn s _ < 0)
  unfold sgn
  cases s
  ·rw [if_neg (by simp)]; exact (decide_eq_false (by omega)).symm
  ·rw [if_pos rfl]
   have : val 256 m.reverse ≠ 0 := fun e => h2 ⟨rfl, by rw [← em, e, zyby]⟩
   exact (decide_eq_true (by omega)).symm
 ·show m = nb (sgn s _).natAbs
  have : (sgn s (val 256 m.reverse)).natAbs = val 256 m.reverse := by unfold sgn; split <;> simp
  rw [this, em]
 ·exact ed.symm
theorem zybt (n : Nat) : (nb n).getD 0 1 ≠ 0 := by
 by_cases h : n = 0
 ·subst h; rw [zyby]; simp
 ·have h1 := zybs h
  have hl : 0 < (nb n).length := by
   rcases Nat.eq_zero_or_pos (nb n).length with h2 | h2
   ·exact absurd (nb_eq_nil.1 (List.length_eq_zero_iff.1 h2)) h
   ·exact h2
  rw [List.getD_eq_getElem?_getD, List.getElem?_eq_getElem hl] at h1 ⊢
  exact h1
theorem rat_rok (q : Rat) : rok (decide (q.num < 0)) (nb q.num.natAbs) (nb q.den) := by
 refine ⟨zybt _, fun ⟨h1, h2⟩ => ia_ne h1 (nb_eq_nil.1 h2), zybt _, fun h => zy3o (nb_eq_nil.1 h), ?_⟩
 rw [zybx, zybx]
 exact q.reduced
theorem zyek {q : Rat} (h : Rz q 8000) : rchk (decide (q.num < 0)) (nb q.num.natAbs) (nb q.den) = 0 := by
 unfold rchk
 have h1 := h.num
 have h2 := h.den
 rw [if_neg (by unfold isz at h1; omega), if_pos (rat_rok q)]
theorem rchk_zero {s : Bool} {m d : List Nat} : rchk s m d = 0 ↔ (m.length ≤ 8000 ∧ d.length ≤ 8000 ∧ rok s m d) := by
 unfold rchk
 constructor
 ·intro h
  split at h
  ·cases h
  ·split at h
   ·rename_i h1 h2; exact ⟨by omega, by omega, h2⟩
   ·cases h
 ·rintro ⟨h1, h2, h3⟩
  rw [if_neg (by omega), if_pos h3]
theorem ra_inj {p q : Rat} (h : ra p = ra q) : p = q := by
 unfold ra str at h
 simp only [AV.agg.injEq, List.cons.injEq, AV.bool.injEq, AV.str.injEq, ByteArray.mk.injEq, and_true] at h
 obtain ⟨h1, h2, h3⟩ := h
 have e2 := nb_inj (zybd (nb_lt _) (nb_lt _) (by simpa using h2))
 have e3 := nb_inj (zybd (nb_lt _) (nb_lt _) (by simpa using h3))
 refine Rat.ext ?_ e3
 have := decide_eq_decide.1 h1
 omega
end Go.Proofs.YtiblnpnfaadmcaaGreat.Am
/- Rational numbers: the program's layer 3. -/
set_option linter.unusedVariables false
set_option linter.unusedSimpArgs false
namespace Go.Proofs.YtiblnpnfaadmcaaGreat.Am
open Go

section
variable {h : Heap}


theorem k_wmul {x y : Int} (hx : isz x ≤ 16000) (hy : isz y ≤ 16000) : byVal (callW gp) h fid.zf2a [ia x, ia y] = some (.tup [ia (x * y), .int .i64 0]) := by
 rw [c_wmul ia_ne ia_ne hx hy, zy8h, mul_sgn, zyg1, zyg1, iv_ia]
theorem k_wadd {x y : Int} (hx : isz x ≤ 16000) (hy : isz y ≤ 16000) : byVal (callW gp) h fid.zf4l [ia x, ia y] = some (.tup [ia (x + y), .int .i64 0]) := by
 rw [c_wadd ia_ne ia_ne hx hy, zy8h, zyh6, zyg1, zyg1, iv_ia]
theorem sgn_not (t : Bool) (b : Nat) : sgn (!t) b = - sgn t b := by unfold sgn; cases t <;> simp
theorem k_wsub {x y : Int} (hx : isz x ≤ 16000) (hy : isz y ≤ 16000) : byVal (callW gp) h fid.zf48 [ia x, ia y] = some (.tup [ia (x - y), .int .i64 0]) := by
 rw [c_wsub ia_ne ia_ne hx hy, zy8h, zyh6, sgn_not, zyg1, zyg1, iv_ia, Int.sub_eq_add_neg]
theorem zy70 (n : Nat) : ia (n : Int) = .agg [.bool false, str (nb n)] := by
 unfold ia
 rw [decide_eq_false (by omega), Int.natAbs_natCast]

theorem zy7a {f : Nat} : Imm 12 (.fn f []) := fun n hn => by
 cases n with
 | zero => omega
 | succ n => exact ⟨rfl, fun _ => rfl⟩
theorem c_do {f : Nat} {s t u : Bool} {l m k : List Nat} {e : AV} (hf : gp.refm f = false) (hc : ∀ h, byVal (callW gp) h f [.agg [.bool s, str l], .agg [.bool t, str m]] = some (.tup [.agg [.bool u, str k], e])) : byVal (callW gp) h fid.rat_do [.fn f [], .agg [.bool s, str l], .agg [.bool t, str m]] = some (.agg [.bool u, str k]) := zy1m (zy75 zy7a zy7b zy7b) (by
 rw [rat_do.eq]
 unfold rat_do.f zy2i
 simp (disch := first | exact dD | fail) only [Wd, W2d, Nat.reduceAdd, Nat.reduceMul, Nat.reduceSub, hf, cond_false, hc])
theorem refm_wmul : gp.refm fid.zf2a = false := by kernel_rfl
theorem d_mul {x y : Int} (hx : isz x ≤ 16000) (hy : isz y ≤ 16000) : byVal (callW gp) h fid.rat_do [.fn fid.zf2a [], ia x, ia y] = some (ia (x * y)) := c_do refm_wmul fun _ => k_wmul hx hy
theorem d_muld {x : Int} {d : Nat} (hx : isz x ≤ 16000) (hd : (nb d).length ≤ 16000) : byVal (callW gp) h fid.rat_do [.fn fid.zf2a [], ia x, .agg [.bool false, str (nb d)]] = some (ia (x * d)) := by
 rw [← zy70]; exact d_mul hx (by rw [zy8c]; exact hd)
theorem d_dmul {x : Int} {d : Nat} (hx : isz x ≤ 16000) (hd : (nb d).length ≤ 16000) : byVal (callW gp) h fid.rat_do [.fn fid.zf2a [], .agg [.bool false, str (nb d)], ia x] = some (ia (d * x)) := by
 rw [← zy70]; exact d_mul (by rw [zy8c]; exact hd) hx
theorem d_dd {d e : Nat} (hd : (nb d).length ≤ 16000) (he : (nb e).length ≤ 16000) : byVal (callW gp) h fid.rat_do [.fn fid.zf2a [], .agg [.bool false, str (nb d)], .agg [.bool false, str (nb e)]] = some (.agg [.bool false, str (nb (d * e))]) := by
 rw [← zy70, ← zy70, d_mul (by rw [zy8c]; exact hd) (by rw [zy8c]; exact he), ← Int.natCast_mul, zy70]
theorem refm_wadd : gp.refm fid.zf4l = false := by kernel_rfl
theorem d_add {x y : Int} (hx : isz x ≤ 16000) (hy : isz y ≤ 16000) : byVal (callW gp) h fid.rat_do [.fn fid.zf4l [], ia x, ia y] = some (ia (x + y)) := c_do refm_wadd fun _ => k_wadd hx hy
theorem refm_wsub : gp.refm fid.zf48 = false := by kernel_rfl
theorem d_sub {x y : Int} (hx : isz x ≤ 16000) (hy : isz y ≤ 16000) : byVal (callW gp) h fid.rat_do [.fn fid.zf48 [], ia x, ia y] = some (ia (x - y)) := c_do refm_wsub fun _ => k_wsub hx hy
theorem refm_wgcd : gp.refm fid.zf3c = false := by kernel_rfl
theorem d_gcd {s t : Bool} {a b : Nat} (hs : s = true → a ≠ 0) (ht : t = true → b ≠ 0) (la : (nb a).length ≤ 32000) (lb : (nb b).length ≤ 32000) : byVal (callW gp) h fid.rat_do [.fn fid.zf3c [], .agg [.bool s, str (nb a)], .agg [.bool t, str (nb b)]] = some (.agg [.bool false, str (nb (Nat.gcd a b))]) :=
 c_do refm_wgcd fun _ => c_wgcd hs ht la lb


theorem c_den {s : Bool} {m d : List Nat} : byVal (callW gp) h fid.zf2b [.agg [.bool s, str m, str d]] = some (.agg [.bool false, str d]) := zy1m (zy72 ((zy77 (d := 1) (zy7s imm_bool imm_strl imm_strl)).mono (by omega))) (by
 rw [zf2b.eq]
 unfold zf2b.f
 simp (disch := first | exact dD | fail) only [Wd, W2d, Nat.reduceAdd, Nat.reduceMul, Nat.reduceSub])
theorem zy7p {s : Bool} {m d : List Nat} : Imm 12 (.agg [.bool s, str m, str d]) := (zy77 (d := 1) (zy7s imm_bool imm_strl imm_strl)).mono (by omega)
theorem zyif {s : Bool} {l : List Nat} (hn : l.length ≤ 32000) : wchk s l = 0 ↔ l.getD 0 1 ≠ 0 ∧ ¬ (s = true ∧ l = []) := by
 unfold wchk
 rw [if_neg (by omega)]
 constructor
 ·intro h
  split at h
  ·cases h
  ·split at h
   ·cases h
   ·exact ⟨by assumption, by assumption⟩
 ·rintro ⟨h1, h2⟩
  rw [if_neg h1, if_neg h2]
theorem zyaz {l : List Nat} (h : ∀ x ∈ l, x < 256) : opBin .eql (str l) (.str ⟨#[1]⟩) = some (.bool (decide (l = [1]))) := by rw [zyh4, zyh1 h zycm]

theorem zy28 {s : Bool} {m d : List Nat} (hm : ∀ x ∈ m, x < 256) (hd : ∀ x ∈ d, x < 256) : byVal (callW gp) h fid.zf2s [.agg [.bool s, str m, str d]] = some (.int .i64 (rchk s m d)) := zy1m (zy72 zy7p) (by
 rw [zf2s.eq]
 unfold zf2s.f rchk
 by_cases h1 : 8000 < m.length
 ·rw [if_pos (.inl h1)]
  simp (disch := first | exact dD | fail) only [Wd, W2d, Nat.reduceAdd, Nat.reduceMul, Nat.reduceSub]
 by_cases h2 : 8000 < d.length
 ·rw [if_pos (.inr h2)]
  simp (disch := first | exact dD | fail) only [Wd, W2d, Nat.reduceAdd, Nat.reduceMul, Nat.reduceSub]
 rw [if_neg (by omega)]
 have z1 := zyif (s := s) (l := m) (by omega)
 have z2 := zyif (s := false) (l := d) (by omega)
 by_cases h3 : wchk s m = 0
 ·obtain ⟨g1, g2⟩ := z1.1 h3
  by_cases h4 : wchk false d = 0
  ·obtain ⟨g3, _⟩ := z2.1 h4
   by_cases h5 : d = []
   ·rw [if_neg (fun hr => hr.2.2.2.1 h5)]
    simp (disch := first | exact dD | fail) only [Wd, W2d, Nat.reduceAdd, Nat.reduceMul, Nat.reduceSub, zy2f, c_den, zyay, h3, h4]
   ·have em := nb_of hm g1
    have ed := nb_of hd g3
    have hdn : val 256 d.reverse ≠ 0 := fun e => h5 (by rw [← ed, e, zyby])
    have hsm : s = true → val 256 m.reverse ≠ 0 := fun hs e => g2 ⟨hs, by rw [← em, e, zyby]⟩
    have hff : false = true → val 256 d.reverse ≠ 0 := fun h => by cases h
    have l1 : (nb (val 256 m.reverse)).length ≤ 32000 := by rw [em]; omega
    have l2 : (nb (val 256 d.reverse)).length ≤ 32000 := by rw [ed]; omega
    by_cases h6 : d = [1]
    ·have : rok s m d := ⟨g1, g2, g3, h5, by
      have : val 256 d.reverse = 1 := by rw [h6]; rfl
      rw [this]; exact Nat.gcd_one_right _⟩
     rw [if_pos this]
     simp (disch := first | exact dD | fail) only [Wd, W2d, Nat.reduceAdd, Nat.reduceMul, Nat.reduceSub, zy2f, c_den, zyay, zyaz, h3, h4]
    ·have eg : byVal (callW gp) [some [.bool s, str m, str d]] fid.zf3c [.agg [.bool s, str m], .agg [.bool false, str d]] = some (.tup [.agg [.bool false, str (nb (Nat.gcd (val 256 m.reverse) (val 256 d.reverse)))], .int .i64 0]) := by
      have := c_wgcd (h := [some [.bool s, str m, str d]]) hsm hff l1 l2
      rw [em, ed] at this
      exact this
     by_cases h7 : Nat.gcd (val 256 m.reverse) (val 256 d.reverse) = 1
     ·rw [if_pos ⟨g1, g2, g3, h5, h7⟩]
      simp (disch := first | exact dD | fail) only [Wd, W2d, Nat.reduceAdd, Nat.reduceMul, Nat.reduceSub, zy2f, c_den, zyay, zyaz, h3, h4, eg, zycf]
     ·rw [if_neg (fun hr => h7 hr.2.2.2.2)]
      simp (disch := first | exact dD | fail) only [Wd, W2d, Nat.reduceAdd, Nat.reduceMul, Nat.reduceSub, zy2f, c_den, zyay, zyaz, h3, h4, eg, zycf]
  ·rw [if_neg (fun hr => h4 (z2.2 ⟨hr.2.2.1, fun h => by cases h.1⟩))]
   simp (disch := first | exact dD | fail) only [Wd, W2d, Nat.reduceAdd, Nat.reduceMul, Nat.reduceSub, zy2f, c_den, h3]
 ·rw [if_neg (fun hr => h3 (z1.2 ⟨hr.1, hr.2.1⟩))]
  simp (disch := first | exact dD | fail) only [Wd, W2d, Nat.reduceAdd, Nat.reduceMul, Nat.reduceSub, zy2f])
theorem zy99 {q : Rat} (hq : Rz q 8000) : byVal (callW gp) h fid.zf2s [ra q] = some (.int .i64 0) := by
 rw [zy28 (nb_lt _) (nb_lt _), zyek hq]
theorem c_rboth {s t : Bool} {m d k e : List Nat} (hm : ∀ x ∈ m, x < 256) (hd : ∀ x ∈ d, x < 256) (hk : ∀ x ∈ k, x < 256) (he : ∀ x ∈ e, x < 256) : byVal (callW gp) h fid.zf27 [.agg [.bool s, str m, str d], .agg [.bool t, str k, str e]] = some (.int .i64 (if rchk s m d = 0 then rchk t k e else rchk s m d)) := zy1m (zy73 zy7p zy7p) (by
 rw [zf27.eq]
 unfold zf27.f
 by_cases h1 : rchk s m d = 0
 ·rw [if_pos h1]
  simp (disch := first | exact dD | fail) only [Wd, W2d, Nat.reduceAdd, Nat.reduceMul, Nat.reduceSub, zy28, h1]
 ·rw [if_neg h1]
  simp (disch := first | exact dD | fail) only [Wd, W2d, Nat.reduceAdd, Nat.reduceMul, Nat.reduceSub, zy28])
theorem zy98 {p q : Rat} (hp : Rz p 8000) (hq : Rz q 8000) : byVal (callW gp) h fid.zf27 [ra p, ra q] = some (.int .i64 0) := by
 rw [c_rboth (nb_lt _) (nb_lt _) (nb_lt _) (nb_lt _), zyek hp, zyek hq, if_pos rfl]


theorem low_j0 {n : Int} {b : Nat} {z1 z2 z3 : AV} (hb : b ≠ 0) (la : isz n ≤ 32000) (lb : (nb b).length ≤ 32000) :
  zf45.j0 (.rp 0 0) (.rp 1 0) (.rp 2 0) [some [.bool (decide (n < 0)), str (nb n.natAbs)], some [.bool false, str (nb b)], some [z1, z2, z3]] = some (ra (mkRat n b)) := by
 rw [ra_mk n hb]
 unfold zf45.j0 zf45.j1
 have hff : false = true → b ≠ 0 := fun _ => hb
 have hne := @ia_ne n
 have hg : 0 < Nat.gcd n.natAbs b := Nat.gcd_pos_of_pos_right _ (by omega)
 have hga : n.natAbs % Nat.gcd n.natAbs b = 0 := Nat.mod_eq_zero_of_dvd (Nat.gcd_dvd_left _ _)
 have hgb : b % Nat.gcd n.natAbs b = 0 := Nat.mod_eq_zero_of_dvd (Nat.gcd_dvd_right _ _)
 have lg : (nb (Nat.gcd n.natAbs b)).length ≤ 32000 := Nat.le_trans (zybv (Nat.gcd_le_right _ (by omega))) lb
 by_cases h1 : Nat.gcd n.natAbs b = 1
 ·rw [h1, Nat.div_one, Nat.div_one]
  simp (disch := first | exact dD | fail) only [Wd, W2d, Nat.reduceAdd, Nat.reduceMul, Nat.reduceSub, d_gcd, zycf, h1]
 ·simp (disch := first | exact dD | fail) only [Wd, W2d, Nat.reduceAdd, Nat.reduceMul, Nat.reduceSub, d_gcd, zycf, c_wdiv, ivn]
  have e : (decide (n < 0) && decide (n.natAbs / Nat.gcd n.natAbs b ≠ 0)) = decide (n < 0) := by
   by_cases hn : n < 0
   ·have : n.natAbs / Nat.gcd n.natAbs b ≠ 0 := by
     intro e
     have h2 := Nat.div_mul_cancel (Nat.gcd_dvd_left n.natAbs b)
     rw [e, Nat.zero_mul] at h2
     omega
    simp [hn, this]
   ·simp [hn]
  simp only [ne_eq] at e
  rw [e]
theorem c_lown {n : Int} {b : Nat} (hb : b ≠ 0) (la : isz n ≤ 32000) (lb : (nb b).length ≤ 32000) : byVal (callW gp) h fid.zf45 [ia n, .agg [.bool false, str (nb b)]] = some (ra (mkRat n b)) := zy1m (zy73 zy7b zy7b) (by
 rw [zf45.eq]
 unfold zf45.f
 simp (disch := first | exact dD | fail) only [Wd, W2d, Nat.reduceAdd, Nat.reduceMul, Nat.reduceSub]
 exact low_j0 hb la lb)
theorem c_low {n d : Int} (hd : d ≠ 0) (la : isz n ≤ 32000) (lb : isz d ≤ 32000) : byVal (callW gp) h fid.zf45 [ia n, ia d] = some (ra (Rat.divInt n d)) := zy1m (zy73 zy7b zy7b) (by
 rw [zf45.eq, zy46]
 unfold zf45.f
 by_cases h1 : d < 0
 ·rw [if_pos h1]
  by_cases h2 : n < 0
  ·have e : decide (-n < 0) = false := decide_eq_false (by omega)
   have := low_j0 (n := -n) (b := d.natAbs) (z1 := .bool false) (z2 := .str ⟨#[]⟩) (z3 := .str ⟨#[]⟩) (by omega) (by rw [zy8d]; exact la) lb
   rw [Int.natAbs_neg, e] at this
   simp (disch := first | exact dD | fail) only [Wd, W2d, Nat.reduceAdd, Nat.reduceMul, Nat.reduceSub]
   exact this
  ·have e : decide (-n < 0) = decide (n.natAbs ≠ 0) := decide_eq_decide.2 (by omega)
   have := low_j0 (n := -n) (b := d.natAbs) (z1 := .bool false) (z2 := .str ⟨#[]⟩) (z3 := .str ⟨#[]⟩) (by omega) (by rw [zy8d]; exact la) lb
   rw [Int.natAbs_neg, e] at this
   simp (disch := first | exact dD | fail) only [Wd, W2d, Nat.reduceAdd, Nat.reduceMul, Nat.reduceSub, zyce]
   exact this
 ·rw [if_neg h1]
  have e : decide (d < 0) = false := decide_eq_false h1
  simp (disch := first | exact dD | fail) only [Wd, W2d, Nat.reduceAdd, Nat.reduceMul, Nat.reduceSub, e]
  exact low_j0 (by omega) la lb)


theorem zyeh {z : Int} : (.agg [.bool (decide (z < 0)), str (nb z.natAbs), .str ⟨#[1]⟩] : AV) = ra (mkRat z 1) := by
 rw [ra_mk z (by omega), Nat.gcd_one_right, Nat.div_one, Nat.div_one, nb_one]
 rfl

theorem over_cv {f : Nat} {F : Int → Int → Int} {p q : Rat} (hF : ∀ h x y, isz x ≤ 16000 → isz y ≤ 16000 → byVal (callW gp) h fid.rat_do [.fn f [], ia x, ia y] = some (ia (F x y))) (hs : ∀ x y, isz x ≤ 16000 → isz y ≤ 16000 → isz (F x y) ≤ 16001)
  (hp : Rz p 8000) (hq : Rz q 8000) (h1 : p.den = 1 → q.den = 1 → F p.num q.num = F (p.num * q.den) (q.num * p.den)) : cv gp fid.zf47 [ra p, ra q, .fn f []] = some (.tup [ra (mkRat (F (p.num * q.den) (q.num * p.den)) (p.den * q.den)), .int .i64 0]) := by
 rw [zf47.eq]
 unfold zf47.f
 have n1 := hp.num
 have n2 := hq.num
 have d1 := hp.den
 have d2 := hq.den
 have i1 : isz (p.num * q.den) ≤ 16000 := zy8b n1 (by rw [zy8c]; exact d2)
 have i2 : isz (q.num * p.den) ≤ 16000 := zy8b n2 (by rw [zy8c]; exact d1)
 have i3 := hs _ _ i1 i2
 have i4 : (nb (p.den * q.den)).length ≤ 16000 := zybw d1 d2
 have i5 : p.den * q.den ≠ 0 := Nat.mul_ne_zero zy3o zy3o
 have long : zf47.j0 (.fn f []) (.rp 0 0) (.rp 1 0) (.rp 2 0) (.bool false) [some [.bool (decide (p.num < 0)), str (nb p.num.natAbs), str (nb p.den)], some [.bool (decide (q.num < 0)), str (nb q.num.natAbs), str (nb q.den)], some [.bool false, .str ⟨#[]⟩, .str ⟨#[]⟩]] = some (.tup [ra (mkRat (F (p.num * q.den) (q.num * p.den)) (p.den * q.den)), .int .i64 0]) := by
  unfold zf47.j0
  simp (disch := first | exact dD | fail) only [Wd, W2d, Nat.reduceAdd, Nat.reduceMul, Nat.reduceSub, c_den, d_muld, hF, d_dd, c_lown]
 simp (disch := first | exact dD | fail) only [Wd, W2d, Nat.reduceAdd, Nat.reduceMul, Nat.reduceSub, zy98, zycd]
 by_cases e1 : p.den = 1
 ·by_cases e2 : q.den = 1
  ·simp (disch := first | exact dD | fail) only [Wd, W2d, Nat.reduceAdd, Nat.reduceMul, Nat.reduceSub]
   unfold zf47.j0
   have l1 : isz p.num ≤ 16000 := by omega
   have l2 : isz q.num ≤ 16000 := by omega
   simp (disch := first | exact dD | fail) only [Wd, W2d, Nat.reduceAdd, Nat.reduceMul, Nat.reduceSub, hF]
   have := h1 e1 e2
   rw [e1, e2] at this
   rw [e1, e2, ← this, ← zyeh]
   rfl
  ·simp (disch := first | exact dD | fail) only [Wd, W2d, Nat.reduceAdd, Nat.reduceMul, Nat.reduceSub]
   have e3 : decide (q.den = 1) = false := decide_eq_false e2
   rw [e3]
   exact long
 ·simp (disch := first | exact dD | fail) only [Wd, W2d, Nat.reduceAdd, Nat.reduceMul, Nat.reduceSub]
  exact long
theorem k_radd {p q : Rat} (hp : Rz p 8000) (hq : Rz q 8000) : byVal (callW gp) h fid.zf44 [ra p, ra q] = some (.tup [ra (p + q), .int .i64 0]) := zy1m (zy73 zy7p zy7p) (by
 rw [zf44.eq]
 unfold zf44.f
 have := fun h => zy1m (G := gp) (h := h) (zy75 (imm_ra (q := p)) (imm_ra (q := q)) (zy7a (f := fid.zf4l))) (over_cv (F := fun x y => x + y) (fun h x y => d_add) (fun x y hx hy => zy8a hx hy) hp hq (fun e1 e2 => by rw [e1, e2]; simp))
 rw [← Rat.add_def'] at this
 simp (disch := first | exact dD | fail) only [Wd, W2d, Nat.reduceAdd, Nat.reduceMul, Nat.reduceSub, this])
theorem k_rsub {p q : Rat} (hp : Rz p 8000) (hq : Rz q 8000) : byVal (callW gp) h fid.zf3q [ra p, ra q] = some (.tup [ra (p - q), .int .i64 0]) := zy1m (zy73 zy7p zy7p) (by
 rw [zf3q.eq]
 unfold zf3q.f
 have := fun h => zy1m (G := gp) (h := h) (zy75 (imm_ra (q := p)) (imm_ra (q := q)) (zy7a (f := fid.zf48))) (over_cv (F := fun x y => x - y) (fun h x y => d_sub) (fun x y hx hy => isz_sub hx hy) hp hq (fun e1 e2 => by rw [e1, e2]; simp))
 rw [← Rat.sub_def'] at this
 simp (disch := first | exact dD | fail) only [Wd, W2d, Nat.reduceAdd, Nat.reduceMul, Nat.reduceSub, this])
theorem k_rmul {p q : Rat} (hp : Rz p 8000) (hq : Rz q 8000) : byVal (callW gp) h fid.zf3m [ra p, ra q] = some (.tup [ra (p * q), .int .i64 0]) := zy1m (zy73 zy7p zy7p) (by
 rw [zf3m.eq]
 unfold zf3m.f
 have n1 : isz p.num ≤ 16000 := Nat.le_trans hp.num (by omega)
 have n2 : isz q.num ≤ 16000 := Nat.le_trans hq.num (by omega)
 have d1 : (nb p.den).length ≤ 16000 := Nat.le_trans hp.den (by omega)
 have d2 : (nb q.den).length ≤ 16000 := Nat.le_trans hq.den (by omega)
 have i1 : isz (p.num * q.num) ≤ 32000 := zy8b n1 n2
 have i4 : (nb (p.den * q.den)).length ≤ 32000 := zybw d1 d2
 have i5 : p.den * q.den ≠ 0 := Nat.mul_ne_zero zy3o zy3o
 rw [Rat.mul_def']
 simp (disch := first | exact dD | fail) only [Wd, W2d, Nat.reduceAdd, Nat.reduceMul, Nat.reduceSub, zy98, d_mul, c_den, d_dd, c_lown])
theorem k_rdiv {p q : Rat} (hp : Rz p 8000) (hq : Rz q 8000) (h0 : q ≠ 0) : byVal (callW gp) h fid.zf3l [ra p, ra q] = some (.tup [ra (p / q), .int .i64 0]) := zy1m (zy73 zy7p zy7p) (by
 rw [zf3l.eq]
 unfold zf3l.f
 have n1 : isz p.num ≤ 16000 := Nat.le_trans hp.num (by omega)
 have n2 : isz q.num ≤ 16000 := Nat.le_trans hq.num (by omega)
 have d1 : (nb p.den).length ≤ 16000 := Nat.le_trans hp.den (by omega)
 have d2 : (nb q.den).length ≤ 16000 := Nat.le_trans hq.den (by omega)
 have i1 : isz (p.num * q.den) ≤ 32000 := zy8b n1 (by rw [zy8c]; exact d2)
 have i2 : isz (p.den * q.num) ≤ 32000 := zy8b (by rw [zy8c]; exact d1) n2
 have hz : q.num ≠ 0 := fun e => h0 (Rat.num_eq_zero.1 e)
 have i5 : (p.den : Int) * q.num ≠ 0 := Int.mul_ne_zero (by have := p.den_nz; omega) hz
 have hz2 : ¬ q.num.natAbs = 0 := by omega
 rw [zy47]
 simp (disch := first | exact dD | fail) only [Wd, W2d, Nat.reduceAdd, Nat.reduceMul, Nat.reduceSub, zy98, zycc, d_muld, d_dmul, c_den, c_low])
theorem k_rof {z : Int} (h1 : -9223372036854775808 ≤ z) (h2 : z ≤ 9223372036854775807) : byVal (callW gp) h fid.rat_Of [.int .i64 z] = some (ra (z : Rat)) := zy1m (zy72 (imm_int.mono (by omega))) (by
 rw [rat_Of.eq]
 unfold rat_Of.f
 simp (disch := first | exact dD | fail) only [Wd, W2d, Nat.reduceAdd, Nat.reduceMul, Nat.reduceSub, c_wof, iv_eq]
 have e : (z : Rat) = mkRat z 1 := (Rat.mk_eq_mkRat z 1 (by decide) (by simp))
 rw [e, ← zyeh]
 rfl)
def rsgn (q : Rat) : Int := if q.num < 0 then -1 else if q.num = 0 then 0 else 1
theorem zy9a {q : Rat} (hq : Rz q 8000) : byVal (callW gp) h fid.zf31 [ra q] = some (.tup [.int .i64 (rsgn q), .int .i64 0]) := zy1m (zy72 zy7p) (by
 rw [zf31.eq]
 unfold zf31.f rsgn
 by_cases h1 : q.num < 0
 ·rw [if_pos h1]
  simp (disch := first | exact dD | fail) only [Wd, W2d, Nat.reduceAdd, Nat.reduceMul, Nat.reduceSub, zy99]
 ·rw [if_neg h1]
  by_cases h2 : q.num = 0
  ·have h3 : q.num.natAbs = 0 := by omega
   rw [if_pos h2]
   simp (disch := first | exact dD | fail) only [Wd, W2d, Nat.reduceAdd, Nat.reduceMul, Nat.reduceSub, zy99, zycc]
  ·have h3 : ¬ q.num.natAbs = 0 := by omega
   rw [if_neg h2]
   simp (disch := first | exact dD | fail) only [Wd, W2d, Nat.reduceAdd, Nat.reduceMul, Nat.reduceSub, zy99, zycc])
end
end Go.Proofs.YtiblnpnfaadmcaaGreat.Am
/- Rational numbers: the document's answer for layer 3. -/
set_option linter.unusedVariables false
set_option linter.unusedSimpArgs false
namespace Go.Proofs.YtiblnpnfaadmcaaGreat.Am
open Go

section
variable {h : Heap}

theorem ia_neg (x : Int) : decide (-x < 0) = (!decide (x < 0) && decide (x.natAbs ≠ 0)) := by
 by_cases h : x < 0
 ·simp [h]; omega
 ·by_cases h0 : x = 0
  ·subst h0; rfl
  ·have h1 : 0 < x := by omega
   simp [h, h0, h1]
theorem zy8i {x y : Int} (hx : isz x ≤ 100000) (hy : isz y ≤ 100000) : byVal (callW gp) h fid.zf12 [ia x, ia y] = some (ia (x * y)) := by
 rw [c_w2mul hx hy, zy8h, mul_sgn, zyg1, zyg1, iv_ia]
theorem zy8j {x : Int} {d : Nat} (hx : isz x ≤ 100000) (hd : (nb d).length ≤ 100000) : byVal (callW gp) h fid.zf12 [ia x, .agg [.bool false, str (nb d)]] = some (ia (x * d)) := by
 rw [← zy70]; exact zy8i hx (by rw [zy8c]; exact hd)
theorem k_2dmul {x : Int} {d : Nat} (hx : isz x ≤ 100000) (hd : (nb d).length ≤ 100000) : byVal (callW gp) h fid.zf12 [.agg [.bool false, str (nb d)], ia x] = some (ia (d * x)) := by
 rw [← zy70]; exact zy8i (by rw [zy8c]; exact hd) hx
theorem k_2dd {d e : Nat} (hd : (nb d).length ≤ 100000) (he : (nb e).length ≤ 100000) : byVal (callW gp) h fid.zf12 [.agg [.bool false, str (nb d)], .agg [.bool false, str (nb e)]] = some (.agg [.bool false, str (nb (d * e))]) := by
 rw [← zy70, ← zy70, zy8i (by rw [zy8c]; exact hd) (by rw [zy8c]; exact he), ← Int.natCast_mul, zy70]
theorem k_2sum {x y : Int} (hx : isz x ≤ 100000) (hy : isz y ≤ 100000) : byVal (callW gp) h fid.zf36 [ia x, ia y] = some (ia (x + y)) := by
 rw [c_w2sum hx hy, zy8h, zyh6, zyg1, zyg1, iv_ia]
theorem k_2neg {x : Int} : byVal (callW gp) h fid.zf21 [ia x] = some (ia (-x)) := by
 rw [c_w2neg (nb_lt _)]
 unfold ia
 rw [ia_neg, Int.natAbs_neg]
 simp only [ne_eq, nb_eq]
theorem zy22 {s : Bool} {m d : List Nat} : byVal (callW gp) h fid.zf13 [.agg [.bool s, str m, str d]] = some (.agg [.bool false, str d]) := zy1m (zy72 zy7p) (by
 rw [zf13.eq]
 unfold zf13.f
 simp (disch := first | exact dD | fail) only [Wd, W2d, Nat.reduceAdd, Nat.reduceMul, Nat.reduceSub])

theorem zy21 {s : Bool} {m d : List Nat} (hm : ∀ x ∈ m, x < 256) (hd : ∀ x ∈ d, x < 256) : byVal (callW gp) h fid.zf2c [.agg [.bool s, str m, str d]] = some (.int .i64 (rchk s m d)) := zy1m (zy72 zy7p) (by
 rw [zf2c.eq]
 unfold zf2c.f rchk
 by_cases h1 : 8000 < m.length
 ·rw [if_pos (.inl h1)]
  simp (disch := first | exact dD | fail) only [Wd, W2d, Nat.reduceAdd, Nat.reduceMul, Nat.reduceSub]
 by_cases h2 : 8000 < d.length
 ·rw [if_pos (.inr h2)]
  simp (disch := first | exact dD | fail) only [Wd, W2d, Nat.reduceAdd, Nat.reduceMul, Nat.reduceSub]
 rw [if_neg (by omega)]
 have z1 := zyif (s := s) (l := m) (by omega)
 by_cases h3 : wchk s m = 0
 ·obtain ⟨g1, g2⟩ := z1.1 h3
  by_cases h4 : d.getD 0 1 = 0
  ·rw [if_neg (fun hr => hr.2.2.1 h4)]
   simp (disch := first | exact dD | fail) only [Wd, W2d, Nat.reduceAdd, Nat.reduceMul, Nat.reduceSub, zy2d, zy25, h3]
  ·by_cases h5 : d = []
   ·rw [if_neg (fun hr => hr.2.2.2.1 h5)]
    simp (disch := first | exact dD | fail) only [Wd, W2d, Nat.reduceAdd, Nat.reduceMul, Nat.reduceSub, zy2d, zy25, zyay, h3]
   ·have em := nb_of hm g1
    have ed := nb_of hd h4
    have l1 : (nb (val 256 m.reverse)).length ≤ 100000 := by rw [em]; omega
    have l2 : (nb (val 256 d.reverse)).length ≤ 100000 := by rw [ed]; omega
    have eg : byVal (callW gp) [some [.bool s, str m, str d]] fid.zf20 [.agg [.bool s, str m], .agg [.bool false, str d]] = some (.agg [.bool false, str (nb (Nat.gcd (val 256 m.reverse) (val 256 d.reverse)))]) := by
     have := zy2e (h := [some [.bool s, str m, str d]]) (s := s) (t := false) l1 l2
     rw [em, ed] at this
     exact this
    by_cases h7 : Nat.gcd (val 256 m.reverse) (val 256 d.reverse) = 1
    ·rw [if_pos ⟨g1, g2, h4, h5, h7⟩]
     simp (disch := first | exact dD | fail) only [Wd, W2d, Nat.reduceAdd, Nat.reduceMul, Nat.reduceSub, zy2d, zy25, zy22, zyay, h3, eg, zycf]
    ·rw [if_neg (fun hr => h7 hr.2.2.2.2)]
     simp (disch := first | exact dD | fail) only [Wd, W2d, Nat.reduceAdd, Nat.reduceMul, Nat.reduceSub, zy2d, zy25, zy22, zyay, h3, eg, zycf]
 ·rw [if_neg (fun hr => h3 (z1.2 ⟨hr.1, hr.2.1⟩))]
  simp (disch := first | exact dD | fail) only [Wd, W2d, Nat.reduceAdd, Nat.reduceMul, Nat.reduceSub, zy2d])
theorem c_3both {s t : Bool} {m d k e : List Nat} (hm : ∀ x ∈ m, x < 256) (hd : ∀ x ∈ d, x < 256) (hk : ∀ x ∈ k, x < 256) (he : ∀ x ∈ e, x < 256) : byVal (callW gp) h fid.zf1j [.agg [.bool s, str m, str d], .agg [.bool t, str k, str e]] = some (.int .i64 (if rchk s m d = 0 then rchk t k e else rchk s m d)) := zy1m (zy73 zy7p zy7p) (by
 rw [zf1j.eq]
 unfold zf1j.f
 by_cases h1 : rchk s m d = 0
 ·rw [if_pos h1]
  simp (disch := first | exact dD | fail) only [Wd, W2d, Nat.reduceAdd, Nat.reduceMul, Nat.reduceSub, zy21, h1]
 ·rw [if_neg h1]
  simp (disch := first | exact dD | fail) only [Wd, W2d, Nat.reduceAdd, Nat.reduceMul, Nat.reduceSub, zy21])


theorem zyat {n : Int} {b : Nat} {z1 z2 z3 : AV} {g : Nat} (hb : b ≠ 0) (hgd : g = Nat.gcd n.natAbs b) (la : isz n ≤ 100000) (lb : (nb b).length ≤ 100000) :
  zf1f.j0 (.rp 0 0) (.rp 1 0) (.rp 2 0) (.rp 3 0) [some [.bool (decide (n < 0)), str (nb n.natAbs)], some [.bool false, str (nb b)], some [z1, z2, z3], some [.bool false, str (nb g)]] = some (ra (mkRat n b)) := by
 rw [ra_mk n hb, ← hgd]
 unfold zf1f.j0
 have hg : 0 < g := by rw [hgd]; exact Nat.gcd_pos_of_pos_right _ (by omega)
 have lg : (nb g).length ≤ 100000 := by rw [hgd]; exact Nat.le_trans (zybv (Nat.gcd_le_right _ (by omega))) lb
 have la' : (nb n.natAbs).length ≤ 100000 := la
 have l1 : (dig B32 n.natAbs).length ≤ 25000 := zy1u (by omega)
 have l2 : (dig B32 b).length ≤ 25000 := zy1u (by omega)
 have l3 : (dig B32 g).length ≤ 25000 := zy1u (by omega)
 have l4 : (dig B32 (n.natAbs / g)).length ≤ 25000 := Nat.le_trans (zy9z zy0t (Nat.div_le_self _ _)) l1
 have l5 : (dig B32 (b / g)).length ≤ 25000 := Nat.le_trans (zy9z zy0t (Nat.div_le_self _ _)) l2
 by_cases h1 : g = 1
 ·simp (disch := first | exact dD | fail) only [Wd, W2d, Nat.reduceAdd, Nat.reduceMul, Nat.reduceSub, zycd, h1, Nat.div_one]
 ·simp (disch := first | exact dD | fail) only [Wd, W2d, Nat.reduceAdd, Nat.reduceMul, Nat.reduceSub, zycd, zy8y, c_rdm, c_rnat]
theorem c_3lown {n : Int} {b : Nat} (hb : b ≠ 0) (la : isz n ≤ 100000) (lb : (nb b).length ≤ 100000) : byVal (callW gp) h fid.zf1f [ia n, .agg [.bool false, str (nb b)]] = some (ra (mkRat n b)) := zy1m (zy73 zy7b zy7b) (by
 rw [zf1f.eq]
 unfold zf1f.f
 simp (disch := first | exact dD | fail) only [Wd, W2d, Nat.reduceAdd, Nat.reduceMul, Nat.reduceSub, zy2e, ivn]
 exact zyat hb rfl la lb)
theorem c_3low {n d : Int} (hd : d ≠ 0) (la : isz n ≤ 100000) (lb : isz d ≤ 100000) : byVal (callW gp) h fid.zf1f [ia n, ia d] = some (ra (Rat.divInt n d)) := zy1m (zy73 zy7b zy7b) (by
 rw [zf1f.eq, zy46]
 unfold zf1f.f
 by_cases h1 : d < 0
 ·rw [if_pos h1]
  have e1 : decide (d < 0) = true := decide_eq_true h1
  have e2 : decide (-d < 0) = false := decide_eq_false (by omega)
  have := zyat (n := -n) (b := d.natAbs) (g := Nat.gcd n.natAbs d.natAbs) (z1 := .bool false) (z2 := .str ⟨#[]⟩) (z3 := .str ⟨#[]⟩) (by omega) (by rw [Int.natAbs_neg]) (by rw [zy8d]; exact la) lb
  simp (disch := first | exact dD | fail) only [Wd, W2d, Nat.reduceAdd, Nat.reduceMul, Nat.reduceSub, zy2e, k_2neg, ivn, Int.natAbs_neg, e2]
  rw [Int.natAbs_neg] at this
  exact this
 ·rw [if_neg h1]
  have e1 : decide (d < 0) = false := decide_eq_false h1
  simp (disch := first | exact dD | fail) only [Wd, W2d, Nat.reduceAdd, Nat.reduceMul, Nat.reduceSub, zy2e, ivn, e1]
  exact zyat (by omega) rfl la lb)


theorem k_3sum {p q : Rat} (hp : Rz p 20000) (hq : Rz q 20000) : byVal (callW gp) h fid.zf2h [ra p, ra q] = some (ra (p + q)) := zy1m (zy73 zy7p zy7p) (by
 rw [zf2h.eq]
 unfold zf2h.f
 have n1 := hp.num
 have n2 := hq.num
 have d1 := hp.den
 have d2 := hq.den
 have m1 : isz p.num ≤ 100000 := by omega
 have m2 : isz q.num ≤ 100000 := by omega
 have i1 : isz (p.num * q.den) ≤ 40000 := zy8b n1 (by rw [zy8c]; exact d2)
 have i2 : isz (q.num * p.den) ≤ 40000 := zy8b n2 (by rw [zy8c]; exact d1)
 have i3 := zy8a i1 i2
 have i4 : (nb (p.den * q.den)).length ≤ 40000 := zybw d1 d2
 have j1 : isz (p.num * q.den) ≤ 100000 := by omega
 have j2 : isz (q.num * p.den) ≤ 100000 := by omega
 have j3 : isz (p.num * q.den + q.num * p.den) ≤ 100000 := by omega
 have i5 : p.den * q.den ≠ 0 := Nat.mul_ne_zero zy3o zy3o
 have long : zf2h.j0 (.rp 0 0) (.rp 1 0) (.rp 2 0) (.bool false) [some [.bool (decide (p.num < 0)), str (nb p.num.natAbs), str (nb p.den)], some [.bool (decide (q.num < 0)), str (nb q.num.natAbs), str (nb q.den)], some [.bool false, .str ⟨#[]⟩, .str ⟨#[]⟩]] = some (ra (p + q)) := by
  unfold zf2h.j0
  rw [Rat.add_def']
  simp (disch := first | exact dD | fail) only [Wd, W2d, Nat.reduceAdd, Nat.reduceMul, Nat.reduceSub, zy22, zy8j, k_2sum, k_2dd, c_3lown]
 simp (disch := first | exact dD | fail) only [Wd, W2d, Nat.reduceAdd, Nat.reduceMul, Nat.reduceSub, zycd]
 by_cases e1 : p.den = 1
 ·by_cases e2 : q.den = 1
  ·simp (disch := first | exact dD | fail) only [Wd, W2d, Nat.reduceAdd, Nat.reduceMul, Nat.reduceSub]
   unfold zf2h.j0
   simp (disch := first | exact dD | fail) only [Wd, W2d, Nat.reduceAdd, Nat.reduceMul, Nat.reduceSub, k_2sum]
   rw [Rat.add_def', e1, e2]
   simp only [Int.natCast_one, Int.mul_one, Nat.mul_one]
   rw [← zyeh]
   rfl
  ·simp (disch := first | exact dD | fail) only [Wd, W2d, Nat.reduceAdd, Nat.reduceMul, Nat.reduceSub]
   have e3 : decide (q.den = 1) = false := decide_eq_false e2
   rw [e3]
   exact long
 ·simp (disch := first | exact dD | fail) only [Wd, W2d, Nat.reduceAdd, Nat.reduceMul, Nat.reduceSub]
  exact long)
theorem k_3mul {p q : Rat} (hp : Rz p 20000) (hq : Rz q 20000) : byVal (callW gp) h fid.zf0s [ra p, ra q] = some (ra (p * q)) := zy1m (zy73 zy7p zy7p) (by
 rw [zf0s.eq]
 unfold zf0s.f
 have n1 := hp.num
 have n2 := hq.num
 have d1 := hp.den
 have d2 := hq.den
 have m1 : isz p.num ≤ 100000 := by omega
 have m2 : isz q.num ≤ 100000 := by omega
 have i1 : isz (p.num * q.num) ≤ 40000 := zy8b n1 n2
 have j1 : isz (p.num * q.num) ≤ 100000 := by omega
 have i4 : (nb (p.den * q.den)).length ≤ 40000 := zybw d1 d2
 have i5 : p.den * q.den ≠ 0 := Nat.mul_ne_zero zy3o zy3o
 have long : zf0s.j0 (.rp 0 0) (.rp 1 0) (.rp 2 0) (.bool false) [some [.bool (decide (p.num < 0)), str (nb p.num.natAbs), str (nb p.den)], some [.bool (decide (q.num < 0)), str (nb q.num.natAbs), str (nb q.den)], some [.bool false, .str ⟨#[]⟩, .str ⟨#[]⟩]] = some (ra (p * q)) := by
  unfold zf0s.j0
  rw [Rat.mul_def']
  simp (disch := first | exact dD | fail) only [Wd, W2d, Nat.reduceAdd, Nat.reduceMul, Nat.reduceSub, zy22, zy8i, k_2dd, c_3lown]
 simp (disch := first | exact dD | fail) only [Wd, W2d, Nat.reduceAdd, Nat.reduceMul, Nat.reduceSub, zycd]
 by_cases e1 : p.den = 1
 ·by_cases e2 : q.den = 1
  ·simp (disch := first | exact dD | fail) only [Wd, W2d, Nat.reduceAdd, Nat.reduceMul, Nat.reduceSub]
   unfold zf0s.j0
   simp (disch := first | exact dD | fail) only [Wd, W2d, Nat.reduceAdd, Nat.reduceMul, Nat.reduceSub, zy8i]
   rw [Rat.mul_def', e1, e2]
   simp only [Nat.mul_one]
   rw [← zyeh]
   rfl
  ·simp (disch := first | exact dD | fail) only [Wd, W2d, Nat.reduceAdd, Nat.reduceMul, Nat.reduceSub]
   have e3 : decide (q.den = 1) = false := decide_eq_false e2
   rw [e3]
   exact long
 ·simp (disch := first | exact dD | fail) only [Wd, W2d, Nat.reduceAdd, Nat.reduceMul, Nat.reduceSub]
  exact long)
theorem k_3neg {q : Rat} : byVal (callW gp) h fid.zf2k [ra q] = some (ra (-q)) := zy1m (zy72 zy7p) (by
 rw [zf2k.eq]
 unfold zf2k.f
 simp (disch := first | exact dD | fail) only [Wd, W2d, Nat.reduceAdd, Nat.reduceMul, Nat.reduceSub, k_2neg]
 rfl)
theorem k_3less {p q : Rat} (hp : Rz p 20000) (hq : Rz q 20000) : byVal (callW gp) h fid.zf1z [ra p, ra q] = some (ra (p - q)) := zy1m (zy73 zy7p zy7p) (by
 rw [zf1z.eq]
 unfold zf1z.f
 have := hq.neg
 rw [Rat.sub_eq_add_neg]
 have e : (.agg [.bool (decide ((-q).num < 0)), str (nb (-q).num.natAbs), str (nb (-q).den)] : AV) = ra (-q) := rfl
 simp (disch := first | exact dD | fail) only [Wd, W2d, Nat.reduceAdd, Nat.reduceMul, Nat.reduceSub, k_3neg, k_3sum])
theorem k_3div {p q : Rat} (hp : Rz p 20000) (hq : Rz q 20000) (h0 : q ≠ 0) : byVal (callW gp) h fid.zf1t [ra p, ra q] = some (ra (p / q)) := zy1m (zy73 zy7p zy7p) (by
 rw [zf1t.eq]
 unfold zf1t.f
 have n1 := hp.num
 have n2 := hq.num
 have d1 := hp.den
 have d2 := hq.den
 have m1 : isz p.num ≤ 100000 := by omega
 have m2 : isz q.num ≤ 100000 := by omega
 have i1 : isz (p.num * q.den) ≤ 40000 := zy8b n1 (by rw [zy8c]; exact d2)
 have i2 : isz (p.den * q.num) ≤ 40000 := zy8b (by rw [zy8c]; exact d1) n2
 have j1 : isz (p.num * q.den) ≤ 100000 := by omega
 have j2 : isz (p.den * q.num) ≤ 100000 := by omega
 have hz : q.num ≠ 0 := fun e => h0 (Rat.num_eq_zero.1 e)
 have i5 : (p.den : Int) * q.num ≠ 0 := Int.mul_ne_zero (by have := p.den_nz; omega) hz
 rw [zy47]
 simp (disch := first | exact dD | fail) only [Wd, W2d, Nat.reduceAdd, Nat.reduceMul, Nat.reduceSub, zy22, zy8j, k_2dmul, c_3low])
theorem k_3of {z : Int} (h1 : -9223372036854775808 ≤ z) (h2 : z ≤ 9223372036854775807) : byVal (callW gp) h fid.gussetref03_Of [.int .i64 z] = some (ra (z : Rat)) := zy1m (zy72 (imm_int.mono (by omega))) (by
 rw [gussetref03_Of.eq]
 unfold gussetref03_Of.f
 simp (disch := first | exact dD | fail) only [Wd, W2d, Nat.reduceAdd, Nat.reduceMul, Nat.reduceSub, c_w2of, iv_eq]
 have e : (z : Rat) = mkRat z 1 := (Rat.mk_eq_mkRat z 1 (by decide) (by simp))
 rw [e, ← zyeh]
 rfl)
theorem zy8m {q : Rat} : byVal (callW gp) h fid.zf0i [ra q] = some (.int .i64 (if q.num < 0 then -1 else if q.num = 0 then 0 else 1)) := zy1m (zy72 zy7p) (by
 rw [zf0i.eq]
 unfold zf0i.f
 by_cases h1 : q.num < 0
 ·rw [if_pos h1]
  simp (disch := first | exact dD | fail) only [Wd, W2d, Nat.reduceAdd, Nat.reduceMul, Nat.reduceSub]
 ·rw [if_neg h1]
  by_cases h2 : q.num = 0
  ·have h3 : q.num.natAbs = 0 := by omega
   rw [if_pos h2]
   simp (disch := first | exact dD | fail) only [Wd, W2d, Nat.reduceAdd, Nat.reduceMul, Nat.reduceSub, zycc]
  ·have h3 : ¬ q.num.natAbs = 0 := by omega
   rw [if_neg h2]
   simp (disch := first | exact dD | fail) only [Wd, W2d, Nat.reduceAdd, Nat.reduceMul, Nat.reduceSub, zycc])
end
end Go.Proofs.YtiblnpnfaadmcaaGreat.Am
