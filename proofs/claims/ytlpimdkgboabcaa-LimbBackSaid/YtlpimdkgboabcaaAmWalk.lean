/- Steps whose indices are natural numbers, made for simp with omega. -/
import Derived.Test.YtlpimdkgboabcaaAmLem
set_option linter.unusedVariables false
set_option linter.unusedSimpArgs false
namespace Go.Proofs.Ytlpimdkgboabcaa.Am
open Go

section
variable {a b c i j : Nat}
theorem i_add (h : a + b ≤ 9223372036854775807) : opBin .add (.int .i64 (a : Int)) (.int .i64 (b : Int)) = some (.int .i64 ((a + b : Nat) : Int)) := by
  rw [int_add (by omega) (by omega)]; rfl
theorem i_sub (h : b ≤ a) (h2 : a ≤ 9223372036854775807) : opBin .sub (.int .i64 (a : Int)) (.int .i64 (b : Int)) = some (.int .i64 ((a - b : Nat) : Int)) := by
  rw [int_sub (by omega) (by omega)]; congr 2; omega
theorem i_mul (h : a * b ≤ 9223372036854775807) : opBin .mul (.int .i64 (a : Int)) (.int .i64 (b : Int)) = some (.int .i64 ((a * b : Nat) : Int)) := by
  have : ((a * b : Nat) : Int) = (a : Int) * b := Int.natCast_mul a b
  rw [int_mul (by omega) (by omega), this]

theorem i_add1 (h : a + 1 ≤ 9223372036854775807) : opBin .add (.int .i64 (a : Int)) (.int .i64 1) = some (.int .i64 ((a + 1 : Nat) : Int)) := i_add (b := 1) h
theorem i_add2 (h : a + 2 ≤ 9223372036854775807) : opBin .add (.int .i64 (a : Int)) (.int .i64 2) = some (.int .i64 ((a + 2 : Nat) : Int)) := i_add (b := 2) h
theorem i_add3 (h : a + 3 ≤ 9223372036854775807) : opBin .add (.int .i64 (a : Int)) (.int .i64 3) = some (.int .i64 ((a + 3 : Nat) : Int)) := i_add (b := 3) h
theorem i_add8 (h : a + 8 ≤ 9223372036854775807) : opBin .add (.int .i64 (a : Int)) (.int .i64 8) = some (.int .i64 ((a + 8 : Nat) : Int)) := i_add (b := 8) h
theorem i_sub1 (h : 1 ≤ a) (h2 : a ≤ 9223372036854775807) : opBin .sub (.int .i64 (a : Int)) (.int .i64 1) = some (.int .i64 ((a - 1 : Nat) : Int)) := i_sub (b := 1) h h2
theorem i_sub2 (h : 2 ≤ a) (h2 : a ≤ 9223372036854775807) : opBin .sub (.int .i64 (a : Int)) (.int .i64 2) = some (.int .i64 ((a - 2 : Nat) : Int)) := i_sub (b := 2) h h2
theorem i_mul2 (h : a * 2 ≤ 9223372036854775807) : opBin .mul (.int .i64 (a : Int)) (.int .i64 2) = some (.int .i64 ((a * 2 : Nat) : Int)) := i_mul (b := 2) h
theorem i_mul4 (h : a * 4 ≤ 9223372036854775807) : opBin .mul (.int .i64 (a : Int)) (.int .i64 4) = some (.int .i64 ((a * 4 : Nat) : Int)) := i_mul (b := 4) h
theorem i_mul8 (h : a * 8 ≤ 9223372036854775807) : opBin .mul (.int .i64 (a : Int)) (.int .i64 8) = some (.int .i64 ((a * 8 : Nat) : Int)) := i_mul (b := 8) h
theorem i_lmul2 (h : 2 * a ≤ 9223372036854775807) : opBin .mul (.int .i64 2) (.int .i64 (a : Int)) = some (.int .i64 ((2 * a : Nat) : Int)) := i_mul (a := 2) h
theorem i_lmul4 (h : 4 * a ≤ 9223372036854775807) : opBin .mul (.int .i64 4) (.int .i64 (a : Int)) = some (.int .i64 ((4 * a : Nat) : Int)) := i_mul (a := 4) h
theorem i_lmul8 (h : 8 * a ≤ 9223372036854775807) : opBin .mul (.int .i64 8) (.int .i64 (a : Int)) = some (.int .i64 ((8 * a : Nat) : Int)) := i_mul (a := 8) h
theorem i_lmul32 (h : 32 * a ≤ 9223372036854775807) : opBin .mul (.int .i64 32) (.int .i64 (a : Int)) = some (.int .i64 ((32 * a : Nat) : Int)) := i_mul (a := 32) h
theorem i_quo2 (h2 : a ≤ 9223372036854775807) : opBin .quo (.int .i64 (a : Int)) (.int .i64 2) = some (.int .i64 ((a / 2 : Nat) : Int)) := int_quo (x := (a : Int)) (y := (2 : Int)) (by omega) (by omega) (by omega)
theorem i_rem2 : opBin .rem (.int .i64 (a : Int)) (.int .i64 2) = some (.int .i64 ((a % 2 : Nat) : Int)) := int_rem (x := (a : Int)) (y := (2 : Int)) (by omega) (by omega)
theorem i_quo4 (h2 : a ≤ 9223372036854775807) : opBin .quo (.int .i64 (a : Int)) (.int .i64 4) = some (.int .i64 ((a / 4 : Nat) : Int)) := int_quo (x := (a : Int)) (y := (4 : Int)) (by omega) (by omega) (by omega)
theorem i_rem4 : opBin .rem (.int .i64 (a : Int)) (.int .i64 4) = some (.int .i64 ((a % 4 : Nat) : Int)) := int_rem (x := (a : Int)) (y := (4 : Int)) (by omega) (by omega)
theorem i_quo8 (h2 : a ≤ 9223372036854775807) : opBin .quo (.int .i64 (a : Int)) (.int .i64 8) = some (.int .i64 ((a / 8 : Nat) : Int)) := int_quo (x := (a : Int)) (y := (8 : Int)) (by omega) (by omega) (by omega)
theorem i_rem8 : opBin .rem (.int .i64 (a : Int)) (.int .i64 8) = some (.int .i64 ((a % 8 : Nat) : Int)) := int_rem (x := (a : Int)) (y := (8 : Int)) (by omega) (by omega)
theorem i_quo32 (h2 : a ≤ 9223372036854775807) : opBin .quo (.int .i64 (a : Int)) (.int .i64 32) = some (.int .i64 ((a / 32 : Nat) : Int)) := int_quo (x := (a : Int)) (y := (32 : Int)) (by omega) (by omega) (by omega)
theorem i_rem32 : opBin .rem (.int .i64 (a : Int)) (.int .i64 32) = some (.int .i64 ((a % 32 : Nat) : Int)) := int_rem (x := (a : Int)) (y := (32 : Int)) (by omega) (by omega)

theorem v_add (h : a + b < 18446744073709551616) : opBin .add (nat .u64 a) (nat .u64 b) = some (nat .u64 (a + b)) := by rw [u_add, Nat.mod_eq_of_lt h]
theorem v_mul (h : a * b < 18446744073709551616) : opBin .mul (nat .u64 a) (nat .u64 b) = some (nat .u64 (a * b)) := by rw [u_mul, Nat.mod_eq_of_lt h]
theorem v_sub (h : b ≤ a) (h2 : a < 18446744073709551616) : opBin .sub (nat .u64 a) (nat .u64 b) = some (nat .u64 (a - b)) := by
  rw [u_sub (by omega)]; congr 2; omega
theorem v_conv {k : IntKind} (h : a < 18446744073709551616) : opConv .u64 (nat k a) = some (nat .u64 a) := by rw [conv_uu, Nat.mod_eq_of_lt h]
theorem i_conv (h : a < 18446744073709551616) : opConv .u64 (.int .i64 (a : Int)) = some (nat .u64 a) := v_conv (k := .i64) h

theorem nsidx_rs {sz id off n : Nat} {k : IntKind} (h : i < n) : opSidx sz (.rs sz id off n) (.int k (i : Int)) = some (.rp id (off + i * sz)) := sidx_rs (by omega) (by omega)
theorem nsidx_is {sz n : Nat} {f : Bool} {cs : List AV} {k : IntKind} (h : i < n) : opSidx sz (.is n f cs) (.int k (i : Int)) = some (.ip (cs.drop (i * sz))) := sidx_is (by omega) (by omega)
theorem nsidx_nats {l : List Nat} {k : IntKind} (h : i < l.length) : opSidx 1 (nats l) (.int k (i : Int)) = some (.ip ((nl .u64 l).drop i)) := sidx_nats (by omega) (by omega)
theorem nstri {l : List Nat} {k : IntKind} (hb : ∀ x ∈ l, x < 256) (h : i < l.length) : opStri (str l) (.int k (i : Int)) = some (nat .u8 (l.getD i 0)) := stri_str hb (by omega) (by omega)

theorem ld_rp {h : Heap} {ag : Option Nat} {id off : Nat} : opLoad h ag (.rp id off) = (live h id).bind fun cs => readCells (cs.drop off) ag := Eq.trans rfl rfl

/-- A cell, or a row of cells, written into a block. -/
def stc (h : Heap) (n id off : Nat) (v : AV) (cs : List AV) : Option Heap := if v.cells.length = n ∧ v.cells.all AV.cell ∧ off + n ≤ cs.length then some (h.set id (some (splice cs off v.cells))) else none
theorem st_rp {h : Heap} {n id off : Nat} {v : AV} : opStore h n (.rp id off) v = (live h id).bind (stc h n id off v) := Eq.trans rfl rfl
theorem stc_nl {h : Heap} {k : IntKind} {l : List Nat} {id off : Nat} (ho : off < l.length) : stc h 1 id off (nat k a) (nl k l) = some (h.set id (some (nl k (l.set off a)))) := by
  have e : (nat k a).cells = [nat k a] := rfl
  simp only [stc, e, splice_nl ho, nl_len]
  rw [if_pos]
  refine ⟨rfl, by simp [AV.cell, nat], by omega⟩

theorem live_0 {x : Option (List AV)} {l : Heap} : live (x :: l) 0 = x := by cases x <;> rfl
theorem live_1 {x y : Option (List AV)} {l : Heap} : live (x :: y :: l) 1 = y := by cases y <;> rfl
theorem live_2 {x y z : Option (List AV)} {l : Heap} : live (x :: y :: z :: l) 2 = z := by cases z <;> rfl

theorem nmks {h : Heap} {k : IntKind} {n : Nat} (h1 : n ≤ c) (h3 : c ≤ 4294967296) : opMks h 1 [nat k 0] (.int .i64 (n : Int)) (.int .i64 (c : Int)) = some (.rs 1 h.length 0 n, h ++ [some (nl k (List.replicate n 0))]) := by
  rw [mks_nl (by omega) (by omega) (by omega), Int.toNat_natCast]
theorem nmks0 {h : Heap} {k : IntKind} (h3 : c ≤ 4294967296) : opMks h 1 [nat k 0] (.int .i64 0) (.int .i64 (c : Int)) = some (.rs 1 h.length 0 0, h ++ [some (nl k (List.replicate 0 0))]) := nmks (n := 0) (by omega) h3
theorem nmm : opMm true [.int .i64 (a : Int), .int .i64 (b : Int)] = some (.int .i64 ((max a b : Nat) : Int)) := by
  have : opMm true [.int .i64 (a : Int), .int .i64 (b : Int)] = some (.int .i64 (if (b : Int) > a then (b : Int) else a)) := rfl
  rw [this]
  congr 2
  split <;> omega
end

theorem nl_len' {k : IntKind} {l : List Nat} : (nl k l).length = l.length := nl_len k l
theorem h_app {x : Option (List AV)} {l : Heap} {y : Heap} : (x :: l) ++ y = x :: (l ++ y) := Eq.trans rfl rfl
theorem h_set0 {x y : Option (List AV)} {l : Heap} : (x :: l).set 0 y = y :: l := Eq.trans rfl rfl
theorem h_set1 {x y z : Option (List AV)} {l : Heap} : (x :: z :: l).set 1 y = x :: y :: l := Eq.trans rfl rfl

/-! ### Only what comes next is looked at -/

@[congr] theorem bind_cg {α β : Type} {x y : Option α} {f : α → Option β} (h : x = y) : x.bind f = y.bind f := by rw [h]
section
variable {R : Type} {A B : Option R} {x y : AV}
@[congr] theorem condK_cg (h : x = y) : condK x A B = condK y A B := by rw [h]
@[congr] theorem guardK_cg {b : Bool} (h : x = y) : guardK x b A B = guardK y b A B := by rw [h]
theorem cond_y {p : Prop} [Decidable p] (h : p) : condK (.bool (decide p)) A B = A := by rw [cond_d, if_pos h]
theorem cond_n {p : Prop} [Decidable p] (h : ¬ p) : condK (.bool (decide p)) A B = B := by rw [cond_d, if_neg h]
theorem guard_ty {p : Prop} [Decidable p] (h : p) : guardK (.bool (decide p)) true A B = A := by rw [guard_dt, if_pos h]
theorem guard_tn {p : Prop} [Decidable p] (h : ¬ p) : guardK (.bool (decide p)) true A B = B := by rw [guard_dt, if_neg h]
theorem guard_fy {p : Prop} [Decidable p] (h : p) : guardK (.bool (decide p)) false A B = B := by rw [guard_df, if_pos h]
theorem guard_fn {p : Prop} [Decidable p] (h : ¬ p) : guardK (.bool (decide p)) false A B = A := by rw [guard_df, if_neg h]
theorem guard_tt : guardK (.bool true) true A B = A := Eq.trans rfl rfl
theorem guard_tf : guardK (.bool false) true A B = B := Eq.trans rfl rfl
theorem guard_ft : guardK (.bool true) false A B = B := Eq.trans rfl rfl
theorem guard_ff : guardK (.bool false) false A B = A := Eq.trans rfl rfl
end
end Go.Proofs.Ytlpimdkgboabcaa.Am
