/- The document's answer for layer 1: trimming, order, sums, differences, products. -/
import Derived.Test.YtlpimdkgboabcaaAmWalk
import Derived.Test.YtlpimdkgboabcaaAmDig2
import Derived.Test.YtlpimdkgboabcaaT2
import Derived.Test.YtlpimdkgboabcaaAmSame
set_option linter.unusedVariables false
set_option linter.unusedSimpArgs false
namespace Go.Proofs.Ytlpimdkgboabcaa.Am
open Go

abbrev B32 : Nat := 4294967296
theorem b32_two : 2 ≤ B32 := by decide

/-! ### trim -/

def AV.cut2 : AV → Nat → AV
  | .is n f cs, m => .is m (f && m == n) (cs.take m)
  | .rs sz id off _, m => .rs sz id off m
  | x, _ => x
theorem Row.cut2 {h : Heap} {k : IntKind} {x : AV} {l : List Nat} (hr : Row h k x l) {m : Nat} (hm : m ≤ l.length) : Row h k (x.cut2 m) (l.take m) := by
  have e : (l.take m).length = m := by simp; omega
  cases hr with
  | is f l =>
    have := Row.is (h := h) (k := k) (f && m == l.length) (l.take m)
    rw [e] at this
    simpa [AV.cut2, nl_take] using this
  | rs id off cs l hl hb hc =>
    have := Row.rs (h := h) (k := k) id off cs (l.take m) hl (by omega) (by
      rw [e, ← nl_take, ← hc, List.take_take, Nat.min_eq_left hm])
    rw [e] at this
    exact this
theorem Row.slc0 {h : Heap} {k k2 : IntKind} {x : AV} {l : List Nat} (hr : Row h k x l) {b : Int} (h1 : 0 ≤ b) (h2 : b ≤ l.length) : opSlc 1 x none (some (.int k2 b)) none = some (x.cut2 b.toNat) := by
  cases hr with
  | is f l => rw [slc_is0 h1 h2, Nat.mul_one]; rfl
  | rs id off cs l hl hb hc => rw [slc_rs0 h1 h2]; rfl
theorem Row.rdn {h : Heap} {k k' : IntKind} {x : AV} {l : List Nat} (hr : Row h k x l) {i : Nat} (h2 : i < l.length) {R : Type} (F : AV → Option R) :
    ((opSidx 1 x (.int k' (i : Int))).bind fun a => (opLoad h none a).bind F) = F (nat k (l.getD i 0)) := hr.rd (by omega) (by omega) F

theorem trim_l0 {h : Heap} {x : AV} {l : List Nat} (hr : Row h .u64 x l) (hl : l.length ≤ 4611686018427387904) : ∀ k, k ≤ l.length → gussetref01_trim.l0 x (.int .i64 (k : Nat)) h = some (x.cut2 (tl (l.take k)), h) := by
  intro k
  induction k with
  | zero =>
    intro hk
    rw [gussetref01_trim.l0_eq]
    simp only [bin_gtr, bind_s, guard_dt]
    rw [if_neg (by omega), hr.slc0 (by omega) (by omega)]
    rfl
  | succ k ih =>
    intro hk
    rw [gussetref01_trim.l0_eq]
    simp (disch := omega) only [len_is, len_rs, len_nats, len_str, bind_s, i_add, i_sub, i_mul, i_add1, i_add2, i_add3, i_add8, i_sub1, i_sub2, i_mul2, i_mul4, i_mul8, i_lmul2, i_lmul4, i_lmul8, i_lmul32, i_quo2, i_rem2, i_quo4, i_rem4, i_quo8, i_rem8, i_quo32, i_rem32, bin_lss, bin_leq, bin_gtr, bin_geq, bin_eql, bin_neq, nat_lss, nat_leq, nat_gtr, nat_geq, nat_eql, nat_neq, v_add, v_sub, v_mul, v_conv, i_conv, u_quo, u_rem, u_shr, u_shl, nsidx_rs, nsidx_is, nsidx_nats, nstri, ld_rp, load_ip, rd_nl, st_rp, stc_nl, live_0, live_1, live_2, nmks, nmks0, nmm, nl_len, h_app, h_set0, h_set1, cond_y, cond_n, cond_t, cond_f, guard_ty, guard_tn, guard_fy, guard_fn, guard_tt, guard_tf, guard_ft, guard_ff, ext0, ext1, ext2, frz_nat, frz_bool, frz_int, bslc_0, bslc_1, bslc_2, Int.toNat_natCast, List.nil_append, List.length_nil, List.length_cons, Nat.zero_add, Nat.mul_one, List.length_set]
    rw [hr.rdn (by omega)]
    simp only [nat_eql, bind_s, cond_d, Nat.add_sub_cancel]
    rw [tl_take l k (by omega)]
    split
    · exact ih (by omega)
    · rw [hr.slc0 (by omega) (by omega)]
      rfl
theorem trim_run {h : Heap} {x : AV} {l : List Nat} (hr : Row h .u64 x l) (hl : l.length ≤ 4611686018427387904) : callW gp fid.gussetref01_trim [x] h = some (x.cut2 (tl l), h) := by
  rw [gussetref01_trim.eq]
  unfold gussetref01_trim.f
  rw [hr.len]
  simp only [bind_s]
  rw [trim_l0 hr hl _ (Nat.le_refl _), List.take_length]
theorem trim_row {h : Heap} {x : AV} {l : List Nat} {B : Nat} (hB : 2 ≤ B) (hr : Row h .u64 x l) (hd : Dg B l) : Row h .u64 (x.cut2 (tl l)) (dig B (val B l)) := by
  rw [← take_tl hB hd]
  exact hr.cut2 (tl_le l)
/-- A row is trimmed and handed out. -/
theorem trim_fz {h : Heap} {x : AV} {l : List Nat} {B : Nat} (hB : 2 ≤ B) (hr : Row h .u64 x l) (hl : l.length ≤ 4611686018427387904) (hd : Dg B l) : ((callW gp fid.gussetref01_trim [x] h).bind fun r => freeze r.2 r.1) = some (nats (dig B (val B l))) := by
  rw [trim_run hr hl, bind_s]
  exact (trim_row hB hr hd).frz
theorem own_row {h : Heap} {k : IntKind} {id n : Nat} {l : List Nat} (hl : live h id = some (nl k l)) (hn : l.length = n) : Row h k (.rs 1 id 0 n) l := by rw [← hn]; exact Row.own hl

/-- A slice that nobody writes any more, full or not. -/
def isl (f : Bool) (l : List Nat) : AV := .is l.length f (nl .u64 l)
theorem isl_row {h : Heap} {f : Bool} {l : List Nat} : Row h .u64 (isl f l) l := .is f l
theorem isl_nats {l : List Nat} : isl false l = nats l := Eq.trans rfl rfl
theorem isl_fz {h : Heap} {f : Bool} {l : List Nat} : freeze h (isl f l) = some (nats l) := isl_row.frz
theorem isl_noRef {f : Bool} {l : List Nat} : noRef (isl f l) = true := imm_all (imm_nl .u64 l) (n := 11) (by omega)
theorem len_isl {f : Bool} {l : List Nat} : opLen false (isl f l) = some (.int .i64 l.length) := Eq.trans rfl rfl
/-- A call by value with such a row first. -/
theorem byVal_isl {h : Heap} {g : Nat} {f : Bool} {l : List Nat} {r : Option AV} {bs : List AV} (ha : ∀ a ∈ bs, Imm 12 a) (hc : cv gp g (nats l :: bs) = r) : byVal (callW gp) h g (isl f l :: bs) = r := by
  rw [byVal_cv]
  have h1 : (isl f l :: bs).mapM (freeze h) = some (nats l :: bs) := by
    have := imm_mapM ha (Nat.le_refl _) h
    change bs.mapM (freeze h) = some bs at this
    rw [List.mapM_cons, isl_fz, this]; rfl
  have h2 : (isl f l :: bs).all noRef = true := by
    rw [List.all_cons, isl_noRef, Bool.true_and]
    exact imm_all ha (Nat.le_refl _)
  rw [h1]
  simp only [Option.bind_some, hc, h2, Bool.true_or, if_true]
  cases r <;> rfl

/-! ### double -/

theorem double_l0 {a : List Nat} {b0 : Nat} (ha : Dg B32 a) (hn : a.length ≤ 1000000) : ∀ (k i : Nat) (cs : List Nat) (bit : Nat), i + k = a.length → cs.length = a.length + 1 → Dg B32 cs → bit < 2 →
    val B32 (cs.take i) + bit * B32 ^ i = 2 * val B32 (a.take i) + b0 →
    gussetref01_double.l0 (nats a) (nat .u64 bit) (.rs 1 0 0 (a.length + 1)) (.int .i64 (i : Nat)) [some (nl .u64 cs)] = some (nats (dig B32 (2 * val B32 a + b0))) := by
  intro k
  induction k with
  | zero =>
    intro i cs bit hik hcs hd hb hv
    rw [gussetref01_double.l0_eq]
    simp (disch := omega) only [len_is, len_rs, len_nats, len_str, bind_s, i_add, i_sub, i_mul, i_add1, i_add2, i_add3, i_add8, i_sub1, i_sub2, i_mul2, i_mul4, i_mul8, i_lmul2, i_lmul4, i_lmul8, i_lmul32, i_quo2, i_rem2, i_quo4, i_rem4, i_quo8, i_rem8, i_quo32, i_rem32, bin_lss, bin_leq, bin_gtr, bin_geq, bin_eql, bin_neq, nat_lss, nat_leq, nat_gtr, nat_geq, nat_eql, nat_neq, v_add, v_sub, v_mul, v_conv, i_conv, u_quo, u_rem, u_shr, u_shl, nsidx_rs, nsidx_is, nsidx_nats, nstri, ld_rp, load_ip, rd_nl, st_rp, stc_nl, live_0, live_1, live_2, nmks, nmks0, nmm, nl_len, h_app, h_set0, h_set1, cond_y, cond_n, cond_t, cond_f, guard_ty, guard_tn, guard_fy, guard_fn, guard_tt, guard_tf, guard_ft, guard_ff, ext0, ext1, ext2, frz_nat, frz_bool, frz_int, bslc_0, bslc_1, bslc_2, Int.toNat_natCast, List.nil_append, List.length_nil, List.length_cons, Nat.zero_add, Nat.mul_one, List.length_set]
    have hr : Row [some (nl .u64 (cs.set a.length bit))] .u64 (.rs 1 0 0 (a.length + 1)) (cs.set a.length bit) := own_row live_one (by simpa using hcs)
    rw [trim_fz b32_two hr (by simp; omega) (hd.set (Nat.lt_trans hb (by decide)))]
    have h1 := set_take_succ cs a.length bit (by omega)
    rw [List.take_of_length_le (by simp; omega)] at h1
    rw [h1, val_snoc, List.length_take, Nat.min_eq_left (by omega)]
    rw [show i = a.length by omega, List.take_length] at hv
    rw [← hv, Nat.mul_comm]
  | succ k ih =>
    intro i cs bit hik hcs hd hb hv
    rw [gussetref01_double.l0_eq]
    have hx := ha.l32 i
    simp (disch := omega) only [len_is, len_rs, len_nats, len_str, bind_s, i_add, i_sub, i_mul, i_add1, i_add2, i_add3, i_add8, i_sub1, i_sub2, i_mul2, i_mul4, i_mul8, i_lmul2, i_lmul4, i_lmul8, i_lmul32, i_quo2, i_rem2, i_quo4, i_rem4, i_quo8, i_rem8, i_quo32, i_rem32, bin_lss, bin_leq, bin_gtr, bin_geq, bin_eql, bin_neq, nat_lss, nat_leq, nat_gtr, nat_geq, nat_eql, nat_neq, v_add, v_sub, v_mul, v_conv, i_conv, u_quo, u_rem, u_shr, u_shl, nsidx_rs, nsidx_is, nsidx_nats, nstri, ld_rp, load_ip, rd_nl, st_rp, stc_nl, live_0, live_1, live_2, nmks, nmks0, nmm, nl_len, h_app, h_set0, h_set1, cond_y, cond_n, cond_t, cond_f, guard_ty, guard_tn, guard_fy, guard_fn, guard_tt, guard_tf, guard_ft, guard_ff, ext0, ext1, ext2, frz_nat, frz_bool, frz_int, bslc_0, bslc_1, bslc_2, Int.toNat_natCast, List.nil_append, List.length_nil, List.length_cons, Nat.zero_add, Nat.mul_one, List.length_set]
    refine ih (i + 1) _ _ (by omega) (by simpa using hcs) (hd.set (Nat.mod_lt _ (by decide))) (by omega) ?_
    rw [set_take_succ _ _ _ (by omega), val_snoc, List.length_take, Nat.min_eq_left (by omega), val_take_succ', Nat.pow_succ]
    have hdm := Nat.div_add_mod (2 * a.getD i 0 + bit) 4294967296
    generalize (2 * a.getD i 0 + bit) / 4294967296 = q at *
    generalize (2 * a.getD i 0 + bit) % 4294967296 = r at *
    have e1 : q * (B32 ^ i * B32) = B32 ^ i * (4294967296 * q) := by rw [Nat.mul_comm q, Nat.mul_assoc]
    have e : B32 ^ i * r + q * (B32 ^ i * B32) = 2 * (B32 ^ i * a.getD i 0) + bit * B32 ^ i := by
      rw [e1, ← Nat.mul_add, Nat.add_comm r, hdm, Nat.mul_add, Nat.mul_comm bit, Nat.mul_left_comm]
    omega
theorem double_cv (a : List Nat) (b : Nat) (ha : Dg B32 a) (hn : a.length ≤ 1000000) (hb : b < 2) : cv gp fid.gussetref01_double [nats a, nat .u64 b] = some (nats (dig B32 (2 * val B32 a + b))) := by
  rw [gussetref01_double.eq]
  unfold gussetref01_double.f
  simp (disch := omega) only [len_is, len_rs, len_nats, len_str, bind_s, i_add, i_sub, i_mul, i_add1, i_add2, i_add3, i_add8, i_sub1, i_sub2, i_mul2, i_mul4, i_mul8, i_lmul2, i_lmul4, i_lmul8, i_lmul32, i_quo2, i_rem2, i_quo4, i_rem4, i_quo8, i_rem8, i_quo32, i_rem32, bin_lss, bin_leq, bin_gtr, bin_geq, bin_eql, bin_neq, nat_lss, nat_leq, nat_gtr, nat_geq, nat_eql, nat_neq, v_add, v_sub, v_mul, v_conv, i_conv, u_quo, u_rem, u_shr, u_shl, nsidx_rs, nsidx_is, nsidx_nats, nstri, ld_rp, load_ip, rd_nl, st_rp, stc_nl, live_0, live_1, live_2, nmks, nmks0, nmm, nl_len, h_app, h_set0, h_set1, cond_y, cond_n, cond_t, cond_f, guard_ty, guard_tn, guard_fy, guard_fn, guard_tt, guard_tf, guard_ft, guard_ff, ext0, ext1, ext2, frz_nat, frz_bool, frz_int, bslc_0, bslc_1, bslc_2, Int.toNat_natCast, List.nil_append, List.length_nil, List.length_cons, Nat.zero_add, Nat.mul_one, List.length_set]
  exact double_l0 ha hn a.length 0 (List.replicate (a.length + 1) 0) b (by omega) (by simp) (Dg.replicate _ (by decide)) hb (by simp [val])
theorem double_by {h : Heap} {f : Bool} (a : List Nat) (b : Nat) (ha : Dg B32 a) (hn : a.length ≤ 1000000) (hb : b < 2) : byVal (callW gp) h fid.gussetref01_double [isl f a, nat .u64 b] = some (nats (dig B32 (2 * val B32 a + b))) :=
  byVal_isl (imm_l1 imm_nat (by omega)) (double_cv a b ha hn hb)

/-! ### Cmp -/

theorem rcmp_l0 {a b : List Nat} (hs : a.length ≤ 1000000) (hlen : a.length = b.length) (ha : Dg B32 a) (hb : Dg B32 b) : ∀ (k : Nat), k ≤ a.length → a.drop k = b.drop k → gussetref01_Cmp.l0 (nats a) (nats b) (.int .i64 ((k : Int) - 1)) = some (.int .i64 (cmpI (val B32 a) (val B32 b))) := by
  intro k
  induction k with
  | zero =>
    intro hk hd
    rw [gussetref01_Cmp.l0_eq]
    simp (disch := omega) only [len_is, len_rs, len_nats, len_str, bind_s, i_add, i_sub, i_mul, i_add1, i_add2, i_add3, i_add8, i_sub1, i_sub2, i_mul2, i_mul4, i_mul8, i_lmul2, i_lmul4, i_lmul8, i_lmul32, i_quo2, i_rem2, i_quo4, i_rem4, i_quo8, i_rem8, i_quo32, i_rem32, bin_lss, bin_leq, bin_gtr, bin_geq, bin_eql, bin_neq, nat_lss, nat_leq, nat_gtr, nat_geq, nat_eql, nat_neq, v_add, v_sub, v_mul, v_conv, i_conv, u_quo, u_rem, u_shr, u_shl, nsidx_rs, nsidx_is, nsidx_nats, nstri, ld_rp, load_ip, rd_nl, st_rp, stc_nl, live_0, live_1, live_2, nmks, nmks0, nmm, nl_len, h_app, h_set0, h_set1, cond_y, cond_n, cond_t, cond_f, guard_ty, guard_tn, guard_fy, guard_fn, guard_tt, guard_tf, guard_ft, guard_ff, ext0, ext1, ext2, frz_nat, frz_bool, frz_int, bslc_0, bslc_1, bslc_2, Int.toNat_natCast, List.nil_append, List.length_nil, List.length_cons, Nat.zero_add, Nat.mul_one, List.length_set]
    simp only [List.drop_zero] at hd
    rw [hd, cmpI_self]
  | succ k ih =>
    intro hk hd
    rw [gussetref01_Cmp.l0_eq]
    rw [show (((k + 1 : Nat) : Int) - 1) = (k : Int) by omega]
    simp (disch := omega) only [len_is, len_rs, len_nats, len_str, bind_s, i_add, i_sub, i_mul, i_add1, i_add2, i_add3, i_add8, i_sub1, i_sub2, i_mul2, i_mul4, i_mul8, i_lmul2, i_lmul4, i_lmul8, i_lmul32, i_quo2, i_rem2, i_quo4, i_rem4, i_quo8, i_rem8, i_quo32, i_rem32, bin_lss, bin_leq, bin_gtr, bin_geq, bin_eql, bin_neq, nat_lss, nat_leq, nat_gtr, nat_geq, nat_eql, nat_neq, v_add, v_sub, v_mul, v_conv, i_conv, u_quo, u_rem, u_shr, u_shl, nsidx_rs, nsidx_is, nsidx_nats, nstri, ld_rp, load_ip, rd_nl, st_rp, stc_nl, live_0, live_1, live_2, nmks, nmks0, nmm, nl_len, h_app, h_set0, h_set1, cond_y, cond_n, cond_t, cond_f, guard_ty, guard_tn, guard_fy, guard_fn, guard_tt, guard_tf, guard_ft, guard_ff, ext0, ext1, ext2, frz_nat, frz_bool, frz_int, bslc_0, bslc_1, bslc_2, Int.toNat_natCast, List.nil_append, List.length_nil, List.length_cons, Nat.zero_add, Nat.mul_one, List.length_set, cond_d]
    split
    · rename_i h
      rw [cmpI_lt (val_lt_of_top ha hb k hlen (by omega) hd h)]
    split
    · rename_i h1 h2
      rw [cmpI_gt (val_lt_of_top hb ha k hlen.symm (by omega) hd.symm h2)]
    · rename_i h1 h2
      rw [int_sub (by omega) (by omega)]
      simp only [bind_s]
      refine ih (by omega) ?_
      rw [drop_cons a k (by omega), drop_cons b k (by omega), hd, show a.getD k 0 = b.getD k 0 by omega]
theorem rcmp_cv (x y : Nat) (hx : (dig B32 x).length ≤ 1000000) (hy : (dig B32 y).length ≤ 1000000) : cv gp fid.gussetref01_Cmp [nats (dig B32 x), nats (dig B32 y)] = some (.int .i64 (cmpI x y)) := by
  rw [gussetref01_Cmp.eq]
  unfold gussetref01_Cmp.f
  simp (disch := omega) only [len_is, len_rs, len_nats, len_str, bind_s, i_add, i_sub, i_mul, i_add1, i_add2, i_add3, i_add8, i_sub1, i_sub2, i_mul2, i_mul4, i_mul8, i_lmul2, i_lmul4, i_lmul8, i_lmul32, i_quo2, i_rem2, i_quo4, i_rem4, i_quo8, i_rem8, i_quo32, i_rem32, bin_lss, bin_leq, bin_gtr, bin_geq, bin_eql, bin_neq, nat_lss, nat_leq, nat_gtr, nat_geq, nat_eql, nat_neq, v_add, v_sub, v_mul, v_conv, i_conv, u_quo, u_rem, u_shr, u_shl, nsidx_rs, nsidx_is, nsidx_nats, nstri, ld_rp, load_ip, rd_nl, st_rp, stc_nl, live_0, live_1, live_2, nmks, nmks0, nmm, nl_len, h_app, h_set0, h_set1, cond_y, cond_n, cond_t, cond_f, guard_ty, guard_tn, guard_fy, guard_fn, guard_tt, guard_tf, guard_ft, guard_ff, ext0, ext1, ext2, frz_nat, frz_bool, frz_int, bslc_0, bslc_1, bslc_2, Int.toNat_natCast, List.nil_append, List.length_nil, List.length_cons, Nat.zero_add, Nat.mul_one, List.length_set, cond_d]
  split
  · split
    · rw [cmpI_lt (lt_of_len_lt b32_two (by omega))]
    · rw [cmpI_gt (lt_of_len_lt b32_two (by omega))]
  · rw [int_sub (by omega) (by omega)]
    simp only [bind_s]
    have := rcmp_l0 hx (by omega) (dig_Dg b32_two x) (dig_Dg b32_two y) (dig B32 x).length (Nat.le_refl _) (by rw [List.drop_length, List.drop_of_length_le (by omega)])
    rw [this, val_dig b32_two, val_dig b32_two]
theorem rcmp_by {h : Heap} {f : Bool} (x y : Nat) (hx : (dig B32 x).length ≤ 1000000) (hy : (dig B32 y).length ≤ 1000000) : byVal (callW gp) h fid.gussetref01_Cmp [isl f (dig B32 x), nats (dig B32 y)] = some (.int .i64 (cmpI x y)) :=
  byVal_isl (imm_l1 imm_nats (by omega)) (rcmp_cv x y hx hy)

/-! ### Add -/

theorem radd_l0 {a b : List Nat} {n : Nat} (ha : Dg B32 a) (hb : Dg B32 b) (hn : n ≤ 1000000) (han : a.length < n) (hbn : b.length < n) : ∀ (k i : Nat) (cs : List Nat) (c : Nat), i + k = n → cs.length = n → Dg B32 cs → c ≤ 1 →
    val B32 (cs.take i) + c * B32 ^ i = val B32 (a.take i) + val B32 (b.take i) →
    gussetref01_Add.l0 (nats a) (nats b) (.rs 1 0 0 n) (nat .u64 c) (.int .i64 (i : Nat)) [some (nl .u64 cs)] = some (nats (dig B32 (val B32 a + val B32 b))) := by
  intro k
  induction k with
  | zero =>
    intro i cs c hik hcs hd hc hv
    rw [gussetref01_Add.l0_eq]
    simp (disch := omega) only [len_is, len_rs, len_nats, len_str, bind_s, i_add, i_sub, i_mul, i_add1, i_add2, i_add3, i_add8, i_sub1, i_sub2, i_mul2, i_mul4, i_mul8, i_lmul2, i_lmul4, i_lmul8, i_lmul32, i_quo2, i_rem2, i_quo4, i_rem4, i_quo8, i_rem8, i_quo32, i_rem32, bin_lss, bin_leq, bin_gtr, bin_geq, bin_eql, bin_neq, nat_lss, nat_leq, nat_gtr, nat_geq, nat_eql, nat_neq, v_add, v_sub, v_mul, v_conv, i_conv, u_quo, u_rem, u_shr, u_shl, nsidx_rs, nsidx_is, nsidx_nats, nstri, ld_rp, load_ip, rd_nl, st_rp, stc_nl, live_0, live_1, live_2, nmks, nmks0, nmm, nl_len, h_app, h_set0, h_set1, cond_y, cond_n, cond_t, cond_f, guard_ty, guard_tn, guard_fy, guard_fn, guard_tt, guard_tf, guard_ft, guard_ff, ext0, ext1, ext2, frz_nat, frz_bool, frz_int, bslc_0, bslc_1, bslc_2, Int.toNat_natCast, List.nil_append, List.length_nil, List.length_cons, Nat.zero_add, Nat.mul_one, List.length_set]
    have hr : Row [some (nl .u64 cs)] .u64 (.rs 1 0 0 n) cs := own_row live_one hcs
    rw [trim_fz b32_two hr (by omega) hd]
    rw [List.take_of_length_le (by omega), List.take_of_length_le (by omega), List.take_of_length_le (by omega)] at hv
    have up : ∀ {l : List Nat}, Dg B32 l → l.length < n → val B32 l * 2 < B32 ^ i := fun {l} hl hln => by
      have h1 := val_lt hl
      have : B32 ^ (l.length + 1) ≤ B32 ^ i := Nat.pow_le_pow_right (by decide) (by omega)
      rw [Nat.pow_succ] at this
      have h3 : B32 ^ l.length * 2 ≤ B32 ^ i := Nat.le_trans (Nat.mul_le_mul_left _ (by decide)) this
      omega
    have h1 := up ha han
    have h2 := up hb hbn
    have hc0 : c = 0 := by
      rcases Nat.lt_or_ge c 1 with h | h
      · omega
      · have : c = 1 := by omega
        subst this
        omega
    subst hc0
    rw [Nat.zero_mul, Nat.add_zero] at hv
    rw [hv]
  | succ k ih =>
    intro i cs c hik hcs hd hc hv
    have hx := ha.l32 i
    have hy := hb.l32 i
    have fin : gussetref01_Add.j1 (nats a) (nats b) (.rs 1 0 0 n) (nat .u64 (c + a.getD i 0 + b.getD i 0)) (.int .i64 (i : Nat)) [some (nl .u64 cs)] = some (nats (dig B32 (val B32 a + val B32 b))) := by
      unfold gussetref01_Add.j1
      simp (disch := omega) only [len_is, len_rs, len_nats, len_str, bind_s, i_add, i_sub, i_mul, i_add1, i_add2, i_add3, i_add8, i_sub1, i_sub2, i_mul2, i_mul4, i_mul8, i_lmul2, i_lmul4, i_lmul8, i_lmul32, i_quo2, i_rem2, i_quo4, i_rem4, i_quo8, i_rem8, i_quo32, i_rem32, bin_lss, bin_leq, bin_gtr, bin_geq, bin_eql, bin_neq, nat_lss, nat_leq, nat_gtr, nat_geq, nat_eql, nat_neq, v_add, v_sub, v_mul, v_conv, i_conv, u_quo, u_rem, u_shr, u_shl, nsidx_rs, nsidx_is, nsidx_nats, nstri, ld_rp, load_ip, rd_nl, st_rp, stc_nl, live_0, live_1, live_2, nmks, nmks0, nmm, nl_len, h_app, h_set0, h_set1, cond_y, cond_n, cond_t, cond_f, guard_ty, guard_tn, guard_fy, guard_fn, guard_tt, guard_tf, guard_ft, guard_ff, ext0, ext1, ext2, frz_nat, frz_bool, frz_int, bslc_0, bslc_1, bslc_2, Int.toNat_natCast, List.nil_append, List.length_nil, List.length_cons, Nat.zero_add, Nat.mul_one, List.length_set]
      refine ih (i + 1) _ _ (by omega) (by simpa using hcs) (hd.set (Nat.mod_lt _ (by decide))) (by omega) ?_
      rw [set_take_succ _ _ _ (by omega), val_snoc, List.length_take, Nat.min_eq_left (by omega), val_take_succ', val_take_succ', Nat.pow_succ]
      have hdm := Nat.div_add_mod (c + a.getD i 0 + b.getD i 0) 4294967296
      generalize (c + a.getD i 0 + b.getD i 0) / 4294967296 = q at *
      generalize (c + a.getD i 0 + b.getD i 0) % 4294967296 = r at *
      have e1 : q * (B32 ^ i * B32) = B32 ^ i * (4294967296 * q) := by rw [Nat.mul_comm q, Nat.mul_assoc]
      have e : B32 ^ i * r + q * (B32 ^ i * B32) = c * B32 ^ i + B32 ^ i * (a.getD i 0) + B32 ^ i * (b.getD i 0) := by
        rw [e1, ← Nat.mul_add, Nat.add_comm r, hdm, Nat.mul_add, Nat.mul_add, Nat.mul_comm c]
      omega
    have j0 : gussetref01_Add.j0 (nats a) (nats b) (.rs 1 0 0 n) (nat .u64 (c + a.getD i 0)) (.int .i64 (i : Nat)) [some (nl .u64 cs)] = some (nats (dig B32 (val B32 a + val B32 b))) := by
      unfold gussetref01_Add.j0
      simp (disch := omega) only [len_is, len_rs, len_nats, len_str, bind_s, i_add, i_sub, i_mul, i_add1, i_add2, i_add3, i_add8, i_sub1, i_sub2, i_mul2, i_mul4, i_mul8, i_lmul2, i_lmul4, i_lmul8, i_lmul32, i_quo2, i_rem2, i_quo4, i_rem4, i_quo8, i_rem8, i_quo32, i_rem32, bin_lss, bin_leq, bin_gtr, bin_geq, bin_eql, bin_neq, nat_lss, nat_leq, nat_gtr, nat_geq, nat_eql, nat_neq, v_add, v_sub, v_mul, v_conv, i_conv, u_quo, u_rem, u_shr, u_shl, nsidx_rs, nsidx_is, nsidx_nats, nstri, ld_rp, load_ip, rd_nl, st_rp, stc_nl, live_0, live_1, live_2, nmks, nmks0, nmm, nl_len, h_app, h_set0, h_set1, cond_y, cond_n, cond_t, cond_f, guard_ty, guard_tn, guard_fy, guard_fn, guard_tt, guard_tf, guard_ft, guard_ff, ext0, ext1, ext2, frz_nat, frz_bool, frz_int, bslc_0, bslc_1, bslc_2, Int.toNat_natCast, List.nil_append, List.length_nil, List.length_cons, Nat.zero_add, Nat.mul_one, List.length_set, cond_d]
      split
      · try simp (disch := omega) only [len_is, len_rs, len_nats, len_str, bind_s, i_add, i_sub, i_mul, i_add1, i_add2, i_add3, i_add8, i_sub1, i_sub2, i_mul2, i_mul4, i_mul8, i_lmul2, i_lmul4, i_lmul8, i_lmul32, i_quo2, i_rem2, i_quo4, i_rem4, i_quo8, i_rem8, i_quo32, i_rem32, bin_lss, bin_leq, bin_gtr, bin_geq, bin_eql, bin_neq, nat_lss, nat_leq, nat_gtr, nat_geq, nat_eql, nat_neq, v_add, v_sub, v_mul, v_conv, i_conv, u_quo, u_rem, u_shr, u_shl, nsidx_rs, nsidx_is, nsidx_nats, nstri, ld_rp, load_ip, rd_nl, st_rp, stc_nl, live_0, live_1, live_2, nmks, nmks0, nmm, nl_len, h_app, h_set0, h_set1, cond_y, cond_n, cond_t, cond_f, guard_ty, guard_tn, guard_fy, guard_fn, guard_tt, guard_tf, guard_ft, guard_ff, ext0, ext1, ext2, frz_nat, frz_bool, frz_int, bslc_0, bslc_1, bslc_2, Int.toNat_natCast, List.nil_append, List.length_nil, List.length_cons, Nat.zero_add, Nat.mul_one, List.length_set]
        exact fin
      · rw [getD_out b i (by omega), Nat.add_zero] at fin
        exact fin
    rw [gussetref01_Add.l0_eq]
    simp (disch := omega) only [len_is, len_rs, len_nats, len_str, bind_s, i_add, i_sub, i_mul, i_add1, i_add2, i_add3, i_add8, i_sub1, i_sub2, i_mul2, i_mul4, i_mul8, i_lmul2, i_lmul4, i_lmul8, i_lmul32, i_quo2, i_rem2, i_quo4, i_rem4, i_quo8, i_rem8, i_quo32, i_rem32, bin_lss, bin_leq, bin_gtr, bin_geq, bin_eql, bin_neq, nat_lss, nat_leq, nat_gtr, nat_geq, nat_eql, nat_neq, v_add, v_sub, v_mul, v_conv, i_conv, u_quo, u_rem, u_shr, u_shl, nsidx_rs, nsidx_is, nsidx_nats, nstri, ld_rp, load_ip, rd_nl, st_rp, stc_nl, live_0, live_1, live_2, nmks, nmks0, nmm, nl_len, h_app, h_set0, h_set1, cond_y, cond_n, cond_t, cond_f, guard_ty, guard_tn, guard_fy, guard_fn, guard_tt, guard_tf, guard_ft, guard_ff, ext0, ext1, ext2, frz_nat, frz_bool, frz_int, bslc_0, bslc_1, bslc_2, Int.toNat_natCast, List.nil_append, List.length_nil, List.length_cons, Nat.zero_add, Nat.mul_one, List.length_set, cond_d]
    split
    · try simp (disch := omega) only [len_is, len_rs, len_nats, len_str, bind_s, i_add, i_sub, i_mul, i_add1, i_add2, i_add3, i_add8, i_sub1, i_sub2, i_mul2, i_mul4, i_mul8, i_lmul2, i_lmul4, i_lmul8, i_lmul32, i_quo2, i_rem2, i_quo4, i_rem4, i_quo8, i_rem8, i_quo32, i_rem32, bin_lss, bin_leq, bin_gtr, bin_geq, bin_eql, bin_neq, nat_lss, nat_leq, nat_gtr, nat_geq, nat_eql, nat_neq, v_add, v_sub, v_mul, v_conv, i_conv, u_quo, u_rem, u_shr, u_shl, nsidx_rs, nsidx_is, nsidx_nats, nstri, ld_rp, load_ip, rd_nl, st_rp, stc_nl, live_0, live_1, live_2, nmks, nmks0, nmm, nl_len, h_app, h_set0, h_set1, cond_y, cond_n, cond_t, cond_f, guard_ty, guard_tn, guard_fy, guard_fn, guard_tt, guard_tf, guard_ft, guard_ff, ext0, ext1, ext2, frz_nat, frz_bool, frz_int, bslc_0, bslc_1, bslc_2, Int.toNat_natCast, List.nil_append, List.length_nil, List.length_cons, Nat.zero_add, Nat.mul_one, List.length_set]
      exact j0
    · rw [getD_out a i (by omega), Nat.add_zero] at j0
      exact j0
theorem radd_cv (a b : List Nat) (ha : Dg B32 a) (hb : Dg B32 b) (hn : a.length ≤ 100000) (hm : b.length ≤ 100000) : cv gp fid.gussetref01_Add [nats a, nats b] = some (nats (dig B32 (val B32 a + val B32 b))) := by
  rw [gussetref01_Add.eq]
  unfold gussetref01_Add.f
  simp (disch := omega) only [len_is, len_rs, len_nats, len_str, bind_s, i_add, i_sub, i_mul, i_add1, i_add2, i_add3, i_add8, i_sub1, i_sub2, i_mul2, i_mul4, i_mul8, i_lmul2, i_lmul4, i_lmul8, i_lmul32, i_quo2, i_rem2, i_quo4, i_rem4, i_quo8, i_rem8, i_quo32, i_rem32, bin_lss, bin_leq, bin_gtr, bin_geq, bin_eql, bin_neq, nat_lss, nat_leq, nat_gtr, nat_geq, nat_eql, nat_neq, v_add, v_sub, v_mul, v_conv, i_conv, u_quo, u_rem, u_shr, u_shl, nsidx_rs, nsidx_is, nsidx_nats, nstri, ld_rp, load_ip, rd_nl, st_rp, stc_nl, live_0, live_1, live_2, nmks, nmks0, nmm, nl_len, h_app, h_set0, h_set1, cond_y, cond_n, cond_t, cond_f, guard_ty, guard_tn, guard_fy, guard_fn, guard_tt, guard_tf, guard_ft, guard_ff, ext0, ext1, ext2, frz_nat, frz_bool, frz_int, bslc_0, bslc_1, bslc_2, Int.toNat_natCast, List.nil_append, List.length_nil, List.length_cons, Nat.zero_add, Nat.mul_one, List.length_set]
  exact radd_l0 (n := max a.length b.length + 1) ha hb (by omega) (by omega) (by omega) (max a.length b.length + 1) 0 (List.replicate (max a.length b.length + 1) 0) 0 (by omega) (by simp) (Dg.replicate _ (by decide)) (by omega) (by simp [val])

/-! ### Sub -/

theorem rsub_l0 {a b : List Nat} (ha : Dg B32 a) (hb : Dg B32 b) (hn : a.length ≤ 1000000) (hbn : b.length ≤ a.length) (hle : val B32 b ≤ val B32 a) : ∀ (k i : Nat) (cs : List Nat) (c : Nat), i + k = a.length → cs.length = a.length → Dg B32 cs → c ≤ 1 →
    val B32 (cs.take i) + val B32 (b.take i) = val B32 (a.take i) + c * B32 ^ i →
    gussetref01_Sub.l0 (nats a) (nats b) (.rs 1 0 0 a.length) (nat .u64 c) (.int .i64 (i : Nat)) [some (nl .u64 cs)] = some (nats (dig B32 (val B32 a - val B32 b))) := by
  intro k
  induction k with
  | zero =>
    intro i cs c hik hcs hd hc hv
    rw [gussetref01_Sub.l0_eq]
    simp (disch := omega) only [len_is, len_rs, len_nats, len_str, bind_s, i_add, i_sub, i_mul, i_add1, i_add2, i_add3, i_add8, i_sub1, i_sub2, i_mul2, i_mul4, i_mul8, i_lmul2, i_lmul4, i_lmul8, i_lmul32, i_quo2, i_rem2, i_quo4, i_rem4, i_quo8, i_rem8, i_quo32, i_rem32, bin_lss, bin_leq, bin_gtr, bin_geq, bin_eql, bin_neq, nat_lss, nat_leq, nat_gtr, nat_geq, nat_eql, nat_neq, v_add, v_sub, v_mul, v_conv, i_conv, u_quo, u_rem, u_shr, u_shl, nsidx_rs, nsidx_is, nsidx_nats, nstri, ld_rp, load_ip, rd_nl, st_rp, stc_nl, live_0, live_1, live_2, nmks, nmks0, nmm, nl_len, h_app, h_set0, h_set1, cond_y, cond_n, cond_t, cond_f, guard_ty, guard_tn, guard_fy, guard_fn, guard_tt, guard_tf, guard_ft, guard_ff, ext0, ext1, ext2, frz_nat, frz_bool, frz_int, bslc_0, bslc_1, bslc_2, Int.toNat_natCast, List.nil_append, List.length_nil, List.length_cons, Nat.zero_add, Nat.mul_one, List.length_set]
    have hr : Row [some (nl .u64 cs)] .u64 (.rs 1 0 0 a.length) cs := own_row live_one hcs
    rw [trim_fz b32_two hr (by omega) hd]
    rw [List.take_of_length_le (by omega), List.take_of_length_le (by omega), List.take_of_length_le (by omega)] at hv
    have h1 := val_lt hd
    rw [hcs, show a.length = i by omega] at h1
    have hc0 : c = 0 := by
      rcases Nat.lt_or_ge c 1 with h | h
      · omega
      · have : c = 1 := by omega
        subst this
        omega
    subst hc0
    rw [show val B32 cs = val B32 a - val B32 b by omega]
  | succ k ih =>
    intro i cs c hik hcs hd hc hv
    have hx := ha.l32 i
    have hy := hb.l32 i
    have fin : gussetref01_Sub.j0 (nats a) (nats b) (.rs 1 0 0 a.length) (.int .i64 (i : Nat)) (nat .u64 (c + b.getD i 0)) [some (nl .u64 cs)] = some (nats (dig B32 (val B32 a - val B32 b))) := by
      unfold gussetref01_Sub.j0
      simp (disch := omega) only [len_is, len_rs, len_nats, len_str, bind_s, i_add, i_sub, i_mul, i_add1, i_add2, i_add3, i_add8, i_sub1, i_sub2, i_mul2, i_mul4, i_mul8, i_lmul2, i_lmul4, i_lmul8, i_lmul32, i_quo2, i_rem2, i_quo4, i_rem4, i_quo8, i_rem8, i_quo32, i_rem32, bin_lss, bin_leq, bin_gtr, bin_geq, bin_eql, bin_neq, nat_lss, nat_leq, nat_gtr, nat_geq, nat_eql, nat_neq, v_add, v_sub, v_mul, v_conv, i_conv, u_quo, u_rem, u_shr, u_shl, nsidx_rs, nsidx_is, nsidx_nats, nstri, ld_rp, load_ip, rd_nl, st_rp, stc_nl, live_0, live_1, live_2, nmks, nmks0, nmm, nl_len, h_app, h_set0, h_set1, cond_y, cond_n, cond_t, cond_f, guard_ty, guard_tn, guard_fy, guard_fn, guard_tt, guard_tf, guard_ft, guard_ff, ext0, ext1, ext2, frz_nat, frz_bool, frz_int, bslc_0, bslc_1, bslc_2, Int.toNat_natCast, List.nil_append, List.length_nil, List.length_cons, Nat.zero_add, Nat.mul_one, List.length_set, cond_d]
      split
      · try simp (disch := omega) only [len_is, len_rs, len_nats, len_str, bind_s, i_add, i_sub, i_mul, i_add1, i_add2, i_add3, i_add8, i_sub1, i_sub2, i_mul2, i_mul4, i_mul8, i_lmul2, i_lmul4, i_lmul8, i_lmul32, i_quo2, i_rem2, i_quo4, i_rem4, i_quo8, i_rem8, i_quo32, i_rem32, bin_lss, bin_leq, bin_gtr, bin_geq, bin_eql, bin_neq, nat_lss, nat_leq, nat_gtr, nat_geq, nat_eql, nat_neq, v_add, v_sub, v_mul, v_conv, i_conv, u_quo, u_rem, u_shr, u_shl, nsidx_rs, nsidx_is, nsidx_nats, nstri, ld_rp, load_ip, rd_nl, st_rp, stc_nl, live_0, live_1, live_2, nmks, nmks0, nmm, nl_len, h_app, h_set0, h_set1, cond_y, cond_n, cond_t, cond_f, guard_ty, guard_tn, guard_fy, guard_fn, guard_tt, guard_tf, guard_ft, guard_ff, ext0, ext1, ext2, frz_nat, frz_bool, frz_int, bslc_0, bslc_1, bslc_2, Int.toNat_natCast, List.nil_append, List.length_nil, List.length_cons, Nat.zero_add, Nat.mul_one, List.length_set]
        refine ih (i + 1) _ 1 (by omega) (by simpa using hcs) (hd.set (show _ < 4294967296 by omega)) (by omega) ?_
        rw [set_take_succ _ _ _ (by omega), val_snoc, List.length_take, Nat.min_eq_left (by omega), val_take_succ', val_take_succ', Nat.pow_succ]
        obtain ⟨d, hd⟩ : ∃ d, a.getD i 0 + 4294967296 - (c + b.getD i 0) = d := ⟨_, rfl⟩
        rw [hd]
        have e : B32 ^ i * d + c * B32 ^ i + B32 ^ i * b.getD i 0 = B32 ^ i * a.getD i 0 + B32 ^ i * B32 := by
          rw [Nat.mul_comm c, ← Nat.mul_add, ← Nat.mul_add, ← Nat.mul_add]
          congr 1
          show d + c + b.getD i 0 = a.getD i 0 + 4294967296
          omega
        omega
      · try simp (disch := omega) only [len_is, len_rs, len_nats, len_str, bind_s, i_add, i_sub, i_mul, i_add1, i_add2, i_add3, i_add8, i_sub1, i_sub2, i_mul2, i_mul4, i_mul8, i_lmul2, i_lmul4, i_lmul8, i_lmul32, i_quo2, i_rem2, i_quo4, i_rem4, i_quo8, i_rem8, i_quo32, i_rem32, bin_lss, bin_leq, bin_gtr, bin_geq, bin_eql, bin_neq, nat_lss, nat_leq, nat_gtr, nat_geq, nat_eql, nat_neq, v_add, v_sub, v_mul, v_conv, i_conv, u_quo, u_rem, u_shr, u_shl, nsidx_rs, nsidx_is, nsidx_nats, nstri, ld_rp, load_ip, rd_nl, st_rp, stc_nl, live_0, live_1, live_2, nmks, nmks0, nmm, nl_len, h_app, h_set0, h_set1, cond_y, cond_n, cond_t, cond_f, guard_ty, guard_tn, guard_fy, guard_fn, guard_tt, guard_tf, guard_ft, guard_ff, ext0, ext1, ext2, frz_nat, frz_bool, frz_int, bslc_0, bslc_1, bslc_2, Int.toNat_natCast, List.nil_append, List.length_nil, List.length_cons, Nat.zero_add, Nat.mul_one, List.length_set]
        refine ih (i + 1) _ 0 (by omega) (by simpa using hcs) (hd.set (show _ < 4294967296 by omega)) (by omega) ?_
        rw [set_take_succ _ _ _ (by omega), val_snoc, List.length_take, Nat.min_eq_left (by omega), val_take_succ', val_take_succ', Nat.pow_succ]
        obtain ⟨d, hd⟩ : ∃ d, a.getD i 0 - (c + b.getD i 0) = d := ⟨_, rfl⟩
        rw [hd]
        have e : B32 ^ i * d + c * B32 ^ i + B32 ^ i * b.getD i 0 = B32 ^ i * a.getD i 0 := by
          rw [Nat.mul_comm c, ← Nat.mul_add, ← Nat.mul_add]
          congr 1
          omega
        omega
    rw [gussetref01_Sub.l0_eq]
    simp (disch := omega) only [len_is, len_rs, len_nats, len_str, bind_s, i_add, i_sub, i_mul, i_add1, i_add2, i_add3, i_add8, i_sub1, i_sub2, i_mul2, i_mul4, i_mul8, i_lmul2, i_lmul4, i_lmul8, i_lmul32, i_quo2, i_rem2, i_quo4, i_rem4, i_quo8, i_rem8, i_quo32, i_rem32, bin_lss, bin_leq, bin_gtr, bin_geq, bin_eql, bin_neq, nat_lss, nat_leq, nat_gtr, nat_geq, nat_eql, nat_neq, v_add, v_sub, v_mul, v_conv, i_conv, u_quo, u_rem, u_shr, u_shl, nsidx_rs, nsidx_is, nsidx_nats, nstri, ld_rp, load_ip, rd_nl, st_rp, stc_nl, live_0, live_1, live_2, nmks, nmks0, nmm, nl_len, h_app, h_set0, h_set1, cond_y, cond_n, cond_t, cond_f, guard_ty, guard_tn, guard_fy, guard_fn, guard_tt, guard_tf, guard_ft, guard_ff, ext0, ext1, ext2, frz_nat, frz_bool, frz_int, bslc_0, bslc_1, bslc_2, Int.toNat_natCast, List.nil_append, List.length_nil, List.length_cons, Nat.zero_add, Nat.mul_one, List.length_set, cond_d]
    split
    · try simp (disch := omega) only [len_is, len_rs, len_nats, len_str, bind_s, i_add, i_sub, i_mul, i_add1, i_add2, i_add3, i_add8, i_sub1, i_sub2, i_mul2, i_mul4, i_mul8, i_lmul2, i_lmul4, i_lmul8, i_lmul32, i_quo2, i_rem2, i_quo4, i_rem4, i_quo8, i_rem8, i_quo32, i_rem32, bin_lss, bin_leq, bin_gtr, bin_geq, bin_eql, bin_neq, nat_lss, nat_leq, nat_gtr, nat_geq, nat_eql, nat_neq, v_add, v_sub, v_mul, v_conv, i_conv, u_quo, u_rem, u_shr, u_shl, nsidx_rs, nsidx_is, nsidx_nats, nstri, ld_rp, load_ip, rd_nl, st_rp, stc_nl, live_0, live_1, live_2, nmks, nmks0, nmm, nl_len, h_app, h_set0, h_set1, cond_y, cond_n, cond_t, cond_f, guard_ty, guard_tn, guard_fy, guard_fn, guard_tt, guard_tf, guard_ft, guard_ff, ext0, ext1, ext2, frz_nat, frz_bool, frz_int, bslc_0, bslc_1, bslc_2, Int.toNat_natCast, List.nil_append, List.length_nil, List.length_cons, Nat.zero_add, Nat.mul_one, List.length_set]
      exact fin
    · rw [getD_out b i (by omega), Nat.add_zero] at fin
      exact fin
theorem rsub_cv (a b : List Nat) (ha : Dg B32 a) (hb : Dg B32 b) (hn : a.length ≤ 100000) (hm : b.length ≤ a.length) (hle : val B32 b ≤ val B32 a) : cv gp fid.gussetref01_Sub [nats a, nats b] = some (nats (dig B32 (val B32 a - val B32 b))) := by
  rw [gussetref01_Sub.eq]
  unfold gussetref01_Sub.f
  simp (disch := omega) only [len_is, len_rs, len_nats, len_str, bind_s, i_add, i_sub, i_mul, i_add1, i_add2, i_add3, i_add8, i_sub1, i_sub2, i_mul2, i_mul4, i_mul8, i_lmul2, i_lmul4, i_lmul8, i_lmul32, i_quo2, i_rem2, i_quo4, i_rem4, i_quo8, i_rem8, i_quo32, i_rem32, bin_lss, bin_leq, bin_gtr, bin_geq, bin_eql, bin_neq, nat_lss, nat_leq, nat_gtr, nat_geq, nat_eql, nat_neq, v_add, v_sub, v_mul, v_conv, i_conv, u_quo, u_rem, u_shr, u_shl, nsidx_rs, nsidx_is, nsidx_nats, nstri, ld_rp, load_ip, rd_nl, st_rp, stc_nl, live_0, live_1, live_2, nmks, nmks0, nmm, nl_len, h_app, h_set0, h_set1, cond_y, cond_n, cond_t, cond_f, guard_ty, guard_tn, guard_fy, guard_fn, guard_tt, guard_tf, guard_ft, guard_ff, ext0, ext1, ext2, frz_nat, frz_bool, frz_int, bslc_0, bslc_1, bslc_2, Int.toNat_natCast, List.nil_append, List.length_nil, List.length_cons, Nat.zero_add, Nat.mul_one, List.length_set]
  exact rsub_l0 ha hb (by omega) hm hle a.length 0 (List.replicate a.length 0) 0 (by omega) (by simp) (Dg.replicate _ (by decide)) (by omega) (by simp [val])

/-! ### Mul -/

theorem b32_prod {x y t c : Nat} (hx : x < 4294967296) (hy : y < 4294967296) (ht : t < 4294967296) (hc : c < 4294967296) : x * y + t + c < 18446744073709551616 := by
  have : x * y ≤ 4294967295 * 4294967295 := Nat.mul_le_mul (by omega) (by omega)

  omega

theorem rmul_l {a b : List Nat} (ha : Dg B32 a) (hb : Dg B32 b) (hn : a.length ≤ 100000) (hm : b.length ≤ 100000) : ∀ (k i : Nat) (cs : List Nat), i + k = a.length → cs.length = a.length + b.length → Dg B32 cs → val B32 cs = val B32 (a.take i) * val B32 b → (∀ j, i + b.length ≤ j → cs.getD j 0 = 0) →
    gussetref01_Mul.l0 (nats a) (nats b) (.rs 1 0 0 (a.length + b.length)) (.int .i64 (i : Nat)) [some (nl .u64 cs)] = some (nats (dig B32 (val B32 a * val B32 b))) := by
  intro k
  induction k with
  | zero =>
    intro i cs hik hcs hd hv hz
    rw [gussetref01_Mul.l0_eq]
    simp (disch := omega) only [len_is, len_rs, len_nats, len_str, bind_s, i_add, i_sub, i_mul, i_add1, i_add2, i_add3, i_add8, i_sub1, i_sub2, i_mul2, i_mul4, i_mul8, i_lmul2, i_lmul4, i_lmul8, i_lmul32, i_quo2, i_rem2, i_quo4, i_rem4, i_quo8, i_rem8, i_quo32, i_rem32, bin_lss, bin_leq, bin_gtr, bin_geq, bin_eql, bin_neq, nat_lss, nat_leq, nat_gtr, nat_geq, nat_eql, nat_neq, v_add, v_sub, v_mul, v_conv, i_conv, u_quo, u_rem, u_shr, u_shl, nsidx_rs, nsidx_is, nsidx_nats, nstri, ld_rp, load_ip, rd_nl, st_rp, stc_nl, live_0, live_1, live_2, nmks, nmks0, nmm, nl_len, h_app, h_set0, h_set1, cond_y, cond_n, cond_t, cond_f, guard_ty, guard_tn, guard_fy, guard_fn, guard_tt, guard_tf, guard_ft, guard_ff, ext0, ext1, ext2, frz_nat, frz_bool, frz_int, bslc_0, bslc_1, bslc_2, Int.toNat_natCast, List.nil_append, List.length_nil, List.length_cons, Nat.zero_add, Nat.mul_one, List.length_set]
    have hr : Row [some (nl .u64 cs)] .u64 (.rs 1 0 0 (a.length + b.length)) cs := own_row live_one hcs
    rw [trim_fz b32_two hr (by omega) hd, hv, List.take_of_length_le (by omega)]
  | succ k ih =>
    intro i cs hik hcs hd hv hz
    rw [gussetref01_Mul.l0_eq]
    simp (disch := omega) only [len_is, len_rs, len_nats, len_str, bind_s, i_add, i_sub, i_mul, i_add1, i_add2, i_add3, i_add8, i_sub1, i_sub2, i_mul2, i_mul4, i_mul8, i_lmul2, i_lmul4, i_lmul8, i_lmul32, i_quo2, i_rem2, i_quo4, i_rem4, i_quo8, i_rem8, i_quo32, i_rem32, bin_lss, bin_leq, bin_gtr, bin_geq, bin_eql, bin_neq, nat_lss, nat_leq, nat_gtr, nat_geq, nat_eql, nat_neq, v_add, v_sub, v_mul, v_conv, i_conv, u_quo, u_rem, u_shr, u_shl, nsidx_rs, nsidx_is, nsidx_nats, nstri, ld_rp, load_ip, rd_nl, st_rp, stc_nl, live_0, live_1, live_2, nmks, nmks0, nmm, nl_len, h_app, h_set0, h_set1, cond_y, cond_n, cond_t, cond_f, guard_ty, guard_tn, guard_fy, guard_fn, guard_tt, guard_tf, guard_ft, guard_ff, ext0, ext1, ext2, frz_nat, frz_bool, frz_int, bslc_0, bslc_1, bslc_2, Int.toNat_natCast, List.nil_append, List.length_nil, List.length_cons, Nat.zero_add, Nat.mul_one, List.length_set]
    have hx := ha.l32 i
    have hB : (0 : Nat) < B32 := by decide
    -- the inner loop: what is carried stands for the digit that is to come
    have inner : ∀ (m j : Nat) (ds : List Nat) (c : Nat), j + m = b.length → ds.length = a.length + b.length → Dg B32 ds → c < B32 → val B32 ds + c * B32 ^ (i + j) = val B32 (a.take i) * val B32 b + a.getD i 0 * val B32 (b.take j) * B32 ^ i → (∀ p, i + b.length ≤ p → ds.getD p 0 = 0) →
        gussetref01_Mul.l1 (nats a) (nats b) (.rs 1 0 0 (a.length + b.length)) (.int .i64 (i : Nat)) (nat .u64 c) (.int .i64 (j : Nat)) [some (nl .u64 ds)] = some (nats (dig B32 (val B32 a * val B32 b))) := by
      intro m
      induction m with
      | zero =>
        intro j ds c hjm hds hdd hc hvv hzz
        rw [gussetref01_Mul.l1_eq]
        simp (disch := omega) only [len_is, len_rs, len_nats, len_str, bind_s, i_add, i_sub, i_mul, i_add1, i_add2, i_add3, i_add8, i_sub1, i_sub2, i_mul2, i_mul4, i_mul8, i_lmul2, i_lmul4, i_lmul8, i_lmul32, i_quo2, i_rem2, i_quo4, i_rem4, i_quo8, i_rem8, i_quo32, i_rem32, bin_lss, bin_leq, bin_gtr, bin_geq, bin_eql, bin_neq, nat_lss, nat_leq, nat_gtr, nat_geq, nat_eql, nat_neq, v_add, v_sub, v_mul, v_conv, i_conv, u_quo, u_rem, u_shr, u_shl, nsidx_rs, nsidx_is, nsidx_nats, nstri, ld_rp, load_ip, rd_nl, st_rp, stc_nl, live_0, live_1, live_2, nmks, nmks0, nmm, nl_len, h_app, h_set0, h_set1, cond_y, cond_n, cond_t, cond_f, guard_ty, guard_tn, guard_fy, guard_fn, guard_tt, guard_tf, guard_ft, guard_ff, ext0, ext1, ext2, frz_nat, frz_bool, frz_int, bslc_0, bslc_1, bslc_2, Int.toNat_natCast, List.nil_append, List.length_nil, List.length_cons, Nat.zero_add, Nat.mul_one, List.length_set]
        refine ih (i + 1) _ (by omega) (by simpa using hds) (hdd.set hc) ?_ ?_
        · have hs := val_set (B := B32) (l := ds) (j := i + b.length) (a := c) (b := c) (by omega) (by rw [hzz _ (by omega), Nat.zero_add])
          rw [hs, val_take_succ', Nat.add_mul]
          rw [show j = b.length by omega, List.take_length] at hvv
          rw [hvv]
          congr 1
          rw [Nat.mul_comm, Nat.mul_assoc]
        · intro p hp
          rw [getD_set, if_neg (by omega)]
          exact hzz p (by omega)
      | succ m ihm =>
        intro j ds c hjm hds hdd hc hvv hzz
        rw [gussetref01_Mul.l1_eq]
        have hy := hb.l32 j
        have ht := hdd.l32 (i + j)
        have hp := b32_prod hx hy ht hc
        simp (disch := omega) only [len_is, len_rs, len_nats, len_str, bind_s, i_add, i_sub, i_mul, i_add1, i_add2, i_add3, i_add8, i_sub1, i_sub2, i_mul2, i_mul4, i_mul8, i_lmul2, i_lmul4, i_lmul8, i_lmul32, i_quo2, i_rem2, i_quo4, i_rem4, i_quo8, i_rem8, i_quo32, i_rem32, bin_lss, bin_leq, bin_gtr, bin_geq, bin_eql, bin_neq, nat_lss, nat_leq, nat_gtr, nat_geq, nat_eql, nat_neq, v_add, v_sub, v_mul, v_conv, i_conv, u_quo, u_rem, u_shr, u_shl, nsidx_rs, nsidx_is, nsidx_nats, nstri, ld_rp, load_ip, rd_nl, st_rp, stc_nl, live_0, live_1, live_2, nmks, nmks0, nmm, nl_len, h_app, h_set0, h_set1, cond_y, cond_n, cond_t, cond_f, guard_ty, guard_tn, guard_fy, guard_fn, guard_tt, guard_tf, guard_ft, guard_ff, ext0, ext1, ext2, frz_nat, frz_bool, frz_int, bslc_0, bslc_1, bslc_2, Int.toNat_natCast, List.nil_append, List.length_nil, List.length_cons, Nat.zero_add, Nat.mul_one, List.length_set]
        have hq : (a.getD i 0 * b.getD j 0 + ds.getD (i + j) 0 + c) / 4294967296 < B32 := by
          rw [Nat.div_lt_iff_lt_mul (by decide)]
          exact hp
        refine ihm (j + 1) _ _ (by omega) (by simpa using hds) (hdd.set (Nat.mod_lt _ (by decide))) hq ?_ ?_
        · have hdm := Nat.div_add_mod (a.getD i 0 * b.getD j 0 + ds.getD (i + j) 0 + c) 4294967296
          generalize (a.getD i 0 * b.getD j 0 + ds.getD (i + j) 0 + c) / 4294967296 = q at *
          generalize (a.getD i 0 * b.getD j 0 + ds.getD (i + j) 0 + c) % 4294967296 = r at *
          have hs := val_set' (B := B32) (l := ds) (j := i + j) (a := r) (by omega)
          rw [val_take_succ', ← Nat.add_assoc, Nat.pow_succ, Nat.mul_add, Nat.add_mul, ← Nat.add_assoc, ← hvv]
          have e1 : q * (B32 ^ (i + j) * B32) + r * B32 ^ (i + j) = (a.getD i 0 * b.getD j 0 + ds.getD (i + j) 0 + c) * B32 ^ (i + j) := by
            rw [← hdm, Nat.add_mul, Nat.mul_comm 4294967296 q, Nat.mul_assoc q, Nat.mul_comm (B32 ^ (i + j)) B32]
          have e2 : a.getD i 0 * (B32 ^ j * b.getD j 0) * B32 ^ i = a.getD i 0 * b.getD j 0 * B32 ^ (i + j) := by
            rw [Nat.pow_add]; ac_rfl
          rw [e2]
          rw [Nat.add_mul, Nat.add_mul] at e1
          omega
        · intro p hp'
          rw [getD_set, if_neg (by omega)]
          exact hzz p hp'
    exact inner b.length 0 cs 0 (by omega) hcs hd (by decide) (by simp [val, hv]) hz
theorem rmul_cv (a b : List Nat) (ha : Dg B32 a) (hb : Dg B32 b) (hn : a.length ≤ 100000) (hm : b.length ≤ 100000) : cv gp fid.gussetref01_Mul [nats a, nats b] = some (nats (dig B32 (val B32 a * val B32 b))) := by
  rw [gussetref01_Mul.eq]
  unfold gussetref01_Mul.f
  simp (disch := omega) only [len_is, len_rs, len_nats, len_str, bind_s, i_add, i_sub, i_mul, i_add1, i_add2, i_add3, i_add8, i_sub1, i_sub2, i_mul2, i_mul4, i_mul8, i_lmul2, i_lmul4, i_lmul8, i_lmul32, i_quo2, i_rem2, i_quo4, i_rem4, i_quo8, i_rem8, i_quo32, i_rem32, bin_lss, bin_leq, bin_gtr, bin_geq, bin_eql, bin_neq, nat_lss, nat_leq, nat_gtr, nat_geq, nat_eql, nat_neq, v_add, v_sub, v_mul, v_conv, i_conv, u_quo, u_rem, u_shr, u_shl, nsidx_rs, nsidx_is, nsidx_nats, nstri, ld_rp, load_ip, rd_nl, st_rp, stc_nl, live_0, live_1, live_2, nmks, nmks0, nmm, nl_len, h_app, h_set0, h_set1, cond_y, cond_n, cond_t, cond_f, guard_ty, guard_tn, guard_fy, guard_fn, guard_tt, guard_tf, guard_ft, guard_ff, ext0, ext1, ext2, frz_nat, frz_bool, frz_int, bslc_0, bslc_1, bslc_2, Int.toNat_natCast, List.nil_append, List.length_nil, List.length_cons, Nat.zero_add, Nat.mul_one, List.length_set]
  refine rmul_l ha hb (by omega) (by omega) a.length 0 (List.replicate (a.length + b.length) 0) (by omega) (by simp) (Dg.replicate _ (by decide)) (by simp [val, val_zeros]) ?_
  intro j _
  rw [List.getD_eq_getElem?_getD, List.getElem?_replicate]
  split <;> rfl
end Go.Proofs.Ytlpimdkgboabcaa.Am
