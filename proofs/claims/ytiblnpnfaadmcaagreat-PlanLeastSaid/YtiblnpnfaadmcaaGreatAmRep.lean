import Derived.Test.YtiblnpnfaadmcaaGreatAmFix
import Derived.Below
/- When a value of the machine stands for an abstract one; what a step leaves as it was. -/
set_option linter.unusedVariables false
set_option maxRecDepth 10000
set_option linter.unusedSectionVars false
namespace Go.Proofs.YtiblnpnfaadmcaaGreat.Am
open Go

abbrev Mu := List (Option (Addr × Nat))

def Liv (μ : Mu) (b : Nat) : Prop := ∃ (id : Nat) (a : Addr) (r : Nat), μ[id]? = some (some (a, r)) ∧ a.block = b

def zyb7 (ent : Nat → Value × Value × Nat) (n : Nat) : Array MapEntry := (Array.range n).map fun j => { key := (ent j).1, val := (ent j).2.1, born := (ent j).2.2 }

inductive Rep (w : World) (μ : Mu) (A : Nat → Prop) : AV → Value → Prop
 | bool (b : Bool) : Rep w μ A (.bool b) (.bool b)
 | int (k : IntKind) (n : Int) : Rep w μ A (.int k n) (.int k n)
 | str (s : ByteArray) : Rep w μ A (.str s) (.string s)
 | nilp : Rep w μ A .nilp (.pointer none)
 | ip (cs : List AV) (a : Addr) (val : Nat → Value) (h0 : cs ≠ [] → a.spot = none) (h1 : cs ≠ [] → A a.block) (h2 : ∀ (j : Nat) (c : AV), cs[j]? = some c → w.cell? (a.add j) = some (val j))
   (h3 : ∀ (j : Nat) (c : AV), cs[j]? = some c → Rep w μ A c (val j)) : Rep w μ A (.ip cs) (.pointer (some a))
 | rp (id off : Nat) (x : Addr) (h0 : id < μ.length) (h1 : ∀ (b : Addr) (r : Nat), μ[id]? = some (some (b, r)) → b.spot = none ∧ x = b.add off) : Rep w μ A (.rp id off) (.pointer (some x))
 | nils (full : Bool) : Rep w μ A (.is 0 full []) (.slice none 0 0)
 | is (n : Nat) (full : Bool) (cs : List AV) (a : Addr) (c : Nat) (val : Nat → Value) (h0 : cs ≠ [] → a.spot = none) (h1 : cs ≠ [] → A a.block) (h2 : ∀ (j : Nat) (c : AV), cs[j]? = some c → w.cell? (a.add j) = some (val j))
   (h3 : ∀ (j : Nat) (c : AV), cs[j]? = some c → Rep w μ A c (val j)) (h4 : n ≤ c) (h5 : full = true → c = n) : Rep w μ A (.is n full cs) (.slice (some a) n c)
 | rs (sz id off n : Nat) (x : Addr) (c : Nat) (h0 : id < μ.length) (h1 : n ≤ c) (h2 : ∀ (b : Addr) (r : Nat), μ[id]? = some (some (b, r)) → b.spot = none ∧ (c ≠ 0 → x = b.add off) ∧ off + c * sz ≤ r) (h3 : x.spot = none) : Rep w μ A (.rs sz id off n) (.slice (some x) n c)
 | rc (sz id off n k : Nat) (x : Addr) (c : Nat) (h0 : id < μ.length) (h1 : n ≤ c) (h2 : ∀ (b : Addr) (r : Nat), μ[id]? = some (some (b, r)) → b.spot = none ∧ (c ≠ 0 → x = b.add off) ∧ off + c * sz ≤ r) (h3 : x.spot = none) (h4 : k ≤ c) : Rep w μ A (.rc sz id off n k) (.slice (some x) n c)
 | agg (cs : List AV) (vs : List Value) (h0 : vs.length = cs.length) (h1 : ∀ (j : Nat) (c : AV) (v : Value), cs[j]? = some c → vs[j]? = some v → Rep w μ A c v) : Rep w μ A (.agg cs) (.agg vs.toArray)
 | tup (cs : List AV) (vs : List Value) (h0 : vs.length = cs.length) (h1 : ∀ (j : Nat) (c : AV) (v : Value), cs[j]? = some c → vs[j]? = some v → Rep w μ A c v) : Rep w μ A (.tup cs) (.tuple vs.toArray)
 | fn (f : Nat) (cs : List AV) (vs : List Value) (hf : f < yb) (h0 : vs.length = cs.length) (h1 : ∀ (j : Nat) (c : AV) (v : Value), cs[j]? = some c → vs[j]? = some v → Rep w μ A c v) : Rep w μ A (.fn f cs) (.func (.func f) #[] vs.toArray)
 | nilf : Rep w μ A .nilf .nilFunc
 | ifc (t : Nat) (c : AV) (v : Value) (h : Rep w μ A c v) : Rep w μ A (.ifc t c) (.iface t v)
 | nili : Rep w μ A .nili .nilIface
 | nilm : Rep w μ A .nilm (.map none)
 | im (es : List AV) (b : Nat) (ent : Nat → Value × Value × Nat) (ck : Nat) (h0 : A b) (h1 : w.heap[b]? = some (.map (zyb7 ent es.length) ck)) (h2 : ∀ (j : Nat) (c : AV), es[j]? = some c → Rep w μ A c (.tuple #[(ent j).1, (ent j).2.1])) : Rep w μ A (.im es) (.map (some b))
 | rm (id : Nat) (b : Nat) (h0 : id < μ.length) (h1 : ∀ (a : Addr) (r : Nat), μ[id]? = some (some (a, r)) → a = ⟨b, 0, some 0⟩) : Rep w μ A (.rm id) (.map (some b))
 | yld (id l : Nat) (h0 : id < μ.length) (h1 : ∀ (b : Addr) (r : Nat), μ[id]? = some (some (b, r)) → b = ⟨l, 0, some 1⟩) : Rep w μ A (.yld id) (.func (.yield l) #[] #[])
 | undef : Rep w μ A .undef Go.undef
 | junk (v : Value) : Rep w μ A .junk v

def RepL (w : World) (μ : Mu) (A : Nat → Prop) (cs : List AV) (vs : List Value) : Prop :=
 vs.length = cs.length ∧ ∀ (j : Nat) (c : AV) (v : Value), cs[j]? = some c → vs[j]? = some v → Rep w μ A c v

def flatCell : AV → Value → Prop
 | .int k n, v => v = .int k n
 | .bool b, v => v = .bool b
 | .str s, v => v = .string s
 | _, _ => False

def GRep [Gl] (w : World) (A : Nat → Prop) : Prop := ∀ (g j : Nat) (c : AV), (Gl.cells g)[j]? = some c → A g ∧ ∃ v, w.cell? ⟨g, j, none⟩ = some v ∧ flatCell c v

variable [Gl]

def MpRep (w : World) (R : AV → Value → Prop) (cs : List AV) (b : Addr) : Prop :=
 (cs = [] ∧ b = ⟨b.block, 0, some 1⟩ ∧ ∃ r, w.heap[b.block]? = some (.loop r)) ∨ ∃ es ent ck, cs = [.mpc es] ∧ b = ⟨b.block, 0, some 0⟩ ∧ w.heap[b.block]? = some (.map (zyb7 ent es.length) ck) ∧ ∀ (j : Nat) (c : AV), es[j]? = some c → R c (.tuple #[(ent j).1, (ent j).2.1])

theorem MpRep.map {w : World} {R : AV → Value → Prop} {cs : List AV} {b : Addr} (h : MpRep w R cs b) (hb : b.spot = some 0) : ∃ es ent ck, cs = [.mpc es] ∧ b = ⟨b.block, 0, some 0⟩ ∧ w.heap[b.block]? = some (.map (zyb7 ent es.length) ck) ∧ ∀ (j : Nat) (c : AV), es[j]? = some c → R c (.tuple #[(ent j).1, (ent j).2.1]) := by
 rcases h with ⟨_, h, _⟩ | h
 ·rw [h] at hb; cases hb
 ·exact h

structure HRep (w : World) (μ : Mu) (A : Nat → Prop) (h : Heap) : Prop where
 len : μ.length = h.length
 liv : ∀ (id : Nat), (μ[id]?).join.isSome = (live h id).isSome
 blk : ∀ (id : Nat) (cs : List AV) (b : Addr) (r : Nat), live h id = some cs → μ[id]? = some (some (b, r)) → b.spot = none →
  b.spot = none ∧ cs.length ≤ r ∧ ∃ arr e fr, w.heap[b.block]? = some (.cells arr e fr) ∧ (∀ o, b.off ≤ o → o < arr.size → ¬ (fr.1 ≤ o ∧ o < fr.2)) ∧ b.off + r ≤ arr.size ∧
   ∀ (j : Nat) (c : AV), cs[j]? = some c → ∃ v, arr[b.off + j]? = some v ∧ Rep w μ A c v
 inj : ∀ (i j : Nat) (a b : Addr) (r s : Nat), μ[i]? = some (some (a, r)) → μ[j]? = some (some (b, s)) → a.block = b.block → i = j
 off : ∀ (b : Nat), A b → ¬ Liv μ b
 old : ∀ (b : Nat), A b → b < w.heap.size
 glb : GRep w A
 mp : ∀ (id : Nat) (cs : List AV) (b : Addr) (r : Nat), live h id = some cs → μ[id]? = some (some (b, r)) → b.spot ≠ none → MpRep w (Rep w μ A) cs b

structure Move (w : World) (μ : Mu) (A : Nat → Prop) (w' : World) (μ' : Mu) (A' : Nat → Prop) : Prop where
 os : w'.os = w.os
 tape : w'.tape = w.tape
 output : w'.output = w.output
 size : w.heap.size ≤ w'.heap.size
 keep : ∀ (b : Nat), b < w.heap.size → ¬ Liv μ b → w'.heap[b]? = w.heap[b]?
 len : μ.length ≤ μ'.length
 mu : ∀ (id : Nat) (x : Addr × Nat), id < μ.length → μ'[id]? = some (some x) → μ[id]? = some (some x)
 liv : ∀ (b : Nat), Liv μ' b → Liv μ b ∨ w.heap.size ≤ b
 a : ∀ (b : Nat), A b → A' b
 new : ∀ (b : Nat), A' b → A b ∨ Liv μ b ∨ w.heap.size ≤ b
 lp : ∀ (b : Nat) (r : Loop), w.heap[b]? = some (.loop r) → w'.heap[b]? = some (.loop r)

theorem Move.refl (w : World) (μ : Mu) (A : Nat → Prop) : Move w μ A w μ A :=
 ⟨rfl, rfl, rfl, Nat.le_refl _, fun _ _ _ => rfl, Nat.le_refl _, fun _ _ _ h => h, fun _ h => .inl h, fun _ h => h, fun _ h => .inl h, fun _ _ h => h⟩

theorem Move.trans {w w' w'' : World} {μ μ' μ'' : Mu} {A A' A'' : Nat → Prop} (h : Move w μ A w' μ' A') (k : Move w' μ' A' w'' μ'' A'') : Move w μ A w'' μ'' A'' where
 os := k.os.trans h.os
 tape := k.tape.trans h.tape
 output := k.output.trans h.output
 size := Nat.le_trans h.size k.size
 keep := fun b hb hl => (k.keep b (Nat.lt_of_lt_of_le hb h.size) (fun hl' => (h.liv b hl').elim hl (fun hh => absurd hb (by omega)))).trans (h.keep b hb hl)
 len := Nat.le_trans h.len k.len
 mu := fun id x hid hx => h.mu id x hid (k.mu id x (Nat.lt_of_lt_of_le hid h.len) hx)
 liv := fun b hb => (k.liv b hb).elim (h.liv b) (fun hh => .inr (Nat.le_trans h.size hh))
 a := fun b hb => k.a b (h.a b hb)
 new := fun b hb => (k.new b hb).elim (h.new b) fun h2 => h2.elim (fun hl => (h.liv b hl).elim (fun x => .inr (.inl x)) (fun x => .inr (.inr x))) (fun hh => .inr (.inr (Nat.le_trans h.size hh)))
 lp := fun b r hb => k.lp b r (h.lp b r hb)

theorem GRep.move {w w' : World} {A A' : Nat → Prop} (h : GRep w A) (hk : ∀ b, A b → w'.heap[b]? = w.heap[b]?) (ha : ∀ b, A b → A' b) : GRep w' A' := fun g j c hc => by
 obtain ⟨h1, v, h2, h3⟩ := h g j c hc
 refine ⟨ha g h1, v, ?_, h3⟩
 rw [← h2]
 unfold World.cell?
 rw [hk g h1]

theorem cell_eq {w w' : World} {a : Addr} (h : w'.heap[a.block]? = w.heap[a.block]?) : w'.cell? a = w.cell? a := by
 unfold World.cell?
 rw [h]

@[simp] theorem add_block (a : Addr) (n : Nat) : (a.add n).block = a.block := by unfold Addr.add; split <;> rfl
theorem zy0b {a : Addr} (h : a.spot = none) (n : Nat) : (a.add n).spot = none := by unfold Addr.add; split <;> simp [h]
@[simp] theorem add_off (a : Addr) (n : Nat) : (a.add n).off = a.off + n := by unfold Addr.add; split <;> simp [*]
theorem zy0c {a b : Addr} (h1 : a.block = b.block) (h2 : a.off = b.off) (h3 : a.spot = b.spot) : a = b := by cases a; cases b; simp_all
theorem zy0a {a : Addr} (h : a.spot = none) (m n : Nat) : (a.add m).add n = a.add (m + n) :=
 zy0c (by simp) (by simp; omega) (by rw [zy0b (zy0b h _), zy0b h])
theorem add_zero (a : Addr) : a.add 0 = a := rfl

theorem Rep.move {w w' : World} {μ μ' : Mu} {A A' : Nat → Prop} {c : AV} {v : Value} (h : Rep w μ A c v)
  (hk : ∀ b, A b → w'.heap[b]? = w.heap[b]?) (ha : ∀ b, A b → A' b) (hl : μ.length ≤ μ'.length) (hm : ∀ id x, id < μ.length → μ'[id]? = some (some x) → μ[id]? = some (some x)) : Rep w' μ' A' c v := by
 induction h with
 | bool b => exact .bool b
 | int k n => exact .int k n
 | str s => exact .str s
 | nilp => exact .nilp
 | ip cs a val h0 h1 h2 h3 ih =>
  refine .ip cs a val h0 (fun hc => ha _ (h1 hc)) (fun j c hj => ?_) ih
  rw [← h2 j c hj]
  exact cell_eq (by rw [add_block]; exact hk _ (h1 (fun e => by rw [e] at hj; simp at hj)))
 | rp id off x h0 h1 => exact .rp id off x (by omega) fun b r hb => h1 b r (hm id _ h0 hb)
 | nils f => exact .nils f
 | is n full cs a c val h0 h1 h2 h3 h4 h5 ih =>
  refine .is n full cs a c val h0 (fun hc => ha _ (h1 hc)) (fun j c hj => ?_) ih h4 h5
  rw [← h2 j c hj]
  exact cell_eq (by rw [add_block]; exact hk _ (h1 (fun e => by rw [e] at hj; simp at hj)))
 | rs sz id off n x c h0 h1 h2 h3 => exact .rs sz id off n x c (by omega) h1 (fun b r hb => h2 b r (hm id _ h0 hb)) h3
 | rc sz id off n k x c h0 h1 h2 h3 h4 => exact .rc sz id off n k x c (by omega) h1 (fun b r hb => h2 b r (hm id _ h0 hb)) h3 h4
 | agg cs vs h0 h1 ih => exact .agg cs vs h0 ih
 | tup cs vs h0 h1 ih => exact .tup cs vs h0 ih
 | fn f cs vs hf h0 h1 ih => exact .fn f cs vs hf h0 ih
 | nilf => exact .nilf
 | ifc t c v h ih => exact .ifc t c v ih
 | nili => exact .nili
 | nilm => exact .nilm
 | im es b ent ck h0 h1 h2 ih => exact .im es b ent ck (ha _ h0) (by rw [hk _ h0]; exact h1) ih
 | rm id b h0 h1 => exact .rm id b (by omega) fun a r hb => h1 a r (hm id _ h0 hb)
 | yld id l h0 h1 => exact .yld id l (by omega) fun a r hb => h1 a r (hm id _ h0 hb)
 | undef => exact .undef
 | junk v => exact .junk v

theorem Rep.step {w w' : World} {μ μ' : Mu} {A A' : Nat → Prop} {c : AV} {v : Value} {h : Heap} (hr : Rep w μ A c v) (hh : HRep w μ A h) (m : Move w μ A w' μ' A') : Rep w' μ' A' c v :=
 hr.move (fun b hb => m.keep b (hh.old b hb) (hh.off b hb)) m.a m.len m.mu

theorem RepL.step {w w' : World} {μ μ' : Mu} {A A' : Nat → Prop} {cs : List AV} {vs : List Value} {h : Heap} (hr : RepL w μ A cs vs) (hh : HRep w μ A h) (m : Move w μ A w' μ' A') : RepL w' μ' A' cs vs :=
 ⟨hr.1, fun j c v h1 h2 => (hr.2 j c v h1 h2).step hh m⟩


theorem RepL.nil (w : World) (μ : Mu) (A : Nat → Prop) : RepL w μ A [] [] := ⟨rfl, fun j c v h => by simp at h⟩

theorem RepL.cons {w : World} {μ : Mu} {A : Nat → Prop} {c : AV} {v : Value} {cs : List AV} {vs : List Value} (h : Rep w μ A c v) (hr : RepL w μ A cs vs) : RepL w μ A (c :: cs) (v :: vs) := by
 refine ⟨by simp [hr.1], fun j c' v' h1 h2 => ?_⟩
 cases j with
 | zero => simp at h1 h2; subst h1; subst h2; exact h
 | succ j => simp at h1 h2; exact hr.2 j c' v' h1 h2

theorem RepL.head {w : World} {μ : Mu} {A : Nat → Prop} {c : AV} {v : Value} {cs : List AV} {vs : List Value} (hr : RepL w μ A (c :: cs) (v :: vs)) : Rep w μ A c v := hr.2 0 c v rfl rfl

theorem RepL.tail {w : World} {μ : Mu} {A : Nat → Prop} {c : AV} {v : Value} {cs : List AV} {vs : List Value} (hr : RepL w μ A (c :: cs) (v :: vs)) : RepL w μ A cs vs :=
 ⟨by simpa using hr.1, fun j c' v' h1 h2 => hr.2 (j + 1) c' v' (by simpa using h1) (by simpa using h2)⟩

theorem RepL.get {w : World} {μ : Mu} {A : Nat → Prop} {cs : List AV} {vs : List Value} (hr : RepL w μ A cs vs) {j : Nat} {c : AV} (hj : cs[j]? = some c) : ∃ v, vs[j]? = some v ∧ Rep w μ A c v := by
 have hl : j < cs.length := (List.getElem?_eq_some_iff.1 hj).1
 have : j < vs.length := by rw [hr.1]; exact hl
 exact ⟨vs[j], List.getElem?_eq_getElem this, hr.2 j c _ hj (List.getElem?_eq_getElem this)⟩

theorem RepL.append {w : World} {μ : Mu} {A : Nat → Prop} {cs ds : List AV} {vs us : List Value} (h : RepL w μ A cs vs) (k : RepL w μ A ds us) : RepL w μ A (cs ++ ds) (vs ++ us) := by
 refine ⟨by simp [h.1, k.1], fun j c v h1 h2 => ?_⟩
 by_cases hj : j < cs.length
 ·rw [List.getElem?_append_left hj] at h1
  rw [List.getElem?_append_left (by rw [h.1]; exact hj)] at h2
  exact h.2 j c v h1 h2
 ·rw [List.getElem?_append_right (by omega)] at h1
  rw [List.getElem?_append_right (by rw [h.1]; omega), h.1] at h2
  exact k.2 _ c v h1 h2

theorem RepL.drop {w : World} {μ : Mu} {A : Nat → Prop} {cs : List AV} {vs : List Value} (h : RepL w μ A cs vs) (n : Nat) : RepL w μ A (cs.drop n) (vs.drop n) := by
 refine ⟨by simp [h.1], fun j c v h1 h2 => ?_⟩
 rw [List.getElem?_drop] at h1 h2
 exact h.2 _ c v h1 h2

theorem RepL.take {w : World} {μ : Mu} {A : Nat → Prop} {cs : List AV} {vs : List Value} (h : RepL w μ A cs vs) (n : Nat) : RepL w μ A (cs.take n) (vs.take n) := by
 refine ⟨by simp [h.1], fun j c v h1 h2 => ?_⟩
 rw [List.getElem?_take] at h1 h2
 split at h1
 ·rename_i hj
  rw [if_pos hj] at h2
  exact h.2 _ c v h1 h2
 ·cases h1


theorem Rep.agg_inv {w : World} {μ : Mu} {A : Nat → Prop} {cs : List AV} {v : Value} (h : Rep w μ A (.agg cs) v) : ∃ vs : List Value, v = .agg vs.toArray ∧ RepL w μ A cs vs := by
 cases h with
 | agg _ vs h0 h1 => exact ⟨vs, rfl, h0, h1⟩

theorem Rep.tup_inv {w : World} {μ : Mu} {A : Nat → Prop} {cs : List AV} {v : Value} (h : Rep w μ A (.tup cs) v) : ∃ vs : List Value, v = .tuple vs.toArray ∧ RepL w μ A cs vs := by
 cases h with
 | tup _ vs h0 h1 => exact ⟨vs, rfl, h0, h1⟩

theorem Rep.fn_inv {w : World} {μ : Mu} {A : Nat → Prop} {f : Nat} {cs : List AV} {v : Value} (h : Rep w μ A (.fn f cs) v) : ∃ vs : List Value, v = .func (.func f) #[] vs.toArray ∧ RepL w μ A cs vs := by
 cases h with
 | fn _ _ vs hf h0 h1 => exact ⟨vs, rfl, h0, h1⟩
theorem Rep.fn_lt {w : World} {μ : Mu} {A : Nat → Prop} {f : Nat} {cs : List AV} {v : Value} (h : Rep w μ A (.fn f cs) v) : f < yb := by
 cases h with
 | fn _ _ vs hf h0 h1 => exact hf

theorem Rep.cells {w : World} {μ : Mu} {A : Nat → Prop} {c : AV} {v : Value} (h : Rep w μ A c v) (hc : c ≠ .junk) : RepL w μ A c.cells v.cells.toList := by
 have one : ∀ {c : AV} {v : Value}, Rep w μ A c v → RepL w μ A [c] [v] := fun h => .cons h (.nil _ _ _)
 cases h with
 | agg _ vs h0 h1 => exact ⟨h0, h1⟩
 | junk v => exact absurd rfl hc
 | undef => exact one .undef
 | bool b => exact one (.bool b)
 | int k n => exact one (.int k n)
 | str s => exact one (.str s)
 | nilp => exact one .nilp
 | ip cs a val h0 h1 h2 h3 => exact one (.ip cs a val h0 h1 h2 h3)
 | rp id off x h0 h1 => exact one (.rp id off x h0 h1)
 | nils f => exact one (.nils f)
 | is n full cs a c val h0 h1 h2 h3 h4 h5 => exact one (.is n full cs a c val h0 h1 h2 h3 h4 h5)
 | rs sz id off n x c h0 h1 h2 h3 => exact one (.rs sz id off n x c h0 h1 h2 h3)
 | rc sz id off n k x c h0 h1 h2 h3 h4 => exact one (.rc sz id off n k x c h0 h1 h2 h3 h4)
 | tup cs vs h0 h1 => exact one (.tup cs vs h0 h1)
 | fn f cs vs hf h0 h1 => exact one (.fn f cs vs hf h0 h1)
 | yld id l h0 h1 => exact one (.yld id l h0 h1)
 | nilf => exact one .nilf
 | ifc t c v h => exact one (.ifc t c v h)
 | nili => exact one .nili
 | nilm => exact one .nilm
 | im es b ent ck h0 h1 h2 => exact one (.im es b ent ck h0 h1 h2)
 | rm id b h0 h1 => exact one (.rm id b h0 h1)


theorem zyb6 {α β : Type} {f : α → Option β} : ∀ {l : List α} {r : List β}, l.mapM f = some r → r.length = l.length ∧ ∀ (j : Nat) (x : α) (y : β), l[j]? = some x → r[j]? = some y → f x = some y
 | [], r, h => by
  have : r = [] := by simpa using h.symm
  subst this
  exact ⟨rfl, fun j x y h => by simp at h⟩
 | x :: l, r, h => by
  rw [List.mapM_cons] at h
  cases hx : f x with
  | none => rw [hx] at h; cases h
  | some y =>
   rw [hx] at h
   cases hl : l.mapM f with
   | none => rw [hl] at h; cases h
   | some ys =>
    rw [hl] at h
    have : r = y :: ys := by simpa using h.symm
    subst this
    obtain ⟨h1, h2⟩ := zyb6 hl
    refine ⟨by simp [h1], fun j a b ha hb => ?_⟩
    cases j with
    | zero => simp at ha hb; subst ha; subst hb; exact hx
    | succ j => simp at ha hb; exact h2 j a b ha hb

theorem zy61 {w : World} {μ : Mu} {A : Nat → Prop} {h : Heap} (hh : HRep w μ A h) (A' : Nat → Prop) (ha : ∀ b, A b → A' b) (ht : ∀ b, Liv μ b → A' b) : ∀ (k : Nat) (c c' : AV) (v : Value), zy5w k h c = some c' → Rep w μ A c v → Rep w [] A' c' v := by
 intro k
 induction k with
 | zero => intro c c' v hf; cases hf
 | succ k ih =>
  intro c c' v hf hr
  have rowOf : ∀ {cs ds : List AV} {vs : List Value}, cs.mapM (zy5w k h) = some ds → RepL w μ A cs vs → RepL w [] A' ds vs := by
   intro cs ds vs hm hr
   obtain ⟨h1, h2⟩ := zyb6 hm
   refine ⟨by rw [hr.1, h1], fun j c v hj hv => ?_⟩
   have hl : j < cs.length := by rw [← h1]; exact (List.getElem?_eq_some_iff.1 hj).1
   exact ih _ _ _ (h2 j _ _ (List.getElem?_eq_getElem hl) hj) (hr.2 j _ v (List.getElem?_eq_getElem hl) hv)
  have blockOf : ∀ {id : Nat} {cs : List AV} {b : Addr} {r : Nat} {ds : List AV} {off m : Nat}, live h id = some cs → μ[id]? = some (some (b, r)) → b.spot = none → ((cs.drop off).take m).mapM (zy5w k h) = some ds →
    ∃ val : Nat → Value, (b.add off).spot = none ∧ A' (b.add off).block ∧ (∀ (j : Nat) (c : AV), ds[j]? = some c → w.cell? ((b.add off).add j) = some (val j)) ∧ ∀ (j : Nat) (c : AV), ds[j]? = some c → Rep w [] A' c (val j) := by
   intro id cs b r ds off m hl hm hs hf
   obtain ⟨_, _, arr, e, fr, hb, _, _, hc⟩ := hh.blk id cs b r hl hm hs
   obtain ⟨h1, h2⟩ := zyb6 hf
   refine ⟨fun j => (arr[b.off + (off + j)]?).getD default, zy0b hs _, by rw [add_block]; exact ht _ ⟨id, b, r, hm, rfl⟩, fun j c hj => ?_, fun j c hj => ?_⟩
   ·have hlt : j < ((cs.drop off).take m).length := by rw [← h1]; exact (List.getElem?_eq_some_iff.1 hj).1
    have hlt' : off + j < cs.length := by simp at hlt; omega
    obtain ⟨v, hv, _⟩ := hc (off + j) _ (List.getElem?_eq_getElem hlt')
    rw [zy0a hs]
    unfold World.cell?
    rw [add_block, hb]
    simp only [zy0b hs, Option.isSome_none, Bool.false_eq_true, if_false, add_off, hv, Option.getD_some]
   ·have hlt : j < ((cs.drop off).take m).length := by rw [← h1]; exact (List.getElem?_eq_some_iff.1 hj).1
    have hlt' : off + j < cs.length := by simp at hlt; omega
    obtain ⟨v, hv, hvr⟩ := hc (off + j) _ (List.getElem?_eq_getElem hlt')
    simp only [hv, Option.getD_some]
    refine ih _ _ _ (h2 j _ _ (List.getElem?_eq_getElem hlt) hj) ?_
    have : ((cs.drop off).take m)[j] = cs[off + j] := by simp
    rw [this]; exact hvr
  cases c with
  | bool b => simp only [zy5w, Option.some.injEq] at hf; subst hf; cases hr; exact .bool b
  | int kk n => simp only [zy5w, Option.some.injEq] at hf; subst hf; cases hr; exact .int kk n
  | str s => simp only [zy5w, Option.some.injEq] at hf; subst hf; cases hr; exact .str s
  | nilp => simp only [zy5w, Option.some.injEq] at hf; subst hf; cases hr; exact .nilp
  | nilf => simp only [zy5w, Option.some.injEq] at hf; subst hf; cases hr; exact .nilf
  | nili => simp only [zy5w, Option.some.injEq] at hf; subst hf; cases hr; exact .nili
  | undef => simp [zy5w] at hf
  | junk => simp [zy5w] at hf
  | yld => simp [zy5w] at hf
  | agg cs =>
   simp only [zy5w, Option.map_eq_some_iff] at hf
   obtain ⟨ds, hd, rfl⟩ := hf
   obtain ⟨vs, rfl, hv⟩ := hr.agg_inv
   exact .agg ds vs (rowOf hd hv).1 (rowOf hd hv).2
  | tup cs =>
   simp only [zy5w, Option.map_eq_some_iff] at hf
   obtain ⟨ds, hd, rfl⟩ := hf
   obtain ⟨vs, rfl, hv⟩ := hr.tup_inv
   exact .tup ds vs (rowOf hd hv).1 (rowOf hd hv).2
  | fn f cs =>
   simp only [zy5w, Option.map_eq_some_iff] at hf
   obtain ⟨ds, hd, rfl⟩ := hf
   have hlt := hr.fn_lt
   obtain ⟨vs, rfl, hv⟩ := hr.fn_inv
   exact .fn f ds vs hlt (rowOf hd hv).1 (rowOf hd hv).2
  | ifc t c =>
   simp only [zy5w, Option.map_eq_some_iff] at hf
   obtain ⟨d, hd, rfl⟩ := hf
   cases hr with
   | ifc _ _ v h => exact .ifc t d v (ih _ _ _ hd h)
  | ip cs =>
   simp only [zy5w, Option.map_eq_some_iff] at hf
   obtain ⟨ds, hd, rfl⟩ := hf
   obtain ⟨h1, h2⟩ := zyb6 hd
   cases hr with
   | ip _ a val g0 g1 g2 g3 =>
    have at_ : ∀ (j : Nat) (c : AV), ds[j]? = some c → ∃ x, cs[j]? = some x ∧ zy5w k h x = some c := fun j c hj => by
     have hl : j < cs.length := by rw [← h1]; exact (List.getElem?_eq_some_iff.1 hj).1
     exact ⟨_, List.getElem?_eq_getElem hl, h2 j _ _ (List.getElem?_eq_getElem hl) hj⟩
    refine .ip ds a val (fun hn => g0 (fun e => hn (by rw [e] at h1; exact List.length_eq_zero_iff.1 h1))) (fun hn => ha _ (g1 (fun e => hn (by rw [e] at h1; exact List.length_eq_zero_iff.1 h1)))) (fun j c hj => ?_) fun j c hj => ?_
    ·obtain ⟨x, hx, _⟩ := at_ j c hj; exact g2 j x hx
    ·obtain ⟨x, hx, hf⟩ := at_ j c hj; exact ih _ _ _ hf (g3 j x hx)
  | is n full cs =>
   simp only [zy5w, Option.map_eq_some_iff] at hf
   obtain ⟨ds, hd, rfl⟩ := hf
   obtain ⟨h1, h2⟩ := zyb6 hd
   cases hr with
   | nils f =>
    have : ds = [] := List.length_eq_zero_iff.1 (by rw [h1]; rfl)
    subst this
    exact .nils false
   | is _ _ _ a c val g0 g1 g2 g3 g4 g5 =>
    have at_ : ∀ (j : Nat) (c : AV), ds[j]? = some c → ∃ x, cs[j]? = some x ∧ zy5w k h x = some c := fun j c hj => by
     have hl : j < cs.length := by rw [← h1]; exact (List.getElem?_eq_some_iff.1 hj).1
     exact ⟨_, List.getElem?_eq_getElem hl, h2 j _ _ (List.getElem?_eq_getElem hl) hj⟩
    refine .is n false ds a c val (fun hn => g0 (fun e => hn (by rw [e] at h1; exact List.length_eq_zero_iff.1 h1))) (fun hn => ha _ (g1 (fun e => hn (by rw [e] at h1; exact List.length_eq_zero_iff.1 h1)))) (fun j c hj => ?_) (fun j c hj => ?_) g4 (fun e => by cases e)
    ·obtain ⟨x, hx, _⟩ := at_ j c hj; exact g2 j x hx
    ·obtain ⟨x, hx, hf⟩ := at_ j c hj; exact ih _ _ _ hf (g3 j x hx)
  | rp id off =>
   simp only [zy5w, Option.bind_eq_some_iff, Option.map_eq_some_iff] at hf
   obtain ⟨cs, hl, ds, hd, rfl⟩ := hf
   have hlv := hh.liv id
   rw [hl] at hlv
   cases hr with
   | rp _ _ x h0 h1 =>
    cases hm : μ[id]? with
    | none => rw [hm] at hlv; simp at hlv
    | some q =>
     cases q with
     | none => rw [hm] at hlv; simp at hlv
     | some br =>
      obtain ⟨b, r⟩ := br
      obtain ⟨hs, hx⟩ := h1 b r hm
      rw [hx]
      have hd' : ((cs.drop off).take (cs.drop off).length).mapM (zy5w k h) = some ds := by rw [List.take_length]; exact hd
      obtain ⟨val, q0, q1, q2, q3⟩ := blockOf hl hm hs hd'
      exact .ip ds (b.add off) val (fun _ => q0) (fun _ => q1) q2 q3
  | rs sz id off n =>
   simp only [zy5w, Option.bind_eq_some_iff] at hf
   obtain ⟨cs, hl, hf⟩ := hf
   split at hf
   case isFalse => cases hf
   simp only [Option.map_eq_some_iff] at hf
   obtain ⟨ds, hd, rfl⟩ := hf
   have hlv := hh.liv id
   rw [hl] at hlv
   cases hr with
   | rs _ _ _ _ x c h0 h1 h2 h3 =>
    cases hm : μ[id]? with
    | none => rw [hm] at hlv; simp at hlv
    | some q =>
     cases q with
     | none => rw [hm] at hlv; simp at hlv
     | some br =>
      obtain ⟨b, r⟩ := br
      obtain ⟨hs, hx, _⟩ := h2 b r hm
      obtain ⟨val, q0, q1, q2, q3⟩ := blockOf hl hm hs hd
      by_cases hc : c = 0
      ·have hn : n = 0 := by omega
       have hds : ds = [] := List.length_eq_zero_iff.1 (by rw [(zyb6 hd).1]; simp [hn])
       subst hds
       exact .is n false [] x c val (fun h => absurd rfl h) (fun h => absurd rfl h) (fun j c h => by simp at h) (fun j c h => by simp at h) h1 (fun e => by cases e)
      ·rw [hx hc]
       exact .is n false ds (b.add off) c val (fun _ => q0) (fun _ => q1) q2 q3 h1 (fun e => by cases e)
  | rc sz id off n k' =>
   simp only [zy5w, Option.bind_eq_some_iff] at hf
   obtain ⟨cs, hl, hf⟩ := hf
   split at hf
   case isFalse => cases hf
   simp only [Option.map_eq_some_iff] at hf
   obtain ⟨ds, hd, rfl⟩ := hf
   have hlv := hh.liv id
   rw [hl] at hlv
   cases hr with
   | rc _ _ _ _ _ x c h0 h1 h2 h3 h4 =>
    cases hm : μ[id]? with
    | none => rw [hm] at hlv; simp at hlv
    | some q =>
     cases q with
     | none => rw [hm] at hlv; simp at hlv
     | some br =>
      obtain ⟨b, r⟩ := br
      obtain ⟨hs, hx, _⟩ := h2 b r hm
      obtain ⟨val, q0, q1, q2, q3⟩ := blockOf hl hm hs hd
      by_cases hc : c = 0
      ·have hn : n = 0 := by omega
       have hds : ds = [] := List.length_eq_zero_iff.1 (by rw [(zyb6 hd).1]; simp [hn])
       subst hds
       exact .is n false [] x c val (fun h => absurd rfl h) (fun h => absurd rfl h) (fun j c h => by simp at h) (fun j c h => by simp at h) h1 (fun e => by cases e)
      ·rw [hx hc]
       exact .is n false ds (b.add off) c val (fun _ => q0) (fun _ => q1) q2 q3 h1 (fun e => by cases e)
  | nilm => simp only [zy5w, Option.some.injEq] at hf; subst hf; cases hr; exact .nilm
  | mpc es => simp [zy5w] at hf
  | im es =>
   simp only [zy5w, Option.map_eq_some_iff] at hf
   obtain ⟨ds, hd, rfl⟩ := hf
   obtain ⟨h1, h2⟩ := zyb6 hd
   cases hr with
   | im _ b ent ck g0 g1 g2 =>
    refine .im ds b ent ck (ha _ g0) (by rw [h1]; exact g1) fun j c hj => ?_
    have hl : j < es.length := by rw [← h1]; exact (List.getElem?_eq_some_iff.1 hj).1
    exact ih _ _ _ (h2 j _ _ (List.getElem?_eq_getElem hl) hj) (g2 j _ (List.getElem?_eq_getElem hl))
  | rm id =>
   simp only [zy5w, Option.bind_eq_some_iff] at hf
   obtain ⟨cs, hl, hf⟩ := hf
   have hlv := hh.liv id
   rw [hl] at hlv
   cases hr with
   | rm _ b h0 h1 =>
    cases hm : μ[id]? with
    | none => rw [hm] at hlv; simp at hlv
    | some q =>
     cases q with
     | none => rw [hm] at hlv; simp at hlv
     | some br =>
      obtain ⟨a, r⟩ := br
      have ea := h1 a r hm
      subst ea
      obtain ⟨es, ent, ck, rfl, _, hb, he⟩ := (hh.mp id cs _ r hl hm (by simp)).map rfl
      simp only [Option.map_eq_some_iff] at hf
      obtain ⟨ds, hd, rfl⟩ := hf
      obtain ⟨e1, e2⟩ := zyb6 hd
      refine .im ds b ent ck (ht _ ⟨id, _, r, hm, rfl⟩) (by rw [e1]; exact hb) fun j c hj => ?_
      have hjl : j < es.length := by rw [← e1]; exact (List.getElem?_eq_some_iff.1 hj).1
      exact ih _ _ _ (e2 j _ _ (List.getElem?_eq_getElem hjl) hj) (he j _ (List.getElem?_eq_getElem hjl))

theorem zy5z {w : World} {μ : Mu} {A : Nat → Prop} {h : Heap} : ∀ (k m : Nat) (c c' : AV) (v : Value), zyca m c = true → zy5w k h c = some c' → Rep w μ A c v → Rep w [] A c' v := by
 intro k
 induction k with
 | zero => intro m c c' v _ hf; cases hf
 | succ k ih =>
  intro m c c' v hn hf hr
  cases m with
  | zero => cases hn
  | succ m =>
  have rowOf : ∀ {cs ds : List AV} {vs : List Value}, cs.all (zyca m) = true → cs.mapM (zy5w k h) = some ds → RepL w μ A cs vs → RepL w [] A ds vs := by
   intro cs ds vs hn hm hr
   obtain ⟨h1, h2⟩ := zyb6 hm
   refine ⟨by rw [hr.1, h1], fun j c v hj hv => ?_⟩
   have hl : j < cs.length := by rw [← h1]; exact (List.getElem?_eq_some_iff.1 hj).1
   exact ih m _ _ _ (List.all_eq_true.1 hn _ (List.getElem_mem hl)) (h2 j _ _ (List.getElem?_eq_getElem hl) hj) (hr.2 j _ v (List.getElem?_eq_getElem hl) hv)
  cases c with
  | bool b => simp only [zy5w, Option.some.injEq] at hf; subst hf; cases hr; exact .bool b
  | int kk n => simp only [zy5w, Option.some.injEq] at hf; subst hf; cases hr; exact .int kk n
  | str s => simp only [zy5w, Option.some.injEq] at hf; subst hf; cases hr; exact .str s
  | nilp => simp only [zy5w, Option.some.injEq] at hf; subst hf; cases hr; exact .nilp
  | nilf => simp only [zy5w, Option.some.injEq] at hf; subst hf; cases hr; exact .nilf
  | nili => simp only [zy5w, Option.some.injEq] at hf; subst hf; cases hr; exact .nili
  | undef => simp [zy5w] at hf
  | junk => simp [zy5w] at hf
  | yld => simp [zy5w] at hf
  | agg cs =>
   simp only [zy5w, Option.map_eq_some_iff] at hf
   obtain ⟨ds, hd, rfl⟩ := hf
   obtain ⟨vs, rfl, hv⟩ := hr.agg_inv
   exact .agg ds vs (rowOf hn hd hv).1 (rowOf hn hd hv).2
  | tup cs =>
   simp only [zy5w, Option.map_eq_some_iff] at hf
   obtain ⟨ds, hd, rfl⟩ := hf
   obtain ⟨vs, rfl, hv⟩ := hr.tup_inv
   exact .tup ds vs (rowOf hn hd hv).1 (rowOf hn hd hv).2
  | fn f cs =>
   simp only [zy5w, Option.map_eq_some_iff] at hf
   obtain ⟨ds, hd, rfl⟩ := hf
   have hlt := hr.fn_lt
   obtain ⟨vs, rfl, hv⟩ := hr.fn_inv
   exact .fn f ds vs hlt (rowOf hn hd hv).1 (rowOf hn hd hv).2
  | ifc t c =>
   simp only [zy5w, Option.map_eq_some_iff] at hf
   obtain ⟨d, hd, rfl⟩ := hf
   cases hr with
   | ifc _ _ v h => exact .ifc t d v (ih m _ _ _ hn hd h)
  | ip cs =>
   simp only [zy5w, Option.map_eq_some_iff] at hf
   obtain ⟨ds, hd, rfl⟩ := hf
   obtain ⟨h1, h2⟩ := zyb6 hd
   cases hr with
   | ip _ a val g0 g1 g2 g3 =>
    have at_ : ∀ (j : Nat) (c : AV), ds[j]? = some c → ∃ x, cs[j]? = some x ∧ zyca m x = true ∧ zy5w k h x = some c := fun j c hj => by
     have hl : j < cs.length := by rw [← h1]; exact (List.getElem?_eq_some_iff.1 hj).1
     exact ⟨_, List.getElem?_eq_getElem hl, List.all_eq_true.1 hn _ (List.getElem_mem hl), h2 j _ _ (List.getElem?_eq_getElem hl) hj⟩
    refine .ip ds a val (fun hn => g0 (fun e => hn (by rw [e] at h1; exact List.length_eq_zero_iff.1 h1))) (fun hn => g1 (fun e => hn (by rw [e] at h1; exact List.length_eq_zero_iff.1 h1))) (fun j c hj => ?_) fun j c hj => ?_
    ·obtain ⟨x, hx, _⟩ := at_ j c hj; exact g2 j x hx
    ·obtain ⟨x, hx, hq, hf⟩ := at_ j c hj; exact ih m _ _ _ hq hf (g3 j x hx)
  | is n full cs =>
   simp only [zy5w, Option.map_eq_some_iff] at hf
   obtain ⟨ds, hd, rfl⟩ := hf
   obtain ⟨h1, h2⟩ := zyb6 hd
   cases hr with
   | nils f =>
    have : ds = [] := List.length_eq_zero_iff.1 (by rw [h1]; rfl)
    subst this
    exact .nils false
   | is _ _ _ a c val g0 g1 g2 g3 g4 g5 =>
    have at_ : ∀ (j : Nat) (c : AV), ds[j]? = some c → ∃ x, cs[j]? = some x ∧ zyca m x = true ∧ zy5w k h x = some c := fun j c hj => by
     have hl : j < cs.length := by rw [← h1]; exact (List.getElem?_eq_some_iff.1 hj).1
     exact ⟨_, List.getElem?_eq_getElem hl, List.all_eq_true.1 hn _ (List.getElem_mem hl), h2 j _ _ (List.getElem?_eq_getElem hl) hj⟩
    refine .is n false ds a c val (fun hn => g0 (fun e => hn (by rw [e] at h1; exact List.length_eq_zero_iff.1 h1))) (fun hn => g1 (fun e => hn (by rw [e] at h1; exact List.length_eq_zero_iff.1 h1))) (fun j c hj => ?_) (fun j c hj => ?_) g4 (fun e => by cases e)
    ·obtain ⟨x, hx, _⟩ := at_ j c hj; exact g2 j x hx
    ·obtain ⟨x, hx, hq, hf⟩ := at_ j c hj; exact ih m _ _ _ hq hf (g3 j x hx)
  | rp id off => cases hn
  | rs sz id off n => cases hn
  | rc sz id off n k => cases hn
  | rm id => cases hn
  | mpc es => cases hn
  | nilm => simp only [zy5w, Option.some.injEq] at hf; subst hf; cases hr; exact .nilm
  | im es =>
   simp only [zy5w, Option.map_eq_some_iff] at hf
   obtain ⟨ds, hd, rfl⟩ := hf
   obtain ⟨h1, h2⟩ := zyb6 hd
   cases hr with
   | im _ b ent ck g0 g1 g2 =>
    refine .im ds b ent ck g0 (by rw [h1]; exact g1) fun j c hj => ?_
    have hl : j < es.length := by rw [← h1]; exact (List.getElem?_eq_some_iff.1 hj).1
    exact ih m _ _ _ (List.all_eq_true.1 hn _ (List.getElem_mem hl)) (h2 j _ _ (List.getElem?_eq_getElem hl) hj) (g2 j _ (List.getElem?_eq_getElem hl))

theorem flat1 {w w' : World} {μ μ' : Mu} {A A' : Nat → Prop} {c : AV} {v : Value} (hc : (match c with | .bool _ | .int _ _ | .str _ | .nilp | .nilf | .nili => true | _ => false) = true) (h : Rep w μ A c v) : Rep w' μ' A' c v := by
 cases h <;> first | (constructor; done) | cases hc

theorem flatV_rep {w w' : World} {μ μ' : Mu} {A A' : Nat → Prop} {c : AV} {v : Value} (hc : flatV c = true) (h : Rep w μ A c v) : Rep w' μ' A' c v := by
 have two : ∀ {c : AV} {v : Value}, (match c with
   | .bool _ | .int _ _ | .str _ | .nilp | .nilf | .nili => true
   | .agg cs => cs.all fun
    | .bool _ | .int _ _ | .str _ | .nilp | .nilf | .nili => true
    | _ => false
   | _ => false) = true → Rep w μ A c v → Rep w' μ' A' c v := by
  intro c v hc h
  cases c with
  | agg cs =>
   obtain ⟨vs, rfl, hv⟩ := h.agg_inv
   refine .agg cs vs hv.1 fun j c v hj hv' => flat1 ?_ (hv.2 j c v hj hv')
   exact List.all_eq_true.1 hc c (List.mem_of_getElem? hj)
  | _ => first | exact flat1 rfl h | cases hc
 cases c with
 | agg cs =>
  obtain ⟨vs, rfl, hv⟩ := h.agg_inv
  exact .agg cs vs hv.1 fun j c v hj hv' => two (List.all_eq_true.1 hc c (List.mem_of_getElem? hj)) (hv.2 j c v hj hv')
 | tup cs =>
  obtain ⟨vs, rfl, hv⟩ := h.tup_inv
  exact .tup cs vs hv.1 fun j c v hj hv' => two (List.all_eq_true.1 hc c (List.mem_of_getElem? hj)) (hv.2 j c v hj hv')
 | _ => first | exact flat1 rfl h | cases hc

end Go.Proofs.YtiblnpnfaadmcaaGreat.Am
