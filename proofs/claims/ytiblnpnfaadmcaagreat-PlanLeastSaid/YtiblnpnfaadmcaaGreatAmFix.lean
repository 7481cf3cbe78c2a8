import Derived.Test.YtiblnpnfaadmcaaGreatAm
/- The abstract machine's calls without a bound on rounds: the limit, and how it unfolds. -/
set_option linter.unusedVariables false
set_option maxRecDepth 10000
namespace Go.Proofs.YtiblnpnfaadmcaaGreat.Am
open Go

def LeO {α : Type} (a b : Option α) : Prop := ∀ x, a = some x → b = some x

theorem LeO.refl {α : Type} (a : Option α) : LeO a a := fun _ h => h
theorem LeO.trans {α : Type} {a b c : Option α} (h : LeO a b) (k : LeO b c) : LeO a c := fun x hx => k x (h x hx)
theorem LeO.none {α : Type} (a : Option α) : LeO none a := fun _ h => by cases h
theorem LeO.bind {α β : Type} {a b : Option α} {f g : α → Option β} (h : LeO a b) (k : ∀ x, LeO (f x) (g x)) : LeO (a.bind f) (b.bind g) := by
 intro x hx
 cases a with
 | none => cases hx
 | some y => rw [h y rfl]; exact k y x hx
theorem LeO.map {α β : Type} {a b : Option α} {f : α → β} (h : LeO a b) : LeO (a.map f) (b.map f) := by
 intro x hx
 cases a with
 | none => cases hx
 | some y => rw [h y rfl]; exact hx

def OLe (C C' : Oracle) : Prop := ∀ f a h, LeO (C f a h) (C' f a h)
def ILe (It It' : Iter) : Prop := ∀ g g' s, (∀ s, LeO (g s) (g' s)) → LeO (It g s) (It' g' s)

theorem zy1p {C C' : Oracle} (hC : OLe C C') (h : Heap) (f : Nat) (args : List AV) : LeO (byVal C h f args) (byVal C' h f args) :=
 LeO.bind (LeO.refl _) fun as => LeO.bind (hC _ _ _) fun r => LeO.refl _

theorem zy2p {C C' : Oracle} (hC : OLe C C') (refm : Nat → Bool) (h : Heap) (fv : AV) (args : List AV) : LeO (zy2o C refm h fv args) (zy2o C' refm h fv args) := by
 unfold zy2o
 split
 ·rename_i f cap
  cases refm f
  ·exact LeO.map (zy1p hC _ _ _)
  ·exact hC _ _ _
 ·exact hC _ _ _
 ·exact LeO.refl _

theorem zygp {C C' : Oracle} (hC : OLe C C') (refm : Nat → Bool) (i : AI) (s : St) : LeO (stepA C refm i s) (stepA C' refm i s) := by
 unfold stepA
 split
 ·exact zy2p hC _ _ _ _
 ·exact LeO.refl _

theorem stepK_eq (C : Oracle) (refm : Nat → Bool) {R : Type} (i : AI) (s : St) (K : AV → Heap → Option R) : stepK C refm i s K = (stepA C refm i s).bind fun r => K r.1 r.2 := by
 obtain ⟨dst, op, g⟩ := i
 have key : ∀ (x : Option AV), (x.bind fun v => K v s.h) = (x.map fun v => (v, s.h)).bind fun r => K r.1 r.2 := fun x => by cases x <;> rfl
 have key2 : ∀ (x : Option Heap), (x.bind fun h => K .undef h) = (x.map fun h => (AV.undef, h)).bind fun r => K r.1 r.2 := fun x => by cases x <;> rfl
 cases op
 case call f args =>
  show zy2i C refm s.h (s.get f) (args.map s.get) K = (zy2o C refm s.h (s.get f) (args.map s.get)).bind _
  unfold zy2i zy2o
  split
  ·rename_i f cap _
   cases refm f
   ·exact key _
   ·rfl
  ·rfl
  ·rfl
 case store n a x => exact key2 _
 case bslc sz n z ps => exact key _
 case clr sz z x => exact key2 _
 case dfr f x => exact key _
 case mup L x k v => exact key2 _
 all_goals first | exact key _ | rfl

theorem zyef (s : St) (n : Nat) (v : AV) (h : s.t.getD n .junk = v) (hv : v ≠ .junk) : s.put (some n) v = s := by
 unfold St.put
 have : s.t.set n v = s.t := by
  apply List.ext_getElem?
  intro j
  rw [List.getElem?_set]
  split
  ·rename_i hj
   subst hj
   split
   ·rename_i hl
    rw [List.getElem?_eq_getElem hl]
    rw [List.getD_eq_getElem?_getD, List.getElem?_eq_getElem hl] at h
    simpa using h.symm
   ·rename_i hl
    rw [List.getElem?_eq_none (by omega)]
  ·rfl
 simp only [this]

theorem zyib {R : Type} (A B : St → Option R) : ∀ (g : List (Nat × Bool)) (s : St), zyia s g A B = match s.wanted g with
  | some true => A s
  | some false => B s
  | none => none
 | [], s => rfl
 | (n, b) :: l, s => by
  unfold zyia St.wanted zy6i
  split <;> rename_i heq
  ·rename_i c
   cases hc : (c == b)
   ·have : (!b) = c := by cases c <;> cases b <;> simp_all
    simp only [cond_false, this]
    rw [zyef s n _ heq (by simp)]
    cases zyga s l <;> rfl
   ·have : b = c := by cases c <;> cases b <;> simp_all
    simp only [cond_true, this]
    rw [zyef s n _ heq (by simp)]
    exact zyib A B l s
  ·rfl

theorem zy55 (C : Oracle) (refm : Nat → Bool) {R : Type} (i : AI) (l : List AI) (s : St) (K : St → Option R) : zy52 C refm (i :: l) s K = match s.wanted i.guard with
  | some true => (stepA C refm i s).bind fun r => zy52 C refm l ({ s with h := r.2 }.put i.dst r.1) K
  | some false => zy52 C refm l (s.put i.dst .undef) K
  | none => none := by
 show zyia s i.guard _ _ = _
 rw [zyib]
 split
 ·exact stepK_eq C refm i s _
 ·rfl
 ·rfl

theorem zy57 {C C' : Oracle} (hC : OLe C C') (refm : Nat → Bool) {R : Type} : ∀ (l : List AI) (s : St) (K K' : St → Option R), (∀ s, LeO (K s) (K' s)) → LeO (zy52 C refm l s K) (zy52 C' refm l s K')
 | [], s, K, K', hK => hK s
 | i :: l, s, K, K', hK => by
  rw [zy55, zy55]
  split
  ·exact LeO.bind (zygp hC refm i s) fun r => zy57 hC refm l _ K K' hK
  ·exact zy57 hC refm l _ K K' hK
  ·exact LeO.refl _

theorem ifP_mono {R : Type} {p : Prop} {A B : Option R} (h : LeO A B) : LeO (ifP p A) (ifP p B) := by
 unfold ifP
 by_cases hp : p
 ·simp only [if_pos hp]; exact h
 ·simp only [if_neg hp]; exact LeO.refl _
theorem ifP_bind {R Q : Type} {p : Prop} {A : Option R} {f : R → Option Q} : (ifP p A).bind f = ifP p (A.bind f) := by
 unfold ifP
 by_cases hp : p
 ·simp only [if_pos hp]
 ·simp only [if_neg hp]; rfl
theorem zy71 {R : Type} {p : Prop} {A : Option R} {r : R} (h : ifP p A = some r) : p ∧ A = some r := by
 unfold ifP at h
 by_cases hp : p
 ·simp only [if_pos hp] at h; exact ⟨hp, h⟩
 ·simp only [if_neg hp] at h; cases h
theorem ifP_yes {R : Type} {p : Prop} {A : Option R} (hp : p) : ifP p A = A := by
 unfold ifP; simp only [if_pos hp]

theorem sepK_mono {R : Type} {st ld : List AV} {A B : Option R} (h : LeO A B) : LeO (sepK st ld A) (sepK st ld B) := by
 unfold sepK
 cases sepL st ld
 ·exact LeO.refl _
 ·exact h
theorem zyfr {R : Type} {st ld : List AV} {A : Option R} {r : R} (h : sepK st ld A = some r) : sepL st ld = true ∧ A = some r := by
 unfold sepK at h
 cases hs : sepL st ld
 ·rw [hs] at h; cases h
 ·rw [hs] at h; exact ⟨rfl, h⟩
theorem sepK_yes {R : Type} {st ld : List AV} {A : Option R} (h : sepL st ld = true) : sepK st ld A = A := by unfold sepK; rw [h]; rfl
theorem sepK_bind {R Q : Type} {st ld : List AV} {A : Option R} {f : R → Option Q} : (sepK st ld A).bind f = sepK st ld (A.bind f) := by
 unfold sepK
 cases sepL st ld <;> rfl

theorem zyig {C C' : Oracle} (hC : OLe C C') {id : Nat} {rd rd' : List AV → Heap → Option Heap} (h : ∀ as h, LeO (rd as h) (rd' as h)) : OLe (withY C id rd) (withY C' id rd') := by
 intro f a hp
 unfold withY
 cases Nat.blt f yb
 ·simp only [cond_false]
  cases f == yb + id && hasY id hp
  ·exact LeO.refl _
  ·exact LeO.map (h _ _)
 ·exact hC _ _ _
theorem zyf4 {R : Type} {fv : AV} {g : Nat} {run run' : List AV → Heap → Option Heap} {h : Heap} {K K' : Heap → Option R} (hr : ∀ as h, LeO (run as h) (run' as h)) (hK : ∀ h, LeO (K h) (K' h)) : LeO (rfunK fv g run h K) (rfunK fv g run' h K') := by
 unfold rfunK
 split
 ·rename_i g' caps
  cases g' == g
  ·exact LeO.refl _
  ·exact LeO.bind (hr _ _) fun h => hK _
 ·exact LeO.refl _
theorem zyf3 {R Q : Type} {fv : AV} {g : Nat} {run : List AV → Heap → Option Heap} {h : Heap} {K : Heap → Option R} {f : R → Option Q} : (rfunK fv g run h K).bind f = rfunK fv g run h fun h => (K h).bind f := by
 unfold rfunK
 split
 ·rename_i g' caps
  cases g' == g
  ·rfl
  ·simp only [cond_true]
   rw [Option.bind_assoc]
 ·rfl
theorem zyf6 {R : Type} {fv : AV} {g : Nat} {run : List AV → Heap → Option Heap} {h : Heap} {K : Heap → Option R} {r : R} (hr : rfunK fv g run h K = some r) : ∃ caps h1, fv = .fn g caps ∧ run (.yld h.length :: caps) (h ++ [some []]) = some h1 ∧ K (h1.set h.length none) = some r := by
 unfold rfunK at hr
 split at hr
 ·rename_i g' caps
  cases hg : g' == g
  ·rw [hg] at hr; cases hr
  ·rw [hg] at hr
   simp only [cond_true, Option.bind_eq_some_iff] at hr
   obtain ⟨h1, e1, e2⟩ := hr
   obtain rfl : g' = g := by simpa using hg
   exact ⟨caps, h1, rfl, e1, e2⟩
 ·cases hr
theorem zyf5 {R : Type} {g : Nat} {caps : List AV} {run : List AV → Heap → Option Heap} {h h1 : Heap} {K : Heap → Option R} (hr : run (.yld h.length :: caps) (h ++ [some []]) = some h1) : rfunK (.fn g caps) g run h K = K (h1.set h.length none) := by
 unfold rfunK
 simp only [beq_self_eq_true, cond_true, hr, Option.bind_some]
theorem zybi {R : Type} {id : Nat} {f : St → Option R} {s : St} : midY id f .normal s = bif hasY id s.h then f s else none := rfl
theorem zybh {R : Type} {id : Nat} {f f' : St → Option R} (h : ∀ s, LeO (f s) (f' s)) {e : Ex} {s : St} : LeO (midY id f e s) (midY id f' e s) := by
 cases e
 ·rw [zybi, zybi]
  cases hasY id s.h
  ·exact LeO.refl _
  ·exact h s
 ·exact LeO.refl _
 ·exact LeO.refl _
theorem zy50 (refm : Nat → Bool) {It It' : Iter} (hI : ILe It It') : ∀ (c : AC) {C C' : Oracle} (hC : OLe C C') {R : Type} (s : St) (K K' : Ex → St → Option R), (∀ e s, LeO (K e s) (K' e s)) → LeO (evalC C refm It c s K) (evalC C' refm It' c s K') := by
 intro c
 induction c with
 | skip => intro C C' hC R s K K' hK; exact hK _ _
 | ops l => intro C C' hC R s K K' hK; exact zy57 hC refm l s _ _ (hK _)
 | sep l => intro C C' hC R s K K' hK; exact zy57 (fun _ _ _ => LeO.refl _) refm _ _ _ _ fun s => sepK_mono (hK _ s)
 | any live os => intro C C' hC R s K K' hK; exact ifP_mono (zy57 (fun _ _ _ => LeO.refl _) refm _ _ _ _ (hK _))
 | seq a b iha ihb =>
  intro C C' hC R s K K' hK
  unfold evalC
  refine iha hC _ _ _ fun e s' => ?_
  cases e
  ·exact ihb hC _ _ _ hK
  ·exact hK _ _
  ·exact hK _ _
 | cond c a b iha ihb =>
  intro C C' hC R s K K' hK
  unfold evalC condK
  split
  ·rename_i t ht
   cases t
   ·exact ihb hC _ _ _ hK
   ·exact iha hC _ _ _ hK
  ·exact LeO.refl _
 | block id a iha =>
  intro C C' hC R s K K' hK
  unfold evalC
  refine iha hC _ _ _ fun e s' => ?_
  cases e
  ·exact hK _ _
  ·simp only [zy1a]; cases (_ == id) <;> exact hK _ _
  ·exact hK _ _
 | loop live a iha =>
  intro C C' hC R s K K' hK
  unfold evalC
  refine LeO.bind (hI _ _ _ fun s => iha hC _ _ _ fun e s => LeO.refl _) fun r => hK _ _
 | exit id => intro C C' hC R s K K' hK; exact hK _ _
 | ret => intro C C' hC R s K K' hK; exact hK _ _
 | rfun f g nt gc ps asg body ihg iha ihb =>
  intro C C' hC R s K K' hK
  unfold evalC
  refine zyf4 (fun as h => ihg (zyig hC fun as h => ?_) _ _ _ fun _ _ => LeO.refl _) fun h => hK _ _
  cases as.length == ps.length
  ·exact LeO.refl _
  ·exact iha hC _ _ _ fun e s => zybh fun s => ihb hC _ _ _ fun _ _ => LeO.refl _
 | bad => intro C C' hC R s K K' hK; exact LeO.none _
theorem zy4z {C C' : Oracle} (hC : OLe C C') (refm : Nat → Bool) {It It' : Iter} (hI : ILe It It') (c : AC) {R : Type} (s : St) (K K' : Ex → St → Option R) (hK : ∀ e s, LeO (K e s) (K' e s)) : LeO (evalC C refm It c s K) (evalC C' refm It' c s K') := zy50 refm hI c hC s K K' hK

theorem zy8g : ∀ {n m : Nat}, n ≤ m → ILe (iter n) (iter m)
 | 0, _, _ => fun _ _ _ _ => LeO.none _
 | n + 1, 0, h => absurd h (by omega)
 | n + 1, m + 1, h => by
  intro g g' s hg
  unfold iter
  refine LeO.bind (hg s) fun r => ?_
  split
  ·exact zy8g (by omega) g g' _ hg
  ·exact LeO.refl _

theorem zyep {R : Type} (s : St) : ∀ (l : List ARes) (K : List AV → Option R), zyeo s l K = (zyen s l).bind K
 | [], K => rfl
 | .t n :: l, K => by
  show zyeo s l (fun vs => K (s.t.getD n .junk :: vs)) = _
  rw [zyep s l, zyen]
  show _ = ((some (s.t.getD n .junk)).bind fun v => (zyen s l).bind fun vs => some (v :: vs)).bind K
  cases zyen s l <;> rfl
 | .cell n ag :: l, K => by
  show ((zyd4 s.h ag (s.t.getD n .junk)).bind fun v => zyeo s l fun vs => K (v :: vs)) = _
  rw [zyen]
  show _ = ((zyd4 s.h ag (s.t.getD n .junk)).bind fun v => (zyen s l).bind fun vs => some (v :: vs)).bind K
  cases zyd4 s.h ag (s.t.getD n .junk) with
  | none => rfl
  | some v =>
   show zyeo s l (fun vs => K (v :: vs)) = ((zyen s l).bind fun vs => some (v :: vs)).bind K
   rw [zyep s l]
   cases zyen s l <;> rfl
theorem zyf0 {R : Type} (s : St) (l : List ARes) (K : AV → Option R) : zyez s l K = (results s l).bind K := by
 unfold zyez results
 rw [zyep]
 cases zyen s l with
 | none => rfl
 | some vs =>
  match vs with
  | [] => rfl
  | [v] => rfl
  | _ :: _ :: _ => rfl

theorem zy51 {C C' : Oracle} (hC : OLe C C') (refm : Nat → Bool) {It It' : Iter} (hI : ILe It It') (F : AFun) (args : List AV) (h : Heap) {R : Type} (K K' : AV → Heap → Option R) (hK : ∀ v h, LeO (K v h) (K' v h)) :
  LeO (evalF C refm It F args h K) (evalF C' refm It' F args h K') := by
 unfold evalF
 refine zy4z hC refm hI _ _ _ _ fun e s => ?_
 cases e
 ·simp only [finK, zyf0]; exact LeO.bind (LeO.refl _) fun v => hK _ _
 ·exact LeO.refl _
 ·simp only [finK, zyf0]; exact LeO.bind (LeO.refl _) fun v => hK _ _

theorem zy2k (G : Prog) : ∀ {n m : Nat}, n ≤ m → OLe (callK G n) (callK G m)
 | 0, _, _ => fun _ _ _ => LeO.none _
 | n + 1, 0, h => absurd h (by omega)
 | n + 1, m + 1, h => by
  intro f a hp
  unfold callK
  exact LeO.bind (LeO.refl _) fun F => zy51 (zy2k G (by omega)) _ (zy8g (by omega)) F a hp _ _ fun _ _ => LeO.refl _


open Classical in
noncomputable def lim {α : Type} (f : Nat → Option α) : Option α := if h : ∃ r, ∃ n, f n = some r then some (Classical.choose h) else none

def Mon {α : Type} (f : Nat → Option α) : Prop := ∀ n m, n ≤ m → LeO (f n) (f m)

theorem lim_iff {α : Type} {f : Nat → Option α} (hm : Mon f) (r : α) : lim f = some r ↔ ∃ n, f n = some r := by
 unfold lim
 constructor
 ·intro h
  split at h
  ·rename_i he
   obtain ⟨n, hn⟩ := Classical.choose_spec he
   cases h
   exact ⟨n, hn⟩
  ·cases h
 ·rintro ⟨n, hn⟩
  have he : ∃ r, ∃ n, f n = some r := ⟨r, n, hn⟩
  rw [dif_pos he]
  obtain ⟨m, hm'⟩ := Classical.choose_spec he
  have h1 := hm n (max n m) (Nat.le_max_left _ _) r hn
  have h2 := hm m (max n m) (Nat.le_max_right _ _) _ hm'
  rw [h1] at h2
  exact h2.symm

noncomputable def iterW : Iter := fun g s => lim fun n => iter n g s
noncomputable def callW (G : Prog) : Oracle := fun f a h => lim fun n => callK G n f a h

theorem iter_mon (g : St → Option (Ex × St)) (s : St) : Mon fun n => iter n g s := fun _ _ h => zy8g h g g s fun _ => LeO.refl _
theorem callK_mon (G : Prog) (f : Nat) (a : List AV) (h : Heap) : Mon fun n => callK G n f a h := fun _ _ hh => zy2k G hh f a h

theorem iterW_iff {g : St → Option (Ex × St)} {s : St} {r : Ex × St} : iterW g s = some r ↔ ∃ n, iter n g s = some r := lim_iff (iter_mon g s) r
theorem callW_iff {G : Prog} {f : Nat} {a : List AV} {h : Heap} {r : AV × Heap} : callW G f a h = some r ↔ ∃ n, callK G n f a h = some r := lim_iff (callK_mon G f a h) r

theorem iter_le_W (n : Nat) : ILe (iter n) iterW := by
 intro g g' s hg x hx
 exact iterW_iff.2 ⟨n, zy8g (Nat.le_refl n) g g' s hg x hx⟩
theorem zy2j (G : Prog) (n : Nat) : OLe (callK G n) (callW G) := fun _ _ _ x hx => callW_iff.2 ⟨n, hx⟩

theorem opt_eq {α : Type} {a b : Option α} (h : ∀ x, a = some x ↔ b = some x) : a = b := by
 cases a with
 | some x => exact ((h x).1 rfl).symm
 | none =>
  cases b with
  | none => rfl
  | some y => exact absurd ((h y).2 rfl) (by simp)

theorem zy8e (g : St → Option (Ex × St)) (s : St) : iterW g s = (g s).bind fun r => match r.1 with
  | .normal => iterW g r.2
  | e => some (e, r.2) := by
 refine opt_eq fun x => ?_
 rw [iterW_iff]
 constructor
 ·rintro ⟨n, hn⟩
  cases n with
  | zero => cases hn
  | succ n =>
   unfold iter at hn
   cases hg : g s with
   | none => rw [hg] at hn; cases hn
   | some r =>
    rw [hg] at hn
    obtain ⟨e, s'⟩ := r
    cases e
    ·exact iterW_iff.2 ⟨n, hn⟩
    ·exact hn
    ·exact hn
 ·intro h
  cases hg : g s with
  | none => rw [hg] at h; cases h
  | some r =>
   rw [hg] at h
   obtain ⟨e, s'⟩ := r
   cases e
   ·obtain ⟨n, hn⟩ := iterW_iff.1 h
    exact ⟨n + 1, by unfold iter; rw [hg]; exact hn⟩
   ·exact ⟨1, by unfold iter; rw [hg]; exact h⟩
   ·exact ⟨1, by unfold iter; rw [hg]; exact h⟩


section
variable (G : Prog)

theorem zygn {Cn : Nat → Oracle} {CW : Oracle} (hlim : ∀ f a h r, CW f a h = some r → ∃ n, Cn n f a h = some r) (refm : Nat → Bool) (i : AI) (s : St) (r : AV × Heap) (h : stepA CW refm i s = some r) : ∃ n, stepA (Cn n) refm i s = some r := by
 unfold stepA at h ⊢
 split at h
 ·rename_i f args ho
  unfold zy2o at h ⊢
  split at h
  ·rename_i g cap hf
   cases hr : refm g
   ·simp only [hr, cond_false] at h ⊢
    unfold byVal at h ⊢
    cases h1 : (List.map s.get args ++ cap).mapM (zy5v s.h) with
    | none => rw [h1] at h; cases h
    | some as =>
     rw [h1] at h
     simp only [Option.bind_some] at h ⊢
     cases h2 : CW g as [] with
     | none => rw [h2] at h; cases h
     | some q =>
      rw [h2] at h
      obtain ⟨n, hn⟩ := hlim _ _ _ _ h2
      exact ⟨n, by rw [hn]; exact h⟩
   ·simp only [hr, cond_true] at h ⊢
    exact hlim _ _ _ _ h
  ·exact hlim _ _ _ _ h
  ·cases h
 ·exact ⟨0, h⟩

theorem zy56 {Cn : Nat → Oracle} {CW : Oracle} (hmon : ∀ {n m}, n ≤ m → OLe (Cn n) (Cn m)) (hlim : ∀ f a h r, CW f a h = some r → ∃ n, Cn n f a h = some r) (refm : Nat → Bool) {R : Type} (K : St → Option R) (Kn : Nat → St → Option R) (hm : ∀ n m, n ≤ m → ∀ s, LeO (Kn n s) (Kn m s)) (hK : ∀ s r, K s = some r → ∃ n, Kn n s = some r) :
  ∀ (l : List AI) (s : St) (r : R), zy52 CW refm l s K = some r → ∃ n, zy52 (Cn n) refm l s (Kn n) = some r
 | [], s, r, h => hK s r h
 | i :: l, s, r, h => by
  rw [zy55] at h
  split at h
  ·rename_i hw
   cases h1 : stepA CW refm i s with
   | none => rw [h1] at h; cases h
   | some q =>
    rw [h1] at h
    obtain ⟨n1, e1⟩ := zygn hlim refm i s q h1
    obtain ⟨n2, e2⟩ := zy56 hmon hlim refm K Kn hm hK l _ r h
    refine ⟨max n1 n2, ?_⟩
    rw [zy55]
    simp only [hw]
    rw [zygp (hmon (Nat.le_max_left n1 n2)) refm i s q e1]
    exact zy57 (hmon (Nat.le_max_right n1 n2)) refm l _ _ _ (hm _ _ (Nat.le_max_right n1 n2)) r e2
  ·rename_i hw
   obtain ⟨n2, e2⟩ := zy56 hmon hlim refm K Kn hm hK l _ r h
   exact ⟨n2, by rw [zy55]; simp only [hw]; exact e2⟩
  ·cases h

theorem zy8f (gw : St → Option (Ex × St)) (gn : Nat → St → Option (Ex × St)) (hm : ∀ n m, n ≤ m → ∀ s, LeO (gn n s) (gn m s)) (hg : ∀ s r, gw s = some r → ∃ n, gn n s = some r) :
  ∀ (k : Nat) (s : St) (r : Ex × St), iter k gw s = some r → ∃ n, iter n (gn n) s = some r
 | 0, _, _, h => by cases h
 | k + 1, s, r, h => by
  unfold iter at h
  cases h1 : gw s with
  | none => rw [h1] at h; cases h
  | some q =>
   rw [h1] at h
   obtain ⟨n1, e1⟩ := hg s q h1
   obtain ⟨e, s'⟩ := q
   cases e
   ·obtain ⟨n2, e2⟩ := zy8f gw gn hm hg k s' r h
    refine ⟨max n1 n2 + 1, ?_⟩
    unfold iter
    rw [hm n1 (max n1 n2 + 1) (by omega) s _ e1]
    exact zy8g (by omega) (gn n2) _ s' (fun s => hm n2 (max n1 n2 + 1) (by omega) s) r e2
   ·refine ⟨n1 + 1, ?_⟩
    unfold iter
    rw [hm n1 (n1 + 1) (by omega) s _ e1]
    exact h
   ·refine ⟨n1 + 1, ?_⟩
    unfold iter
    rw [hm n1 (n1 + 1) (by omega) s _ e1]
    exact h

theorem zy54 (C : Oracle) (refm : Nat → Bool) {R Q : Type} (f : R → Option Q) : ∀ (l : List AI) (s : St) (K : St → Option R), (zy52 C refm l s K).bind f = zy52 C refm l s fun s => (K s).bind f
 | [], s, K => rfl
 | i :: l, s, K => by
  rw [zy55, zy55]
  split
  ·cases h : stepA C refm i s with
   | none => rfl
   | some r => exact zy54 C refm f l _ K
  ·exact zy54 C refm f l _ K
  ·rfl

theorem zy4y (refm : Nat → Bool) : ∀ (c : AC) {Cn : Nat → Oracle} {CW : Oracle} (hmon : ∀ {n m}, n ≤ m → OLe (Cn n) (Cn m)) (hlim : ∀ f a h r, CW f a h = some r → ∃ n, Cn n f a h = some r) {R : Type} (s : St) (K : Ex → St → Option R) (Kn : Nat → Ex → St → Option R), (∀ n m, n ≤ m → ∀ e s, LeO (Kn n e s) (Kn m e s)) → (∀ e s r, K e s = some r → ∃ n, Kn n e s = some r) →
  ∀ r, evalC CW refm iterW c s K = some r → ∃ n, evalC (Cn n) refm (iter n) c s (Kn n) = some r := by
 intro c
 induction c with
 | skip => intro Cn CW hmon hlim R s K Kn hm hK r h; exact hK _ _ r h
 | sep l =>
  intro Cn CW hmon hlim R s K Kn hm hK r h
  unfold evalC at h
  have e : ∀ K : St → Option R, zy52 noC refm l s K = (zy52 noC refm l s some).bind K := fun K => (zy54 noC refm K l s some).symm
  rw [e] at h
  cases h1 : zy52 noC refm l s some with
  | none => rw [h1] at h; cases h
  | some s1 =>
   rw [h1] at h
   obtain ⟨h2, h3⟩ := zyfr (A := K .normal s1) h
   obtain ⟨n, hn⟩ := hK .normal s1 r h3
   refine ⟨n, ?_⟩
   unfold evalC
   rw [e, h1]
   exact (sepK_yes h2).trans hn
 | any live os =>
  intro Cn CW hmon hlim R s K Kn hm hK r h
  unfold evalC at h
  obtain ⟨hp, h⟩ := zy71 h
  have e : ∀ K : St → Option R, zy52 noC refm (os.headD []) (kill live s) K = (zy52 noC refm (os.headD []) (kill live s) some).bind K := fun K => (zy54 noC refm K (os.headD []) (kill live s) some).symm
  rw [e] at h
  cases h1 : zy52 noC refm (os.headD []) (kill live s) some with
  | none => rw [h1] at h; cases h
  | some s1 =>
   rw [h1] at h
   obtain ⟨n, hn⟩ := hK .normal s1 r h
   refine ⟨n, ?_⟩
   unfold evalC
   rw [ifP_yes hp, e, h1]
   exact hn
 | ops l => intro Cn CW hmon hlim R s K Kn hm hK r h; exact zy56 hmon hlim refm _ _ (fun n m hnm s => hm n m hnm _ s) (fun s r => hK _ s r) l s r h
 | seq a b iha ihb =>
  intro Cn CW hmon hlim R s K Kn hm hK r h
  unfold evalC at h
  refine iha hmon hlim s _ (fun n => seqK (fun s' => evalC (Cn n) refm (iter n) b s' (Kn n)) (Kn n)) ?_ ?_ r h
  ·intro n m hnm e s
   cases e
   ·exact zy4z (hmon hnm) refm (zy8g hnm) b s _ _ (hm n m hnm)
   ·exact hm n m hnm _ _
   ·exact hm n m hnm _ _
  ·intro e s r hr
   cases e
   ·exact ihb hmon hlim s K Kn hm hK r hr
   ·exact hK _ _ _ hr
   ·exact hK _ _ _ hr
 | cond x a b iha ihb =>
  intro Cn CW hmon hlim R s K Kn hm hK r h
  unfold evalC condK at h
  split at h
  ·rename_i t ht
   cases t
   ·obtain ⟨n, hn⟩ := ihb hmon hlim s K Kn hm hK r h
    exact ⟨n, by unfold evalC condK; simp only [ht]; exact hn⟩
   ·obtain ⟨n, hn⟩ := iha hmon hlim s K Kn hm hK r h
    exact ⟨n, by unfold evalC condK; simp only [ht]; exact hn⟩
  ·cases h
 | block id a iha =>
  intro Cn CW hmon hlim R s K Kn hm hK r h
  unfold evalC at h
  refine iha hmon hlim s _ (fun n => zy1a id (Kn n)) ?_ ?_ r h
  ·intro n m hnm e s
   cases e
   ·exact hm n m hnm _ _
   ·simp only [zy1a]; cases (_ == id) <;> exact hm n m hnm _ _
   ·exact hm n m hnm _ _
  ·intro e s r hr
   cases e
   ·exact hK _ _ _ hr
   ·rename_i i; simp only [zy1a] at hr ⊢; cases hc : (i == id) <;> simp only [hc, cond_true, cond_false] at hr ⊢ <;> exact hK _ _ _ hr
   ·exact hK _ _ _ hr
 | loop live a iha =>
  intro Cn CW hmon hlim R s K Kn hm hK r h
  unfold evalC at h
  cases h1 : iterW (fun s => evalC CW refm iterW a s (zyf7 live)) (kill live s) with
  | none => rw [h1] at h; cases h
  | some q =>
   rw [h1] at h
   obtain ⟨k, hk⟩ := iterW_iff.1 h1
   obtain ⟨n1, e1⟩ := zy8f _ (fun n s => evalC (Cn n) refm (iter n) a s (zyf7 live)) (fun n m hnm s => zy4z (hmon hnm) refm (zy8g hnm) a s _ _ fun _ _ => LeO.refl _)
    (fun s r hr => iha hmon hlim s _ (fun _ => zyf7 live) (fun _ _ _ _ _ => LeO.refl _) (fun _ _ r hr => ⟨0, hr⟩) r hr) k _ q hk
   obtain ⟨n2, e2⟩ := hK _ _ r h
   refine ⟨max n1 n2, ?_⟩
   unfold evalC
   rw [zy8g (Nat.le_max_left n1 n2) _ _ _ (fun s => zy4z (hmon (Nat.le_max_left n1 n2)) refm (zy8g (Nat.le_max_left n1 n2)) a s _ _ fun _ _ => LeO.refl _) q e1]
   exact hm _ _ (Nat.le_max_right n1 n2) _ _ r e2
 | exit id => intro Cn CW hmon hlim R s K Kn hm hK r h; exact hK _ _ r h
 | ret => intro Cn CW hmon hlim R s K Kn hm hK r h; exact hK _ _ r h
 | rfun f g nt gc ps asg body ihg iha ihb =>
  intro Cn CW hmon hlim R s K Kn hm hK r h
  unfold evalC at h
  obtain ⟨caps, h1, e0, e1, e2⟩ := zyf6 h
  have mon1 : ∀ {n m}, n ≤ m → ∀ (as : List AV) (h : Heap), LeO (bif as.length == ps.length then evalC (Cn n) refm (iter n) asg ⟨setPs s.t ps as, h⟩ (midY s.h.length fun s' => evalC (Cn n) refm (iter n) body s' (endH s.h.length)) else none) (bif as.length == ps.length then evalC (Cn m) refm (iter m) asg ⟨setPs s.t ps as, h⟩ (midY s.h.length fun s' => evalC (Cn m) refm (iter m) body s' (endH s.h.length)) else none) := fun {n m} hnm as h => by
   cases as.length == ps.length
   ·exact LeO.refl _
   ·exact zy4z (hmon hnm) refm (zy8g hnm) _ _ _ _ fun e s => zybh fun s => zy4z (hmon hnm) refm (zy8g hnm) _ _ _ _ fun _ _ => LeO.refl _
  obtain ⟨n1, q1⟩ := ihg (Cn := fun n => withY (Cn n) s.h.length fun as h => bif as.length == ps.length then evalC (Cn n) refm (iter n) asg ⟨setPs s.t ps as, h⟩ (midY s.h.length fun s' => evalC (Cn n) refm (iter n) body s' (endH s.h.length)) else none)
   (fun {n m} hnm => zyig (hmon hnm) (mon1 hnm)) (fun f a hp r hr => by
    unfold withY at hr ⊢
    cases hb : Nat.blt f yb
    ·rw [hb] at hr
     simp only [cond_false] at hr ⊢
     cases hq : f == yb + s.h.length && hasY s.h.length hp
     ·rw [hq] at hr; cases hr
     ·rw [hq] at hr
      simp only [cond_true, Option.map_eq_some_iff] at hr ⊢
      obtain ⟨h2, hr, rfl⟩ := hr
      cases hl : a.length == ps.length
      ·rw [hl] at hr; cases hr
      ·rw [hl] at hr
       simp only [cond_true] at hr
       obtain ⟨n, hn⟩ := iha hmon hlim _ _ (fun n => midY s.h.length fun s' => evalC (Cn n) refm (iter n) body s' (endH s.h.length)) (fun n m hnm e s => zybh fun s => zy4z (hmon hnm) refm (zy8g hnm) _ _ _ _ fun _ _ => LeO.refl _) (fun e s2 r hr => by
        cases e
        ·rw [zybi] at hr
         simp only [zybi]
         cases hh : hasY s.h.length s2.h
         ·rw [hh] at hr; cases hr
         ·rw [hh] at hr
          simp only [cond_true] at hr ⊢
          exact ihb hmon hlim s2 (endH s.h.length) (fun _ => endH s.h.length) (fun _ _ _ _ _ => LeO.refl _) (fun _ _ r hr => ⟨0, hr⟩) r hr
        ·cases hr
        ·cases hr) _ hr
       exact ⟨n, h2, hn, rfl⟩
    ·rw [hb] at hr
     exact hlim _ _ _ _ hr) _ _ (fun _ => endR s.h.length) (fun _ _ _ _ _ => LeO.refl _) (fun _ _ r hr => ⟨0, hr⟩) _ e1
  obtain ⟨n2, q2⟩ := hK _ _ r e2
  refine ⟨max n1 n2, ?_⟩
  unfold evalC
  rw [e0, zyf5 (h1 := h1)]
  ·exact hm _ _ (Nat.le_max_right n1 n2) _ _ r q2
  ·exact zy4z (zyig (hmon (Nat.le_max_left n1 n2)) (mon1 (Nat.le_max_left n1 n2))) refm (zy8g (Nat.le_max_left n1 n2)) _ _ _ _ (fun _ _ => LeO.refl _) _ q1
 | bad => intro Cn CW hmon hlim R s K Kn hm hK r h; cases h

theorem zy4x (refm : Nat → Bool) (c : AC) {R : Type} (s : St) (K : Ex → St → Option R) (Kn : Nat → Ex → St → Option R) (hm : ∀ n m, n ≤ m → ∀ e s, LeO (Kn n e s) (Kn m e s)) (hK : ∀ e s r, K e s = some r → ∃ n, Kn n e s = some r)
  (r : R) (h : evalC (callW G) refm iterW c s K = some r) : ∃ n, evalC (callK G n) refm (iter n) c s (Kn n) = some r :=
 zy4y refm c (Cn := callK G) (fun h => zy2k G h) (fun _ _ _ _ h => callW_iff.1 h) s K Kn hm hK r h

theorem zy2q (f : Nat) (args : List AV) (h : Heap) : callW G f args h = (G.fn f).bind fun F => evalF (callW G) G.refm iterW F args h fun v h' => some (v, h') := by
 refine opt_eq fun x => ?_
 rw [callW_iff]
 constructor
 ·rintro ⟨n, hn⟩
  cases n with
  | zero => cases hn
  | succ n =>
   unfold callK at hn
   exact LeO.bind (LeO.refl _) (fun F => zy51 (zy2j G n) _ (iter_le_W n) F args h _ _ fun _ _ => LeO.refl _) x hn
 ·intro hx
  cases hF : G.fn f with
  | none => rw [hF] at hx; cases hx
  | some F =>
   rw [hF] at hx
   simp only [Option.bind_some] at hx
   unfold evalF at hx
   obtain ⟨n, hn⟩ := zy4x G G.refm F.code _ _ (fun _ => finK F fun v h' => some (v, h')) (fun _ _ _ _ _ => LeO.refl _) (fun _ _ r hr => ⟨0, hr⟩) x hx
   exact ⟨n + 1, by unfold callK; rw [hF]; exact hn⟩

end


theorem zy53 (C : Oracle) (refm : Nat → Bool) {R Q : Type} (f : R → Option Q) : ∀ (l : List AI) (s : St) (K : St → Option R), (zy52 C refm l s K).bind f = zy52 C refm l s fun s => (K s).bind f
 | [], s, K => rfl
 | i :: l, s, K => by
  rw [zy55, zy55]
  split
  ·cases h : stepA C refm i s with
   | none => rfl
   | some r => exact zy53 C refm f l _ K
  ·exact zy53 C refm f l _ K
  ·rfl

theorem zy4w (C : Oracle) (refm : Nat → Bool) (It : Iter) {Q : Type} : ∀ (c : AC) {R : Type} (f : R → Option Q) (s : St) (K : Ex → St → Option R), (evalC C refm It c s K).bind f = evalC C refm It c s fun e s => (K e s).bind f := by
 intro c
 induction c with
 | skip => intro R f s K; rfl
 | ops l => intro R f s K; exact zy53 C refm f l s _
 | sep l =>
  intro R f s K
  unfold evalC
  rw [zy53]
  congr 1
  funext s
  exact sepK_bind
 | any live os =>
  intro R f s K
  unfold evalC
  rw [ifP_bind, zy53]
 | seq a b iha ihb =>
  intro R f s K
  unfold evalC
  rw [iha]
  congr 1
  funext e s'
  cases e
  ·exact ihb f s' K
  ·rfl
  ·rfl
 | cond x a b iha ihb =>
  intro R f s K
  unfold evalC condK
  split
  ·rename_i t ht
   cases t
   ·exact ihb f s K
   ·exact iha f s K
  ·rfl
 | block id a iha =>
  intro R f s K
  unfold evalC
  rw [iha]
  congr 1
  funext e s'
  cases e
  ·rfl
  ·simp only [zy1a]; cases (_ == id) <;> rfl
  ·rfl
 | loop live a iha =>
  intro R f s K
  unfold evalC
  rw [Option.bind_assoc]
 | exit id => intro R f s K; rfl
 | ret => intro R f s K; rfl
 | rfun x g nt gc ps asg body ihg iha ihb => intro R f s K; exact zyf3
 | bad => intro R f s K; rfl

noncomputable def loopW {R : Type} (G : Prog) (live : List Nat) (a : AC) (s : St) (K : Ex → St → Option R) : Option R :=
 (iterW (fun s => evalC (callW G) G.refm iterW a s (zyf7 live)) s).bind fun r => K r.1 r.2

theorem loopW_eq {R : Type} (G : Prog) (live : List Nat) (a : AC) (s : St) (K : Ex → St → Option R) :
  loopW G live a s K = evalC (callW G) G.refm iterW a s (seqK (fun s' => loopW G live a (kill live s') K) K) := by
 unfold loopW
 conv => lhs; rw [zy8e]
 rw [Option.bind_assoc, zy4w]
 congr 1
 funext e s'
 cases e <;> rfl

noncomputable def ctxAt {R : Type} (G : Prog) : AC → List Bool → (Ex → St → Option R) → Option (List Nat × AC × (Ex → St → Option R))
 | .seq a b, false :: p, K => ctxAt G a p (seqK (fun s' => evalC (callW G) G.refm iterW b s' K) K)
 | .seq _ b, true :: p, K => ctxAt G b p K
 | .cond _ a _, false :: p, K => ctxAt G a p K
 | .cond _ _ b, true :: p, K => ctxAt G b p K
 | .block id a, false :: p, K => ctxAt G a p (zy1a id K)
 | .loop d a, [], K => some (d, a, K)
 | .loop d a, false :: p, K => ctxAt G a p (seqK (fun s' => loopW G d a (kill d s') K) K)
 | _, _, _ => none

noncomputable def zyao {R : Type} (G : Prog) (F : AFun) (p : List Bool) (Kf : AV → Heap → Option R) (s : St) : Option R :=
 match ctxAt G F.code p (finK F Kf) with
 | some c => loopW G c.1 c.2.1 s c.2.2
 | none => none

theorem zyar {R : Type} (G : Prog) (F : AFun) (p : List Bool) (Kf : AV → Heap → Option R) (s : St) : zyao G F p Kf s =
  match ctxAt G F.code p (finK F Kf) with
  | some c => evalC (callW G) G.refm iterW c.2.1 s (seqK (fun s' => loopW G c.1 c.2.1 (kill c.1 s') c.2.2) c.2.2)
  | none => none := by
 unfold zyao
 split
 ·exact loopW_eq G _ _ _ _
 ·rfl

def frame (nt : Nat) (l : List (Nat × AV)) : List AV := l.foldl (fun t p => t.set p.1 p.2) (List.replicate nt .junk)

theorem zy2r (G : Prog) (f : Nat) (args : List AV) (h : Heap) {F : AFun} (hF : G.fn f = some F) : callW G f args h = evalF (callW G) G.refm iterW F args h fun v h' => some (v, h') := by
 rw [zy2q, hF]; rfl

noncomputable def cv (G : Prog) (f : Nat) (args : List AV) : Option AV := (callW G f args []).bind fun r => zy5v r.2 r.1

theorem cv_eq (G : Prog) (f : Nat) (args : List AV) {F : AFun} (hF : G.fn f = some F) : cv G f args = evalF (callW G) G.refm iterW F args [] fun v h => zy5v h v := by
 unfold cv
 rw [zy2q, hF]
 unfold evalF
 simp only [Option.bind_some]
 rw [zy4w]
 congr 1
 funext e s
 cases e
 ·simp only [finK, zyf0]; rw [Option.bind_assoc]; rfl
 ·rfl
 ·simp only [finK, zyf0]; rw [Option.bind_assoc]; rfl

theorem zy1k (G : Prog) (h : Heap) (f : Nat) (args : List AV) : byVal (callW G) h f args = (args.mapM (zy5v h)).bind fun as => (cv G f as).bind fun v => if (args.all noRef || flatV v) = true then some v else none := by
 unfold byVal cv
 congr 1
 funext as
 rw [Option.bind_assoc]

noncomputable def zyas {R : Type} (C : Oracle) (refm : Nat → Bool) (live : List Nat) (a : AC) (s : St) (K : Ex → St → Option R) : Option R :=
 (iterW (fun s => evalC C refm iterW a s (zyf7 live)) s).bind fun r => K r.1 r.2
theorem loopWC_eq {R : Type} (C : Oracle) (refm : Nat → Bool) (live : List Nat) (a : AC) (s : St) (K : Ex → St → Option R) :
  zyas C refm live a s K = evalC C refm iterW a s (seqK (fun s' => zyas C refm live a (kill live s') K) K) := by
 unfold zyas
 conv => lhs; rw [zy8e]
 rw [Option.bind_assoc, zy4w]
 congr 1
 funext e s'
 cases e <;> rfl
noncomputable def zy3m {R : Type} (C : Oracle) (refm : Nat → Bool) : AC → List Bool → (Ex → St → Option R) → Option (List Nat × AC × (Ex → St → Option R))
 | .seq a b, false :: p, K => zy3m C refm a p (seqK (fun s' => evalC C refm iterW b s' K) K)
 | .seq _ b, true :: p, K => zy3m C refm b p K
 | .cond _ a _, false :: p, K => zy3m C refm a p K
 | .cond _ _ b, true :: p, K => zy3m C refm b p K
 | .block id a, false :: p, K => zy3m C refm a p (zy1a id K)
 | .loop d a, [], K => some (d, a, K)
 | .loop d a, false :: p, K => zy3m C refm a p (seqK (fun s' => zyas C refm d a (kill d s') K) K)
 | _, _, _ => none
noncomputable def zyap {R : Type} (C : Oracle) (refm : Nat → Bool) (c : AC) (p : List Bool) (Kf : Ex → St → Option R) (s : St) : Option R :=
 match zy3m C refm c p Kf with
 | some c => zyas C refm c.1 c.2.1 s c.2.2
 | none => none
theorem zyaq {R : Type} (C : Oracle) (refm : Nat → Bool) (c : AC) (p : List Bool) (Kf : Ex → St → Option R) (s : St) : zyap C refm c p Kf s =
  match zy3m C refm c p Kf with
  | some c => evalC C refm iterW c.2.1 s (seqK (fun s' => zyas C refm c.1 c.2.1 (kill c.1 s') c.2.2) c.2.2)
  | none => none := by
 unfold zyap
 split
 ·exact loopWC_eq C refm _ _ _ _
 ·rfl
def AC.part : List Bool → AC → AC
 | [], c => c
 | false :: p, .seq a _ => a.part p
 | true :: p, .seq _ b => b.part p
 | false :: p, .cond _ a _ => a.part p
 | true :: p, .cond _ _ b => b.part p
 | false :: p, .block _ a => a.part p
 | false :: p, .loop _ a => a.part p
 | _, _ => .bad
def AC.rgc : AC → AC
 | .rfun _ _ _ gc _ _ _ => gc
 | _ => .bad
def AC.rasg : AC → AC
 | .rfun _ _ _ _ _ a _ => a
 | _ => .bad
def AC.rbody : AC → AC
 | .rfun _ _ _ _ _ _ b => b
 | _ => .bad
theorem zy2n {R : Type} {C : Oracle} {refm : Nat → Bool} {id : Nat} {rd : List AV → Heap → Option Heap} {h h' : Heap} {args : List AV} {K : AV → Heap → Option R} (hy : hasY id h = true) (hr : rd args h = some h') : zy2i (withY C id rd) refm h (.yld id) args K = K (.bool true) h' := by
 show ((withY C id rd) (yb + id) args h).bind _ = _
 unfold withY
 have hb : Nat.blt (yb + id) yb = false := by
  cases hb : Nat.blt (yb + id) yb
  ·rfl
  ·rw [Nat.blt_eq] at hb; omega
 rw [hb, hy, beq_self_eq_true]
 simp only [cond_false, Bool.and_self, cond_true, hr, Option.map_some, Option.bind_some]

end Go.Proofs.YtiblnpnfaadmcaaGreat.Am
