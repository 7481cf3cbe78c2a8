import Derived.Test.YtojfiboeghonoaaGreatAmLoc5
import Derived.Test.YtojfiboeghonoaaGreatAmCons
/- Where points lie in a mesh: what a function is at a point. -/
set_option linter.unusedVariables false
set_option maxRecDepth 10000
set_option linter.unusedSimpArgs false
namespace Go.Proofs.YtojfiboeghonoaaGreat.Am
open Go

def rcs (us : List Rat) : List AV := (us.map rt).flatMap rtc
def uat (us : List Rat) (i : Int) : Rat := us.getD i.toNat 0
theorem rcs_at {us : List Rat} {i : Int} (hi : i.toNat < us.length) : (rcs us).drop (i.toNat * 3) = .bool (decide ((uat us i).num < 0)) :: str (nb (uat us i).num.natAbs) :: str (nb (uat us i).den) :: rcs (us.drop (i.toNat + 1)) := by
  have hm : i.toNat < (us.map rt).length := by rw [List.length_map]; exact hi
  have e : us.getD i.toNat 0 = us[i.toNat] := by simp [List.getD, List.getElem?_eq_getElem hi]
  unfold rcs uat
  rw [drop_flatMap rtc_len, List.drop_eq_getElem_cons hm, List.flatMap_cons, e, List.getElem_map, List.map_drop]
  rfl
abbrev rcl (q : Rat) : List AV := [.bool (decide (q.num < 0)), str (nb q.num.natAbs), str (nb q.den)]
theorem rcl_rd {q : Rat} : readCells (rcl q) (some 3) = some (ra q) := Eq.trans rfl rfl
def UsZ (us : List Rat) (n : Nat) : Prop := ∀ r ∈ us, Rz r n
theorem UsZ.x {us : List Rat} {n : Nat} {i : Int} (h : UsZ us n) (hi : i.toNat < us.length) : Rz (uat us i) n := by
  have e : us.getD i.toNat 0 = us[i.toNat] := by simp [List.getD, List.getElem?_eq_getElem hi]
  unfold uat
  rw [e]
  exact h _ (List.getElem_mem hi)
def shQ (q : Mq) (us : List Rat) (i : Nat) (x y : Rat) (k : Nat) : Rat :=
  area x y (ipx q.ps (co (tat q.ts i) ((k + 1) % 3))) (ipy q.ps (co (tat q.ts i) ((k + 1) % 3))) (ipx q.ps (co (tat q.ts i) ((k + 2) % 3))) (ipy q.ps (co (tat q.ts i) ((k + 2) % 3))) / areaT q.ps (tat q.ts i) * uat us (co (tat q.ts i) k)
def valQ (q : Mq) (us : List Rat) (i : Nat) (x y : Rat) : Rat := 0 + shQ q us i x y 0 + shQ q us i x y 1 + shQ q us i x y 2
theorem rm3b {k : Nat} : opBin .rem (.int .i64 ((k + 2 : Nat) : Int)) (.int .i64 3) = some (.int .i64 (((k + 2) % 3 : Nat) : Int)) := by
  rw [int_rem (by omega) (by omega)]; rfl
theorem ad2k {k : Nat} (hk : k < 3) : opBin .add (.int .i64 (k : Int)) (.int .i64 2) = some (.int .i64 ((k + 2 : Nat) : Int)) := by
  rw [int_add (by omega) (by omega)]; rfl
section
variable {q : Mq} {i : Nat} {x y : Rat} {us : List Rat} {h : Heap}
theorem area_ne (hq : q.ok) (hi : i < q.ts.length) : areaT q.ps (tat q.ts i) ≠ 0 := fun e => by
  obtain ⟨_, hA⟩ := hq.tr i hi
  rw [e] at hA
  exact absurd hA (by decide)
theorem area_sz (hq : q.ok) (hi : i < q.ts.length) : Rz (areaT q.ps (tat q.ts i)) 325 := by
  obtain ⟨⟨⟨a0, a1⟩, ⟨b0, b1⟩, ⟨c0, c1⟩⟩, _⟩ := hq.tr i hi
  have hz := hq.zp
  have za := hz.x (i := (tat q.ts i).1.toNat) (by omega)
  have zb := hz.x (i := (tat q.ts i).2.1.toNat) (by omega)
  have zc := hz.x (i := (tat q.ts i).2.2.toNat) (by omega)
  exact Rz.area za.1 za.2 zb.1 zb.2 zc.1 zc.2
theorem sh_sz (hq : q.ok) (hx : Rz x 40) (hy : Rz y 40) (hi : i < q.ts.length) {k : Nat} (hk : k < 3) (hu : us.length = q.ps.length) (hus : UsZ us 300) : Rz (shQ q us i x y k) 950 := by
  have hz := hq.zp
  obtain ⟨b0, b1⟩ := in_co hq hi (k := (k + 1) % 3) (by omega)
  obtain ⟨c0, c1⟩ := in_co hq hi (k := (k + 2) % 3) (by omega)
  obtain ⟨a0, a1⟩ := in_co hq hi hk
  have zb := hz.x (i := (co (tat q.ts i) ((k + 1) % 3)).toNat) (by omega)
  have zc := hz.x (i := (co (tat q.ts i) ((k + 2) % 3)).toNat) (by omega)
  have zu := hus.x (i := co (tat q.ts i) k) (by omega)
  exact (((Rz.area hx hy zb.1 zb.2 zc.1 zc.2).div (area_sz hq hi)).mul zu).mono (by omega)
set_option maxHeartbeats 16000000 in
theorem lval_step (hq : q.ok) (hx : Rz x 40) (hy : Rz y 40) (hi : i < q.ts.length) {k : Nat} (hk : k < 3) (hu : us.length = q.ps.length) (hus : UsZ us 300) {f : Bool} {y6 : AV} {H : Heap} {tid wid sid : Nat} {s : Rat} (hs : Rz s 7000)
    (h0 : live H 0 = some (msc q.ms)) (h1 : live H 1 = some (ptc (pc (x, y)))) (ht : live H tid = some (tc (tat q.ts i))) (hw : live H wid = some (rcl (areaT q.ps (tat q.ts i)))) (hsv : live H sid = some (rcl s)) (n0 : sid ≠ 0) (n1 : sid ≠ 1) (nt : sid ≠ tid) (nw : sid ≠ wid) {z : List AV} (h2 : live H 2 = some z) (n2 : sid ≠ 2) {RR : Option AV}
    (hR : ∀ H', live H' 0 = some (msc q.ms) → live H' 1 = some (ptc (pc (x, y))) → live H' 2 = some z → live H' tid = some (tc (tat q.ts i)) → live H' wid = some (rcl (areaT q.ps (tat q.ts i))) → live H' sid = some (rcl (s + shQ q us i x y k)) →
      zf0m.l1 (.is us.length f (rcs us)) (.rp 0 0) (.rp 1 0) y6 (.rp tid 0) (.rp wid 0) (.rp sid 0) (.int .i64 ((k + 1 : Nat) : Int)) H' = RR) :
    zf0m.l1 (.is us.length f (rcs us)) (.rp 0 0) (.rp 1 0) y6 (.rp tid 0) (.rp wid 0) (.rp sid 0) (.int .i64 (k : Int)) H = RR := by
  have fa : ∀ k id off, opFaddr k (.rp id off) = some (.rp id (off + k)) := fun _ _ _ => rfl
  have m1 := hq.n1
  have m2 := hq.n2
  have hz := hq.zp
  have lk : opBin .lss (.int .i64 (k : Int)) (.int .i64 3) = some (.bool true) := lssT (by omega)
  have ax := fun o => aixR (sz := 1) (id := tid) (o := o) hk
  have ay := fun o => aixR (sz := 1) (n := 3) (id := tid) (o := o) (i := (k + 1) % 3) (by omega)
  have az := fun o => aixR (sz := 1) (n := 3) (id := tid) (o := o) (i := (k + 2) % 3) (by omega)
  have e1 := cor_co (t := tat q.ts i) hk
  have e2 := cor_co (t := tat q.ts i) (k := (k + 1) % 3) (by omega)
  have e3 := cor_co (t := tat q.ts i) (k := (k + 2) % 3) (by omega)
  have ia := in_co hq hi hk
  have ib := in_co hq hi (k := (k + 1) % 3) (by omega)
  have ic := in_co hq hi (k := (k + 2) % 3) (by omega)
  have wz := area_sz hq hi
  have wn := area_ne hq hi
  have hsh := sh_sz hq hx hy hi hk hu hus
  have a2 := ad2k hk
  have r6 : readCells (ptc (pc (x, y))) (some 6) = some (pa x y) := Eq.trans rfl rfl
  have gt : ∀ X, live (H ++ [X]) tid = some (tc (tat q.ts i)) := fun X => live_app_old ht
  have gt2 : ∀ X Y, live (H ++ [X] ++ [Y]) tid = some (tc (tat q.ts i)) := fun X Y => live_app_old (gt X)
  have gw : ∀ X, live (H ++ [X]) wid = some (rcl (areaT q.ps (tat q.ts i))) := fun X => live_app_old hw
  have gs : ∀ X Y, live (H ++ [X] ++ [Y]) sid = some (rcl s) := fun X Y => live_app_old (live_app_old hsv)
  have shd : shQ q us i x y k = area x y (ipx q.ps (co (tat q.ts i) ((k + 1) % 3))) (ipy q.ps (co (tat q.ts i) ((k + 1) % 3))) (ipx q.ps (co (tat q.ts i) ((k + 2) % 3))) (ipy q.ps (co (tat q.ts i) ((k + 2) % 3))) / areaT q.ps (tat q.ts i) * uat us (co (tat q.ts i) k) := rfl
  rw [shd] at hsh hR
  generalize areaT q.ps (tat q.ts i) = W at *
  generalize co (tat q.ts i) k = a at *
  generalize co (tat q.ts i) ((k + 1) % 3) = b at *
  generalize co (tat q.ts i) ((k + 2) % 3) = c at *
  obtain ⟨a0, a1⟩ := ia
  obtain ⟨b0, b1⟩ := ib
  obtain ⟨c0, c1⟩ := ic
  have eb := pcs_at (ps := q.ps) (i := b.toNat) (by omega)
  have ec := pcs_at (ps := q.ps) (i := c.toNat) (by omega)
  have ea := rcs_at (us := us) (i := a) (by omega)
  have zu := hus.x (i := a) (by omega)
  have zb := hz.x (i := b.toNat) (by omega)
  have zc := hz.x (i := c.toNat) (by omega)
  have kc := fun h => k_carea (h := h) (hx.mono (by omega)) (hy.mono (by omega)) (zb.1.mono (by omega)) (zb.2.mono (by omega)) (zc.1.mono (by omega)) (zc.2.mono (by omega))
  have az' := Rz.area hx hy zb.1 zb.2 zc.1 zc.2
  have sa := sidx_is (sz := 3) (n := us.length) (f := f) (cs := rcs us) (k := .i64) (z := a) a0 (by omega)
  have sb := sidx_is (sz := 6) (n := q.ps.length) (f := false) (cs := pcs q.ps) (k := .i64) (z := b) b0 b1
  have sc := sidx_is (sz := 6) (n := q.ps.length) (f := false) (cs := pcs q.ps) (k := .i64) (z := c) c0 c1
  have kc : ∀ h, byVal (callW gp) h fid.zf1b _ = some (.tup [ra (area x y (ipx q.ps b) (ipy q.ps b) (ipx q.ps c) (ipy q.ps c)), .int .i64 0]) := kc
  have az'' : Rz (area x y (ipx q.ps b) (ipy q.ps b) (ipx q.ps c) (ipy q.ps c)) 325 := az'
  generalize area x y (ipx q.ps b) (ipy q.ps b) (ipx q.ps c) (ipy q.ps c) = P at *
  have dz : Rz (P / W) 650 := (az''.div wz).mono (by omega)
  have kd := fun h => k_rdiv (h := h) (az''.mono (by omega)) (wz.mono (by omega)) wn
  have km := fun h => k_rmul (h := h) (dz.mono (by omega)) (zu.mono (by omega))
  have ks := fun h => k_radd (h := h) (hs.mono (by omega)) (hsh.mono (by omega))
  have st := fun (h : Heap) (w : Rat) => st_app3 (h := h) (z := [.bool false, .str ⟨#[]⟩, .str ⟨#[]⟩]) (v := rcl w) (n := 3) rfl ⟨rfl, rfl⟩
  have hR := hR ((H ++ [some (rcl P)] ++ [some (rcl (P / W * uat us a))]).set sid (some (rcl (s + P / W * uat us a))))
    (by rw [live_set_ne n0]; exact live_app_old (live_app_old h0)) (by rw [live_set_ne n1]; exact live_app_old (live_app_old h1)) (by rw [live_set_ne n2]; exact live_app_old (live_app_old h2)) (by rw [live_set_ne nt]; exact gt2 _ _) (by rw [live_set_ne nw]; exact live_app_old (gw _)) (live_set_self (gs _ _))
  rw [zf0m.l1_eq]
  simp (disch := first | exact dD | fail) only [Wd, W2d, W3d, Nat.reduceAdd, Nat.reduceMul, Nat.reduceSub, fa, lk, h0, h1, r6, mq_0, rm3, rm3b, a2, ht, gt, gt2, gw, gs, hsv, ax, ay, az, e1, e2, e3, sa, sb, sc, ea, eb, ec, kc, st, rcl_rd, kd, km, ks, live_app_self, set_app_self]
  exact hR
end
end Go.Proofs.YtojfiboeghonoaaGreat.Am
