import Derived.Test.YtiblnpnfaadmcaaGreatAm
import Derived.Still
/- From the program's code to the abstract machine's. -/
set_option linter.unusedVariables false
set_option maxRecDepth 10000
namespace Go.Proofs.YtiblnpnfaadmcaaGreat.Am
open Go

section
variable [Gl] (P : Program)

def ofS : Value → Option AV
 | .bool b => some (.bool b)
 | .int k n => some (.int k n)
 | .string s => some (.str s)
 | .pointer none => some .nilp
 | .slice none 0 0 => some (.is 0 true [])
 | .map none => some .nilm
 | .nilFunc => some .nilf
 | .nilIface => some .nili
 | _ => none

def ofV : Value → Option AV
 | .agg cs => (cs.toList.mapM ofS).map .agg
 | v => ofS v

def opd : Operand → Option Opd
 | .tmp t => some (.t t)
 | .const v => (ofV v).map .c
 | .func f => bif Nat.blt f yb then some (.c (.fn f [])) else none
 | .global g => if (Gl.cells g).isEmpty = true then none else some (.c (.ip (Gl.cells g)))

def opdO : Option Operand → Option (Option Opd)
 | none => some none
 | some x => (opd x).map some

def zy82 (t : TypeId) : Bool :=
 match P.underlying t with
 | some (.struct _) | some (.array _ _) => true
 | _ => false

def sizeT (t : TypeId) : Option Nat := (P.info? t).map (·.size)

def agT (t : TypeId) : Option (Option Nat) :=
 match P.underlying t, P.info? t with
 | some _, some i => some (bif zy82 P t then some i.size else none)
 | _, _ => none

def zeroT (t : TypeId) : Option (List AV) := (P.info? t).bind fun i => i.zero.bind fun v => (v.cells.toList.mapM ofS)

def elemT (t : TypeId) : Option TypeId :=
 match P.underlying t with
 | some (.slice e) => some e
 | _ => none

def rowT (t : TypeId) : Option (TypeId × Nat × List AV) :=
 (elemT P t).bind fun e => (P.info? e).bind fun i => (zeroT P e).bind fun z => if i.size ≠ 0 ∧ i.bytes ≤ 16384 ∧ z.length = i.size then some (e, i.size, z) else none

def zy5d (s : TypeId) (f : Nat) : Option Field :=
 match P.underlying s with
 | some (.struct fs) => fs[f]?
 | _ => none

def isU8 (t : TypeId) : Bool :=
 match P.underlying t with
 | some (.int .u8) => true
 | _ => false

def zy1j (b : Builtin) (args : Array Operand) (ts : Array TypeId) : Option AOp :=
 match b with
 | .len => (args[0]?).bind fun x => (ts[0]?).bind fun t =>
  match P.underlying t with
  | some .string => (opd x).map (.len true)
  | some (.slice _) => (opd x).map (.len false)
  | some (.array n _) => some (.alen n)
  | some (.map _ _) => (opd x).map .mlen
  | _ => none
 | .append => (args[0]?).bind fun x => (args[1]?).bind fun y => (ts[0]?).bind fun t => (ts[1]?).bind fun u => (rowT P t).bind fun r => (opd x).bind fun x => (opd y).bind fun y =>
  match P.underlying u with
  | some (.slice _) | some .string => some (.app r.2.1 x y)
  | some (.int _) => some (.appm r.2.1 r.2.2 x y)
  | _ => none
 | .min => (args.toList.mapM opd).map (.mm false)
 | .max => (args.toList.mapM opd).map (.mm true)
 | .cap => (args[0]?).bind fun x => (ts[0]?).bind fun t =>
  match P.underlying t with
  | some (.slice _) => (opd x).map .cap
  | _ => none
 | .clear => (args[0]?).bind fun x => (ts[0]?).bind fun t => (rowT P t).bind fun r => (opd x).map (.clr r.2.1 r.2.2)
 | _ => none

def zy2g (f : Operand) (args : Array Operand) : Option AOp :=
 (args.toList.mapM opd).bind fun as =>
  match f with
  | .func g =>
   match P.funcs[g]? with
   | some fn =>
    match fn.body with
    | some _ => bif Nat.blt g yb then some (.call (.c (.fn g [])) as) else none
    | none =>
     if fn.origin = "" then
      if fn.name = "math/bits.Add64" then match as with | [x, y, c] => some (.add64 x y c) | _ => none
      else if fn.name = "math/bits.Sub64" then match as with | [x, y, c] => some (.sub64 x y c) | _ => none
      else none
     else none
   | none => none
  | f => (opd f).map fun f => .call f as

def leafsF (g : TypeId → Option (List LK)) : List Field → Nat → Option (List LK)
 | [], _ => some []
 | f :: fs, off => if f.name = "_" ∨ f.offset ≠ off then none else (g f.type).bind fun L =>
   if sizeT P f.type = some L.length ∧ (agT P f.type).isSome = true ∧ L.length ≠ 0 then (leafsF g fs (off + L.length)).map (L ++ ·) else none

def leafs : Nat → TypeId → Option (List LK)
 | 0, _ => none
 | k + 1, t =>
  match P.underlying t with
  | some .bool => some [.b]
  | some (.int _) => some [.i]
  | some .string => some [.s]
  | some (.struct fs) => if P.stoodInHeld t then none else leafsF P (leafs k) fs.toList 0
  | some (.array n e) => (leafs k e).bind fun L => if sizeT P e = some L.length ∧ (agT P e).isSome = true ∧ L.length ≠ 0 then some (List.replicate n L).flatten else none
  | _ => none

def keyT (t : TypeId) : Option (List LK) :=
 match P.underlying t with
 | some (.int _) => some [.i]
 | some (.array 2 e) =>
  match P.underlying e with
  | some (.int _) => if sizeT P e = some 1 ∧ (agT P e).isSome = true then some [.i, .i] else none
  | _ => none
 | _ => none

def mapT (t : TypeId) : Option (List LK × AV) :=
 match P.underlying t with
 | some (.map k e) => (keyT P k).bind fun L => (P.info? e).bind fun i => i.zero.bind fun v => (ofV v).map fun z => (L, z)
 | _ => none

def zyc4 (neq : Bool) (x y : Opd) : Option AOp :=
 match y with
 | .c (.is 0 true []) => some (.nilq neq x)
 | _ => none

def binAt (op : BinOp) (t : TypeId) (x y : Opd) : Option AOp :=
 match op with
 | .eql | .neq =>
  match P.underlying t with
  | some .bool => some (.beq (op == .neq) x y)
  | some (.int _) | some .string => some (.bin op x y)
  | some (.struct _) => if P.eqGuardType P.depth t then none else (leafs P 8 t).map fun L => .eqa (op == .neq) L x y
  | some (.array _ _) => if P.eqGuardType P.depth t then none else (leafs P 8 t).map fun L => .eqa (op == .neq) L x y
  | some (.slice _) => zyc4 (op == .neq) x y
  | _ => none
 | op => some (.bin op x y)

def AOp.isCall : AOp → Bool
 | .call .. => true
 | _ => false

def zy38 (o : Oper) : Option AOp :=
 match o.op with
 | .move x | .assign x => (opd x).map .mv
 | .pick c a b => (opd c).bind fun c => (opd a).bind fun a => (opd b).map fun b => .pick c a b
 | .alloc t => (zeroT P t).map .zbox
 | .box _ x => (opd x).map .box
 | .build t parts => (P.info? t).bind fun i => (zeroT P t).bind fun z =>
  match P.underlying t with
  | some (.struct fs) => if (fs.toList.all fun f => (sizeT P f.type).isSome) = false then none else (parts.toList.mapM fun (p : Nat × Operand) => (fs[p.1]?).bind fun f => (sizeT P f.type).bind fun n => (opd p.2).map fun x => (f.offset, n, x)).map (.bld z)
  | some (.array _ e) => (sizeT P e).bind fun n => (parts.toList.mapM fun (p : Nat × Operand) => (opd p.2).map fun x => (p.1 * n, n, x)).map (.bld z)
  | _ => none
 | .buildSlice t len parts => (rowT P t).bind fun r => if len * r.2.1 ≤ 16777216 then (parts.toList.mapM fun (p : Nat × Operand) => (opd p.2).map fun x => (p.1, x)).map (.bslc r.2.1 len r.2.2) else none
 | .load t a => (agT P t).bind fun g => (opd a).map (.load g)
 | .store t a x => (agT P t).bind fun _ => (sizeT P t).bind fun n => (opd a).bind fun a => (opd x).map (.store n a)
 | .nilCheck x => (opd x).map .nchk
 | .binOp op t x y _ => (opd x).bind fun x => (opd y).bind fun y => binAt P op t x y
 | .unOp op _ x => (opd x).map (.un op)
 | .convert src dst x => (opd x).bind fun x =>
  match P.underlying src, P.underlying dst with
  | some _, some (.int k) => some (.conv k x)
  | some .string, some .string => some (.idc x)
  | some .string, some (.slice e) => if isU8 P e then (rowT P dst).map fun _ => .s2b x else none
  | some (.slice e), some .string => if isU8 P e then some (.b2s x) else none
  | _, _ => none
 | .makeInterface t x =>
  match P.underlying t with
  | some (.interface _) => none
  | some _ => (opd x).map (.mkif t)
  | none => none
 | .makeFunc (.func f) first captured => if first.size = 0 ∧ Nat.blt f yb = true then (captured.toList.mapM opd).map (.mkfn f) else none
 | .makeSlice t n c => (rowT P t).bind fun r => (opd n).bind fun n => (opd c).map (.mks r.2.1 r.2.2 n)
 | .slice t x lo hi mx => (opd x).bind fun x => (opdO lo).bind fun lo => (opdO hi).bind fun hi => (opdO mx).bind fun mx =>
  match P.underlying t with
  | some .string => if mx.isSome then none else some (.slcs x lo hi)
  | some (.slice e) => if mx.isSome && !hi.isSome then none else (sizeT P e).map fun n => bif Gl.cap t && !mx.isSome then .slcc n x lo hi else .slc n x lo hi mx
  | some (.array len e) => if lo.isSome || hi.isSome || mx.isSome then none else (sizeT P e).map fun n => .arrs n len x
  | _ => none
 | .fieldAddr s x f => (zy5d P s f).bind fun d => (sizeT P d.type).bind fun n => if n = 0 then none else (opd x).map (.faddr d.offset)
 | .field s x f => (zy5d P s f).bind fun d => (agT P d.type).bind fun g => (opd x).map (.fld d.offset g)
 | .indexAddr t x i => (opd x).bind fun x => (opd i).bind fun i =>
  match P.underlying t with
  | some (.slice e) => (sizeT P e).map fun n => .sidx n x i
  | some (.array len e) => (sizeT P e).map fun n => .aidx n len x i
  | _ => none
 | .index t x i => (opd x).bind fun x => (opd i).bind fun i =>
  match P.underlying t with
  | some .string => some (.stri x i)
  | some (.array len e) => (sizeT P e).bind fun n => (agT P e).map fun g => .idx n len g x i
  | _ => none
 | .extract t i => (opd t).map fun t => .ext t i
 | .makeMap t none => (mapT P t).map fun _ => .mkm
 | .lookup t x i ok => (mapT P t).bind fun m => (opd x).bind fun x => (opd i).map (.lkp m.1 m.2 ok x)
 | .mapUpdate t x k v => (mapT P t).bind fun m => (opd x).bind fun x => (opd k).bind fun k => (opd v).map (.mup m.1 x k)
 | .call { callee := .builtin b, args, argTypes } => zy1j P b args argTypes
 | _ => none

def AOp.isDfr : AOp → Bool
 | .dfr .. => true
 | _ => false

def zy36 (o : Oper) : Option AOp :=
 match o.op with
 | .defer { callee := .value (.func f), args, .. } => if Gl.dead f = true ∧ args.size = 1 then (args[0]?).bind fun x => (opd x).map (.dfr f) else none
 | _ => none

def compOp? (o : Oper) : Option AOp :=
 match o.op with
 | .call { callee := .value f, args, .. } => zy2g P f args
 | .defer _ => zy36 o
 | _ => (zy38 P o).bind fun ao => if ao.isCall || ao.isDfr then none else some ao

def zy6p (ops : Array Oper) : Nat → Oper → Option (List (Nat × Bool))
 | 0, _ => none
 | k + 1, o =>
  match o.guard with
  | none => some []
  | some (j, b) =>
   match ops[j]? with
   | some q => q.dst.bind fun d => (zy6p ops k q).map fun l => l ++ [(d, b)]
   | none => none

def compI (ops : Array Oper) (o : Oper) : AI :=
 match zy6p ops 20 o with
 | some g => { dst := o.dst, op := (compOp? P o).getD .bad, guard := g }
 | none => { dst := o.dst, op := .bad, guard := [] }

def AI.reads (i : AI) : List Nat := (i.op.opds.filterMap fun | .t n => some n | .c _ => none) ++ i.guard.map (·.1)

def clash (x y : AI) : Bool :=
 (match x.dst with | some d => y.reads.contains d || y.dst == some d | none => false) ||
 (match y.dst with | some d => x.reads.contains d | none => false)

def zy0v (ops : Array Oper) : Nat → Nat → Nat → Bool
 | 0, _, _ => false
 | k + 1, j, i =>
  match ops[j]? with
  | some o => o.after.toList.any fun e => Region.binds .any e && (e.on == i || (Nat.blt i e.on && zy0v ops k e.on i))
  | none => false

def AI.zb (y : AI) (d : Nat) : Bool :=
 match y with
 | ⟨some d', .zbox _, []⟩ => d' == d
 | _ => false

def onlyAt (l : List AI) (d j : Nat) : Bool := (List.range l.length).all fun k => k == j || (match l[k]? with | some y => !(y.dst == some d) | none => true)

def nst (l : List AI) (k : Nat) : Bool :=
 match l[k]? with
 | some ⟨_, .store _ (.t d) _, []⟩ => (List.range k).any fun j => (match l[j]? with | some y => y.zb d | none => false) && onlyAt l d j
 | _ => false

def zycj (l : List AI) : Nat → Nat → Nat → Bool
 | 0, _, _ => false
 | f + 1, a, k => (l.all fun y => !(y.dst == some a)) || (List.range k).any fun j =>
   (match l[j]? with | some ⟨some a', .faddr _ (.t s), []⟩ => a' == a && zycj l f s j | _ => false) && onlyAt l a j

def oldLd (l : List AI) (k : Nat) : Bool :=
 match l[k]? with
 | some ⟨_, .load _ (.t a), _⟩ => zycj l 4 a k
 | _ => false

def zy0f (refm : Nat → Bool) (l : List AI) : Bool := (List.range l.length).all fun k => match l[k]? with | some x => decide (x.op.heed refm < 2) || x.op.grows || nst l k | none => true

def confL (refm : Nat → Bool) (l : List AI) (i j : Nat) : Bool :=
 (match l[i]?, l[j]? with | some x, some y => conf refm x.op y.op | _, _ => true) && !(((oldLd l i && nst l j) || (oldLd l j && nst l i)) && zy0f refm l)

def twin (refm : Nat → Bool) (ops : Array Oper) (l : List AI) (i : Nat) : Bool :=
 match l[i]?, l[i + 1]? with
 | some ⟨some d, .zbox _, []⟩, some ⟨some e, .zbox c, []⟩ => !(d == e) && (match ops[i + 1]? with | some o => (match o.op with | .alloc _ => true | _ => false) | none => false) && (List.range l.length).all fun k => decide (k ≤ i + 1) ||
   (match l[k]? with | some x => !(clash ⟨some e, .zbox c, []⟩ x || conf refm (.zbox c) x.op) || zy0v ops 12 k i | none => false)
 | _, _ => false

def zyhp (refm : Nat → Bool) (ops : Array Oper) (l : List AI) : Nat :=
 ((List.range l.length).find? fun i => twin refm ops l i && !(zy0v ops 12 (i + 1) i)).getD l.length

def zy4b (refm : Nat → Bool) (ops : Array Oper) (l : List AI) : Bool :=
 (List.range l.length).all fun j =>
  (match ops[j]? with | some o => o.after.toList.all fun e => !Region.binds .any e || decide (e.on < j) | none => false) &&
  (List.range j).all fun i =>
   (match l[i]?, l[j]? with | some x, some y => !(clash x y) && !(confL refm l i j) | _, _ => false) || zy0v ops 12 j i ||
   (j == i + 1 && twin refm ops l i && i == zyhp refm ops l)

def compR (refm : Nat → Bool) (ops : Array Oper) (draw : Bool) : AC :=
 let l := ops.toList.map (compI P ops)
 bif draw then (bif zy4b refm ops l && l.all (fun x => !x.op.isDfr) then .ops l else .bad) else .ops l

def zyet (ops : Array Oper) (listed : List Bool) : List Nat :=
 (List.range ops.size).filter fun i => !listed.getD i true && ((ops[i]?).map (·.after.toList.all fun e => !Region.binds .any e || listed.getD e.on false)).getD false
def exts (ops : Array Oper) : Nat → List Bool → List (List Nat)
 | 0, listed => match zyet ops listed with
  | [] => [[]]
  | _ :: _ => [[ops.size]]
 | f + 1, listed => match zyet ops listed with
  | [] => [[]]
  | i :: r => (i :: r).flatMap fun i => (exts ops f (listed.set i true)).map (i :: ·)
def badI : AI := ⟨none, .bad, []⟩
def zydy (ops : Array Oper) (l : List AI) : List (List AI) := (exts ops ops.size (List.replicate ops.size false)).map (·.map fun i => (l[i]?).getD badI)
def AOp.isStore : AOp → Bool
 | .store .. => true
 | _ => false
def zy0i (l : List AI) : Bool := decide (l.length ≤ 6) && l.all fun x => (x.op.isPure || x.op.isStore) && x.guard.isEmpty

def AOp.sepOp (refm : Nat → Bool) : AOp → Bool
 | .load .. | .store .. => true
 | op => op.isPure && decide (op.heed refm = 0)
def zyfp (refm : Nat → Bool) (ops : Array Oper) (l : List AI) : Bool :=
 l.all (fun x => x.guard.isEmpty && x.op.sepOp refm) &&
 (List.range l.length).all fun j =>
  (match ops[j]? with | some o => o.after.toList.all fun e => !Region.binds .any e || decide (e.on < j) | none => false) &&
  (match l[j]? with | some y => (match y.dst with | some d => !y.reads.contains d | none => true) | none => false) &&
  (List.range j).all fun i =>
   match l[i]?, l[j]? with
   | some x, some y =>
    (match y.dst with | some d => !x.reads.contains d && !(x.dst == some d) | none => true) &&
    (match x.dst with | some d => !y.reads.contains d || zy0v ops 12 j i | none => true)
   | _, _ => false
def compRD (refm : Nat → Bool) (ops : Array Oper) (draw : Bool) (d : List (List Nat)) : AC × List (List Nat) :=
 let l := ops.toList.map (compI P ops)
 bif draw && !zy4b refm ops l && zy0i l then (.any (d.headD []) (zydy ops l), d.tail) else (bif draw && !zy4b refm ops l && zyfp refm ops l then .sep l else compR P refm ops draw, d)

def AC.calm : AC → Bool
 | .ops l => l.all fun x => !x.op.isDfr
 | .seq a b | .cond _ a b => a.calm && b.calm
 | .block _ a | .loop _ a => a.calm
 | .rfun .. => false
 | _ => true

def compC (refm : Nat → Bool) (it : Nat → Option (Nat × AC)) : Code → List (List Nat) → AC × List (List Nat)
 | .skip, d => (.skip, d)
 | .region _ ops draw, d => compRD P refm ops draw d
 | .seq a b, d => let x := compC refm it a d; let y := compC refm it b x.2; (.seq x.1 y.1, y.2)
 | .cond c a b, d => let x := compC refm it a d; let y := compC refm it b x.2; ((match opd c with | some c => .cond c x.1 y.1 | none => .bad), y.2)
 | .block id a, d => let x := compC refm it a d; (.block id x.1, x.2)
 | .loop a, d => let x := compC refm it a d.tail; (.loop (d.headD []) x.1, x.2)
 | .exit id, d => (.exit id, d)
 | .ret, d => (.ret, d)
 | .label _, d => (.skip, d)
 | .scope a, d => compC refm it a d
 | .rangeFunc f ps asg body, d =>
  let x := compC refm it asg d.tail
  let y := compC refm it body x.2
  ((match opd f, it ((d.headD []).headD 0) with
   | some f, some q => bif x.1.calm && y.1.calm then .rfun f ((d.headD []).headD 0) q.1 q.2 ps.toList x.1 y.1 else .bad
   | _, _ => .bad), y.2)
 | _, d => (.bad, d)

def zy39 : ResultVar → Option ARes
 | .tmp t => some (.t t)
 | .cell a t => (agT P t).map (.cell a)

def itOf (refm : Nat → Bool) (live : Nat → List (List Nat)) (g : Nat) : Option (Nat × AC) :=
 bif Nat.blt g yb then (P.funcs[g]?).bind fun fn => fn.body.bind fun c => if (fn.name == "runtime.NumGoroutine") = true ∨ fn.results.size ≠ 0 then none else some (fn.ntmps, (compC P refm (fun _ => none) c (live g)).1) else none

def compF (refm : Nat → Bool) (it : Nat → Option (Nat × AC)) (live : List (List Nat)) (fn : Func) : Option AFun :=
 if (fn.name == "runtime.NumGoroutine") = true then none else fn.body.bind fun c => (fn.results.toList.mapM (zy39 P)).map fun rs => { nt := fn.ntmps, np := fn.params.size, res := rs, code := (compC P refm it c live).1 }

def prog (live : Nat → List (List Nat)) (refm : Nat → Bool) : Prog :=
 { fn := fun f => bif Nat.blt f yb then (P.funcs[f]?).bind (compF P refm (itOf P refm live) (live f)) else none, refm }

end
end Go.Proofs.YtiblnpnfaadmcaaGreat.Am
