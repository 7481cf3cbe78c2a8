import GoSem.Dispatch
/- The abstract machine: values, operations, code, evaluation. Nothing of the program stands here. -/
namespace Go.Proofs.YtiblnpnfaadmcaaGreat.Am
open Go

inductive AV where
 | bool (b : Bool)
 | int (k : IntKind) (n : Int)
 | str (s : ByteArray)
 | nilp
 | ip (cs : List AV)
 | rp (id off : Nat)
 | is (n : Nat) (full : Bool) (cs : List AV)
 | rs (sz id off n : Nat)
 | rc (sz id off n k : Nat)
 | agg (cs : List AV)
 | tup (vs : List AV)
 | fn (f : Nat) (cap : List AV)
 | nilf
 | ifc (t : Nat) (v : AV)
 | nili
 | nilm
 | im (es : List AV)
 | rm (id : Nat)
 | mpc (es : List AV)
 | yld (id : Nat)
 | undef
 | junk
 deriving Inhabited

abbrev Heap := List (Option (List AV))

class Gl where
 cells : Nat → List AV
 cap : Nat → Bool
 dead : Nat → Bool

def nat (k : IntKind) (n : Nat) : AV := .int k (n : Int)

def AV.cells : AV → List AV
 | .agg cs => cs
 | v => [v]

def yb : Nat := 1000000

def AV.cell : AV → Bool
 | .agg _ | .tup _ | .undef | .junk | .mpc _ | .yld _ => false
 | _ => true

def live (h : Heap) (id : Nat) : Option (List AV) := (h[id]?).join

inductive Opd where
 | t (n : Nat)
 | c (v : AV)
 deriving Inhabited

inductive LK where
 | b | i | s
 deriving Inhabited

inductive AOp where
 | mv (x : Opd)
 | pick (c a b : Opd)
 | bin (op : BinOp) (x y : Opd)
 | beq (neq : Bool) (x y : Opd)
 | eqa (neq : Bool) (l : List LK) (x y : Opd)
 | un (op : UnOp) (x : Opd)
 | conv (k : IntKind) (x : Opd)
 | idc (x : Opd)
 | fld (off : Nat) (ag : Option Nat) (x : Opd)
 | idx (sz len : Nat) (ag : Option Nat) (x i : Opd)
 | stri (x i : Opd)
 | faddr (off : Nat) (a : Opd)
 | sidx (sz : Nat) (x i : Opd)
 | aidx (sz len : Nat) (x i : Opd)
 | load (ag : Option Nat) (a : Opd)
 | arrs (sz len : Nat) (x : Opd)
 | slc (sz : Nat) (x : Opd) (lo hi mx : Option Opd)
 | slcs (x : Opd) (lo hi : Option Opd)
 | slcc (sz : Nat) (x : Opd) (lo hi : Option Opd)
 | len (str : Bool) (x : Opd)
 | cap (x : Opd)
 | nilq (neq : Bool) (x : Opd)
 | alen (n : Nat)
 | mm (mx : Bool) (xs : List Opd)
 | ext (x : Opd) (i : Nat)
 | bld (zero : List AV) (parts : List (Nat × Nat × Opd))
 | mkfn (f : Nat) (caps : List Opd)
 | mkif (t : Nat) (x : Opd)
 | nchk (x : Opd)
 | add64 (x y c : Opd)
 | sub64 (x y c : Opd)
 -- these touch the heap
 | box (x : Opd)
 | zbox (cs : List AV)
 | bslc (sz n : Nat) (zero : List AV) (parts : List (Nat × Opd))
 | store (n : Nat) (a x : Opd)
 | mks (sz : Nat) (zero : List AV) (n c : Opd)
 | app (sz : Nat) (x y : Opd)
 | s2b (x : Opd)
 | clr (sz : Nat) (zero : List AV) (x : Opd)
 | appm (sz : Nat) (zero : List AV) (x n : Opd)
 | dfr (f : Nat) (x : Opd)
 | b2s (x : Opd)
 | mkm
 | lkp (L : List LK) (zero : AV) (ok : Bool) (x i : Opd)
 | mlen (x : Opd)
 | mup (L : List LK) (x k v : Opd)
 | call (f : Opd) (args : List Opd)
 | bad
 deriving Inhabited

structure AI where
 dst : Option Nat
 op : AOp
 guard : List (Nat × Bool) := []
 deriving Inhabited

def oo : Option Opd → List Opd
 | some x => [x]
 | none => []

def AOp.opds : AOp → List Opd
 | .mv x | .un _ x | .conv _ x | .idc x | .fld _ _ x | .faddr _ x | .load _ x | .arrs _ _ x | .cap x | .nilq _ x | .len _ x | .ext x _ | .mkif _ x | .nchk x | .box x | .s2b x | .b2s x | .clr _ _ x | .dfr _ x | .mlen x => [x]
 | .pick a b c | .add64 a b c | .sub64 a b c | .mup _ a b c => [a, b, c]
 | .bin _ x y | .beq _ x y | .eqa _ _ x y | .idx _ _ _ x y | .stri x y | .sidx _ x y | .aidx _ _ x y | .store _ x y | .mks _ _ x y | .app _ x y | .lkp _ _ _ x y | .appm _ _ x y => [x, y]
 | .slc _ x lo hi mx => [x] ++ oo lo ++ oo hi ++ oo mx
 | .slcs x lo hi | .slcc _ x lo hi => [x] ++ oo lo ++ oo hi
 | .mm _ xs => xs
 | .bld _ ps => ps.map fun p => p.2.2
 | .mkfn _ xs => xs
 | .bslc _ _ _ ps => ps.map fun p => p.2
 | .call f xs => f :: xs
 | .alen _ | .zbox _ | .mkm | .bad => []

inductive AC where
 | skip
 | ops (l : List AI)
 | any (live : List Nat) (os : List (List AI))
 | sep (l : List AI)
 | seq (a b : AC)
 | cond (c : Opd) (a b : AC)
 | block (id : Nat) (a : AC)
 | loop (dead : List Nat) (a : AC)
 | exit (id : Nat)
 | ret
 -- a range over the function g, whose code is gc: a round sets ps, then does asg and body
 | rfun (f : Opd) (g nt : Nat) (gc : AC) (ps : List Nat) (asg body : AC)
 | bad
 deriving Inhabited

inductive ARes where
 | t (n : Nat)
 | cell (n : Nat) (ag : Option Nat)
 deriving Inhabited

structure AFun where
 nt : Nat
 np : Nat
 res : List ARes
 code : AC
 deriving Inhabited


def opPick : AV → AV → AV → Option AV
 | .bool b, x, y => some (bif b then x else y)
 | _, _, _ => none

def zy14 (op : BinOp) (k : IntKind) (x y : Int) : Int :=
 let a := BitVec.ofInt k.bits x
 let b := BitVec.ofInt k.bits y
 k.wrap (match op with
  | .and => (a &&& b).toNat
  | .or => (a ||| b).toNat
  | .xor => (a ^^^ b).toNat
  | _ => (a &&& ~~~b).toNat)

def zy7u (op : BinOp) (k : IntKind) (x y : Int) : Option AV :=
 match op with
 | .add => some (.int k (k.wrap (x + y)))
 | .sub => some (.int k (k.wrap (x - y)))
 | .mul => some (.int k (k.wrap (x * y)))
 | .quo => if y = 0 then none else some (.int k (k.wrap (x.tdiv y)))
 | .rem => if y = 0 then none else some (.int k (x.tmod y))
 | .and | .or | .xor | .andNot => some (.int k (zy14 op k x y))
 | .eql => some (.bool (x == y))
 | .neq => some (.bool (x != y))
 | .lss => some (.bool (x < y))
 | .leq => some (.bool (x ≤ y))
 | .gtr => some (.bool (x > y))
 | .geq => some (.bool (x ≥ y))
 | _ => none

def zygx (op : BinOp) (x y : ByteArray) : Option AV :=
 let eq := x.toList == y.toList
 let lt := Op.bytesLess x.toList y.toList
 match op with
 | .add => if x.size + y.size ≤ 9223372036854775807 then some (.str (x ++ y)) else none
 | .eql => some (.bool eq)
 | .neq => some (.bool !eq)
 | .lss => some (.bool lt)
 | .leq => some (.bool (lt || eq))
 | .gtr => some (.bool !(lt || eq))
 | .geq => some (.bool !lt)
 | _ => none

def zydf (l : Bool) (k : IntKind) (x y : Int) : Option AV :=
 if y < 0 then none else
  some (.int k (bif l then k.wrap (x * 2 ^ (min y.toNat k.bits)) else x.fdiv (2 ^ (min y.toNat k.bits))))

def opBin (op : BinOp) : AV → AV → Option AV
 | .int k x, .int k' y =>
  match op with
  | .shl => zydf true k x y
  | .shr => zydf false k x y
  | op => if k = k' then zy7u op k x y else none
 | .str x, .str y => zygx op x y
 | _, _ => none

def opBeq (neq : Bool) : AV → AV → Option AV
 | .bool x, .bool y => some (.bool (bif neq then !(x == y) else x == y))
 | _, _ => none

def zy4n : List LK → List AV → List AV → Option Bool
 | [], [], [] => some true
 | .b :: L, .bool x :: l, .bool y :: r => bif x == y then zy4n L l r else some false
 | .i :: L, .int k x :: l, .int k' y :: r => if k = k' then (bif x == y then zy4n L l r else some false) else none
 | .s :: L, .str x :: l, .str y :: r => bif x.toList == y.toList then zy4n L l r else some false
 | _, _, _ => none

def opEqa (neq : Bool) (L : List LK) : AV → AV → Option AV
 | .agg xs, .agg ys => if xs.length = L.length ∧ ys.length = L.length then (zy4n L xs ys).map fun b => .bool (bif neq then !b else b) else none
 | _, _ => none

def opUn (op : UnOp) : AV → Option AV
 | .int k n =>
  match op with
  | .neg => some (.int k (k.wrap (0 - n)))
  | .xor => some (.int k (zy14 .xor k (if k.signed then -1 else k.max) n))
  | _ => none
 | .bool b =>
  match op with
  | .not => some (.bool !b)
  | _ => none
 | _ => none

def zyd0 (k : IntKind) : AV → Option AV
 | .int _ n => some (.int k (k.wrap n))
 | _ => none

def opIdc : AV → Option AV
 | .str s => some (.str s)
 | _ => none

def zyem (cs : List AV) : Option Nat → Option AV
 | none => cs.head?
 | some n => if n ≤ cs.length then some (.agg (cs.take n)) else none

def opFld (off : Nat) (ag : Option Nat) : AV → Option AV
 | .agg cs => zyem (cs.drop off) ag
 | _ => none

def opIdx (sz len : Nat) (ag : Option Nat) : AV → AV → Option AV
 | .agg cs, .int _ i => if 0 ≤ i ∧ i < (len : Int) then zyem (cs.drop (i.toNat * sz)) ag else none
 | _, _ => none

def zydo : AV → AV → Option AV
 | .str s, .int _ i => if 0 ≤ i then (s.data[i.toNat]?).map fun b => .int .u8 b.toNat else none
 | _, _ => none

def zyd1 (off : Nat) : AV → Option AV
 | .ip cs => some (.ip (cs.drop off))
 | .rp id o => some (.rp id (o + off))
 | _ => none

def zydh (sz : Nat) : AV → AV → Option AV
 | .is n _ cs, .int _ i => if 0 ≤ i ∧ i < (n : Int) then some (.ip (cs.drop (i.toNat * sz))) else none
 | .rs sz' id off n, .int _ i => if sz = sz' ∧ 0 ≤ i ∧ i < (n : Int) then some (.rp id (off + i.toNat * sz)) else none
 | _, _ => none

def zycp (sz len : Nat) : AV → AV → Option AV
 | .ip cs, .int _ i => if 0 ≤ i ∧ i < (len : Int) then some (.ip (cs.drop (i.toNat * sz))) else none
 | .rp id o, .int _ i => if 0 ≤ i ∧ i < (len : Int) then some (.rp id (o + i.toNat * sz)) else none
 | _, _ => none

def zyd4 (h : Heap) (ag : Option Nat) : AV → Option AV
 | .ip cs => zyem cs ag
 | .rp id off => (live h id).bind fun cs => zyem (cs.drop off) ag
 | _ => none

def zycs (h : Heap) (sz len : Nat) : AV → Option AV
 | .ip cs => if len * sz ≤ cs.length then some (.is len true (cs.take (len * sz))) else none
 | .rp id off => (live h id).bind fun cs => if off + len * sz ≤ cs.length then some (.rs sz id off len) else none
 | _ => none

def bnd (d : Nat) : Option AV → Option Nat
 | none => some d
 | some (.int _ i) => if 0 ≤ i then some i.toNat else none
 | some _ => none

def zy6b (mx : Option AV) (full : Bool) (hh m n : Nat) : Bool :=
 match mx with
 | some _ => hh == m
 | none => full && hh == n

def opSlc (sz : Nat) (x : AV) (lo hi mx : Option AV) : Option AV :=
 match x with
 | .is n full cs =>
  (bnd n hi).bind fun hh => (bnd n mx).bind fun m => (bnd 0 lo).bind fun l =>
   if l ≤ hh ∧ hh ≤ m ∧ m ≤ n then some (.is (hh - l) (zy6b mx full hh m n) ((cs.take (hh * sz)).drop (l * sz))) else none
 | .rs sz' id off n =>
  (bnd n hi).bind fun hh => (bnd n mx).bind fun m => (bnd 0 lo).bind fun l =>
   if sz = sz' ∧ l ≤ hh ∧ hh ≤ m ∧ m ≤ n then some (.rs sz id (off + l * sz) (hh - l)) else none
 | _ => none

def opSlcc (sz : Nat) (x : AV) (lo hi : Option AV) : Option AV :=
 match x with
 | .rs sz' id off n =>
  (bnd n hi).bind fun hh => (bnd 0 lo).bind fun l => if sz = sz' ∧ l ≤ hh ∧ hh ≤ n then some (.rc sz id (off + l * sz) (hh - l) (n - l)) else none
 | .rc sz' id off n k =>
  (bnd n hi).bind fun hh => (bnd 0 lo).bind fun l => if sz = sz' ∧ l ≤ hh ∧ hh ≤ k then some (.rc sz id (off + l * sz) (hh - l) (k - l)) else none
 | x => opSlc sz x lo hi none

def opSlcs (x : AV) (lo hi : Option AV) : Option AV :=
 match x with
 | .str s => (bnd s.size hi).bind fun hh => (bnd 0 lo).bind fun l => if l ≤ hh ∧ hh ≤ s.size then some (.str (s.extract l hh)) else none
 | _ => none

def opLen : Bool → AV → Option AV
 | false, .is n _ _ => some (.int .i64 n)
 | false, .rs _ _ _ n => some (.int .i64 n)
 | false, .rc _ _ _ n _ => some (.int .i64 n)
 | true, .str s => some (.int .i64 s.size)
 | _, _ => none

def opCap : AV → Option AV
 | .is n true _ => some (.int .i64 n)
 | _ => none

def zydd (neq : Bool) : AV → Option AV
 | .is (_ + 1) _ _ => some (.bool neq)
 | .rs _ _ _ _ => some (.bool neq)
 | _ => none

def mm2 (mx : Bool) : AV → AV → Option AV
 | .int k x, .int _ y => some (.int k (bif mx then (if y > x then y else x) else (if y < x then y else x)))
 | _, _ => none

def mmL (mx : Bool) : AV → List AV → Option AV
 | x, [] => some x
 | x, y :: l => (mm2 mx x y).bind fun z => mmL mx z l

def opMm (mx : Bool) : List AV → Option AV
 | [] => none
 | x :: l => mmL mx x l

def opExt (i : Nat) : AV → Option AV
 | .tup vs => vs[i]?
 | _ => none

def zygd (cs : List AV) (off : Nat) (new : List AV) : List AV := cs.take off ++ new ++ cs.drop (off + new.length)

def AV.ok : AV → Bool
 | .junk => false
 | _ => true

def fillA : List AV → List (Nat × Nat × AV) → Option (List AV)
 | cs, [] => some cs
 | cs, (off, sz, v) :: l => if v.ok = true ∧ v.cells.length = sz ∧ off + sz ≤ cs.length then fillA (zygd cs off v.cells) l else none

def opBld (zero : List AV) (parts : List (Nat × Nat × AV)) : Option AV := (fillA zero parts).map .agg

def zydb : AV → Option AV
 | .nilp | .nili | .nilf | .undef | .junk | .tup _ => none
 | v => some v

def zyco : AV → AV → AV → Option AV
 | .int _ x, .int _ y, .int _ c =>
  if c ≤ 1 then some (.tup [.int .u64 (((x.toNat + y.toNat + c.toNat) % 2 ^ 64 : Nat) : Int), .int .u64 (((x.toNat + y.toNat + c.toNat) / 2 ^ 64 : Nat) : Int)]) else none
 | _, _, _ => none

def zydq : AV → AV → AV → Option AV
 | .int _ x, .int _ y, .int _ c =>
  if c ≤ 1 then some (.tup [.int .u64 (((x.toNat + 2 ^ 64 - y.toNat - c.toNat) % 2 ^ 64 : Nat) : Int), .int .u64 (((if x.toNat < y.toNat + c.toNat then 1 else 0) : Nat) : Int)]) else none
 | _, _, _ => none


def opBox (h : Heap) (v : AV) : Option (AV × Heap) :=
 match v with
 | .tup _ | .undef | .junk => none
 | v => some (.rp h.length 0, h ++ [some v.cells])

def zydr (h : Heap) (cs : List AV) : Option (AV × Heap) := some (.rp h.length 0, h ++ [some cs])

def zeros (zero : List AV) : Nat → List AV
 | 0 => []
 | n + 1 => zero ++ zeros zero n

def zycy (sz n : Nat) (zero : List AV) (parts : List (Nat × AV)) : Option AV :=
 (fillA (zeros zero n) (parts.map fun p => (p.1 * sz, sz, p.2))).map fun cs => .is n true cs

def zydm (h : Heap) (n : Nat) (a v : AV) : Option Heap :=
 match a with
 | .rp id off => (live h id).bind fun cs =>
   if v.cells.length = n ∧ v.cells.all AV.cell ∧ off + n ≤ cs.length then some (h.set id (some (zygd cs off v.cells))) else none
 | _ => none

def opMks (h : Heap) (sz : Nat) (zero : List AV) : AV → AV → Option (AV × Heap)
 | .int .i64 n, .int .i64 c =>
  if 0 ≤ n ∧ n ≤ c ∧ c ≤ 4294967296 then some (.rs sz h.length 0 n.toNat, h ++ [some (zeros zero n.toNat)]) else none
 | _, _ => none

def zy4j (h : Heap) (sz : Nat) : AV → Option (Nat × List AV)
 | .is n _ cs => if n * sz ≤ cs.length then some (n, cs.take (n * sz)) else none
 | .rs sz' id off n => (live h id).bind fun cs => if sz = sz' ∧ off + n * sz ≤ cs.length then some (n, (cs.drop off).take (n * sz)) else none
 | .rc sz' id off n k => (live h id).bind fun cs => if sz = sz' ∧ off + k * sz ≤ cs.length ∧ n ≤ k then some (n, (cs.drop off).take (n * sz)) else none
 | .str s => if sz = 1 then some (s.size, s.data.toList.map fun b => .int .u8 b.toNat) else none
 | _ => none

def AV.notStr : AV → Bool
 | .str _ => false
 | _ => true

def opApp (h : Heap) (sz : Nat) (x y : AV) : Option (AV × Heap) :=
 (zy4j h sz y).bind fun (m, new) => (zy4j h sz x).bind fun (n, old) =>
  if n + m ≤ 4294967296 ∧ new.all AV.cell = true ∧ x.notStr = true then
   if m = 0 then some (x, h) else
   match x with
   | .is _ true _ => some (.rs sz h.length 0 (n + m), h ++ [some (old ++ new)])
   | .rs _ id _ _ => some (.rs sz h.length 0 (n + m), h.set id none ++ [some (old ++ new)])
   | .rc _ id off _ k => if n + m ≤ k then (live h id).map fun cs => (.rc sz id off (n + m) k, h.set id (some (zygd cs (off + n * sz) new))) else none
   | _ => none
  else none

def opAppm (h : Heap) (sz : Nat) (zero : List AV) : AV → AV → Option (AV × Heap)
 | .is 0 true _, .int .i64 n => if 0 < n ∧ n ≤ 4294967296 then some (.rs sz h.length 0 n.toNat, h ++ [some (zeros zero n.toNat)]) else none
 | _, _ => none

def opClr (h : Heap) (sz : Nat) (zero : List AV) (x : AV) : Option Heap :=
 (zy4j h sz x).bind fun (n, _) =>
  match x with
  | .rs _ id off _ | .rc _ id off _ _ => (live h id).bind fun cs => if zero.all AV.cell = true ∧ zero.length = sz then some (h.set id (some (zygd cs off (zeros zero n)))) else none
  | _ => none

def opS2b (h : Heap) : AV → Option (AV × Heap)
 | .str s => if s.size ≤ 4294967296 then some (.rs 1 h.length 0 s.size, h ++ [some (s.data.toList.map fun b => .int .u8 b.toNat)]) else none
 | _ => none

def zy1x : List AV → Option (List UInt8)
 | [] => some []
 | .int .u8 n :: l => (zy1x l).map fun r => UInt8.ofNat n.toNat :: r
 | _ => none

def opB2s (h : Heap) (x : AV) : Option AV :=
 match x with
 | .str _ => none
 | x => (zy4j h 1 x).bind fun (_, cs) => (zy1x cs).map fun l => .str ⟨l.toArray⟩

def opDfr : AV → Option AV
 | .fn _ _ => some .undef
 | _ => none


def mapOf (h : Heap) : AV → Option (List AV)
 | .nilm => some []
 | .im es => some es
 | .rm id =>
  match live h id with
  | some [.mpc es] => some es
  | _ => none
 | _ => none

def keyEq : List LK → AV → AV → Option Bool
 | [.i], .int a x, .int b y => if a = b then some (x == y) else none
 | [.i, .i], .agg [.int a x, .int b y], .agg [.int c z, .int d u] => if a = c ∧ b = d then some (bif x == z then y == u else false) else none
 | _, _, _ => none

def keyOk : List LK → AV → Bool
 | [.i], .int _ _ => true
 | [.i, .i], .agg [.int _ _, .int _ _] => true
 | _, _ => false

def findE (L : List LK) (k : AV) : List AV → Nat → Option (Option (Nat × AV))
 | [], _ => some none
 | .tup [k', v] :: es, i => (keyEq L k k').bind fun b => bif b then some (some (i, v)) else findE L k es (i + 1)
 | _ :: _, _ => none

def opLkp (h : Heap) (L : List LK) (zero : AV) (ok : Bool) (x i : AV) : Option AV :=
 (mapOf h x).bind fun es => if keyOk L i = true then (findE L i es 0).map fun r =>
  bif ok then .tup [match r with | some q => q.2 | none => zero, .bool r.isSome] else match r with | some q => q.2 | none => zero
 else none

def zyd8 (h : Heap) (x : AV) : Option AV := (mapOf h x).map fun es => .int .i64 es.length

def AV.ent : AV → Bool
 | .tup _ | .undef | .junk | .mpc _ => false
 | _ => true

def opMup (h : Heap) (L : List LK) (x k v : AV) : Option Heap :=
 match x with
 | .rm id => (mapOf h x).bind fun es => (findE L k es 0).bind fun r =>
   if v.ent = true ∧ keyOk L k = true then
    some (h.set id (some [.mpc (match r with | some (i, _) => es.set i (.tup [k, v]) | none => es ++ [.tup [k, v]])]))
   else none
 | _ => none


def zy5w : Nat → Heap → AV → Option AV
 | 0, _, _ => none
 | k + 1, h, v =>
  match v with
  | .bool _ | .int _ _ | .str _ | .nilp | .nilf | .nili | .nilm => some v
  | .im cs => (cs.mapM (zy5w k h)).map .im
  | .rm id => (live h id).bind fun cs => match cs with | [.mpc es] => (es.mapM (zy5w k h)).map .im | _ => none
  | .mpc _ => none
  | .agg cs => (cs.mapM (zy5w k h)).map .agg
  | .tup cs => (cs.mapM (zy5w k h)).map .tup
  | .fn f cs => (cs.mapM (zy5w k h)).map (.fn f)
  | .ifc t v => (zy5w k h v).map (.ifc t)
  | .ip cs => (cs.mapM (zy5w k h)).map .ip
  | .is n _ cs => (cs.mapM (zy5w k h)).map (.is n false)
  | .rp id off => (live h id).bind fun cs => ((cs.drop off).mapM (zy5w k h)).map .ip
  | .rs sz id off n => (live h id).bind fun cs => if off + n * sz ≤ cs.length then (((cs.drop off).take (n * sz)).mapM (zy5w k h)).map (.is n false) else none
  | .rc sz id off n _ => (live h id).bind fun cs => if off + n * sz ≤ cs.length then (((cs.drop off).take (n * sz)).mapM (zy5w k h)).map (.is n false) else none
  | .undef | .junk | .yld _ => none

def zy5v (h : Heap) (v : AV) : Option AV := zy5w 12 h v

def zyca : Nat → AV → Bool
 | 0, _ => false
 | k + 1, v =>
  match v with
  | .bool _ | .int _ _ | .str _ | .nilp | .nilf | .nili | .nilm => true
  | .agg cs | .tup cs | .fn _ cs | .ip cs | .is _ _ cs | .im cs => cs.all (zyca k)
  | .ifc _ v => zyca k v
  | .rp _ _ | .rs _ _ _ _ | .rc _ _ _ _ _ | .rm _ | .mpc _ | .yld _ | .undef | .junk => false

def noRef (v : AV) : Bool := zyca 12 v


abbrev Oracle := Nat → List AV → Heap → Option (AV × Heap)

inductive Ex where
 | normal
 | exit (id : Nat)
 | ret

structure St where
 t : List AV
 h : Heap

def St.get (s : St) : Opd → AV
 | .t n => s.t.getD n .junk
 | .c v => v

def zye9 (s : St) : AOp → Option AV
 | .mv x => some (s.get x)
 | .pick c a b => opPick (s.get c) (s.get a) (s.get b)
 | .bin op x y => opBin op (s.get x) (s.get y)
 | .beq neq x y => opBeq neq (s.get x) (s.get y)
 | .eqa neq l x y => opEqa neq l (s.get x) (s.get y)
 | .un op x => opUn op (s.get x)
 | .conv k x => zyd0 k (s.get x)
 | .idc x => opIdc (s.get x)
 | .fld off ag x => opFld off ag (s.get x)
 | .idx sz len ag x i => opIdx sz len ag (s.get x) (s.get i)
 | .stri x i => zydo (s.get x) (s.get i)
 | .faddr off a => zyd1 off (s.get a)
 | .sidx sz x i => zydh sz (s.get x) (s.get i)
 | .aidx sz len x i => zycp sz len (s.get x) (s.get i)
 | .cap x => opCap (s.get x)
 | .nilq neq x => zydd neq (s.get x)
 | .load ag a => zyd4 s.h ag (s.get a)
 | .arrs sz len x => zycs s.h sz len (s.get x)
 | .slc sz x lo hi mx => opSlc sz (s.get x) (lo.map s.get) (hi.map s.get) (mx.map s.get)
 | .slcs x lo hi => opSlcs (s.get x) (lo.map s.get) (hi.map s.get)
 | .slcc sz x lo hi => opSlcc sz (s.get x) (lo.map s.get) (hi.map s.get)
 | .len b x => opLen b (s.get x)
 | .alen n => some (.int .i64 n)
 | .mm mx xs => opMm mx (xs.map s.get)
 | .ext x i => opExt i (s.get x)
 | .bld zero parts => opBld zero (parts.map fun p => (p.1, p.2.1, s.get p.2.2))
 | .mkfn f caps => some (.fn f (caps.map s.get))
 | .mkif t x => some (.ifc t (s.get x))
 | .nchk x => zydb (s.get x)
 | .add64 x y c => zyco (s.get x) (s.get y) (s.get c)
 | .sub64 x y c => zydq (s.get x) (s.get y) (s.get c)
 | .b2s x => opB2s s.h (s.get x)
 | .lkp L z ok x i => opLkp s.h L z ok (s.get x) (s.get i)
 | .mlen x => zyd8 s.h (s.get x)
 | _ => none

def AOp.isPure : AOp → Bool
 | .box _ | .zbox _ | .bslc .. | .store .. | .mks .. | .app .. | .s2b _ | .clr .. | .appm .. | .mkm | .mup .. | .dfr .. | .call .. | .bad => false
 | _ => true

def memOp (s : St) : AOp → Option (AV × Heap)
 | .box x => opBox s.h (s.get x)
 | .zbox cs => zydr s.h cs
 | .bslc sz n zero parts => (zycy sz n zero (parts.map fun p => (p.1, s.get p.2))).map fun v => (v, s.h)
 | .store n a x => (zydm s.h n (s.get a) (s.get x)).map fun h => (.undef, h)
 | .mks sz zero n c => opMks s.h sz zero (s.get n) (s.get c)
 | .app sz x y => opApp s.h sz (s.get x) (s.get y)
 | .s2b x => opS2b s.h (s.get x)
 | .appm sz zero x n => opAppm s.h sz zero (s.get x) (s.get n)
 | .clr sz zero x => (opClr s.h sz zero (s.get x)).map fun h => (.undef, h)
 | .dfr _ x => (opDfr (s.get x)).map fun v => (v, s.h)
 | .mkm => some (.rm s.h.length, s.h ++ [some [.mpc []]])
 | .mup L x k v => (opMup s.h L (s.get x) (s.get k) (s.get v)).map fun h => (.undef, h)
 | _ => none

def flatV : AV → Bool
 | .bool _ | .int _ _ | .str _ | .nilp | .nilf | .nili => true
 | .agg cs | .tup cs => cs.all fun
  | .bool _ | .int _ _ | .str _ | .nilp | .nilf | .nili => true
  | .agg cs => cs.all fun
   | .bool _ | .int _ _ | .str _ | .nilp | .nilf | .nili => true
   | _ => false
  | _ => false
 | _ => false

def byVal (C : Oracle) (h : Heap) (f : Nat) (args : List AV) : Option AV :=
 (args.mapM (zy5v h)).bind fun as => (C f as []).bind fun r => (zy5v r.2 r.1).bind fun v =>
  if (args.all noRef || flatV v) = true then some v else none

def zy2o (C : Oracle) (refm : Nat → Bool) (h : Heap) (fv : AV) (args : List AV) : Option (AV × Heap) :=
 match fv with
 | .fn f cap => bif refm f then C f (args ++ cap) h else (byVal C h f (args ++ cap)).map fun v => (v, h)
 | .yld id => C (yb + id) args h
 | _ => none

def St.put (s : St) (d : Option Nat) (v : AV) : St :=
 match d with
 | some d => { s with t := s.t.set d v }
 | none => s

def zyga (s : St) : List (Nat × Bool) → Bool
 | [] => true
 | [p] => match s.t.getD p.1 .junk with | .undef => true | _ => false
 | _ :: q :: l => zyga s (q :: l)

def St.wanted (s : St) : List (Nat × Bool) → Option Bool
 | [] => some true
 | (n, b) :: l =>
  match s.t.getD n .junk with
  | .bool c => bif c == b then s.wanted l else (bif zyga s l then some false else none)
  | _ => none

variable {R : Type}

def zy6i (x : AV) (b : Bool) (A B : Option R) : Option R :=
 match x with
 | .bool c => bif c == b then A else B
 | _ => none

def zyia (s : St) (g : List (Nat × Bool)) (A B : St → Option R) : Option R :=
 match g with
 | [] => A s
 | (n, b) :: l => zy6i (s.t.getD n .junk) b (zyia (s.put (some n) (.bool b)) l A B) (bif zyga s l then B (s.put (some n) (.bool !b)) else none)

def stepA (C : Oracle) (refm : Nat → Bool) (i : AI) (s : St) : Option (AV × Heap) :=
 match i.op with
 | .call f args => zy2o C refm s.h (s.get f) (args.map s.get)
 | op => bif op.isPure then (zye9 s op).map fun v => (v, s.h) else memOp s op

def zy2i (C : Oracle) (refm : Nat → Bool) (h : Heap) (fv : AV) (args : List AV) (K : AV → Heap → Option R) : Option R :=
 match fv with
 | .fn f cap => bif refm f then (C f (args ++ cap) h).bind fun r => K r.1 r.2 else (byVal C h f (args ++ cap)).bind fun v => K v h
 | .yld id => (C (yb + id) args h).bind fun r => K r.1 r.2
 | _ => none

def stepK (C : Oracle) (refm : Nat → Bool) (i : AI) (s : St) (K : AV → Heap → Option R) : Option R :=
 match i.op with
 | .call f args => zy2i C refm s.h (s.get f) (args.map s.get) K
 | .store n a x => (zydm s.h n (s.get a) (s.get x)).bind fun h => K .undef h
 | .bslc sz n zero parts => (zycy sz n zero (parts.map fun p => (p.1, s.get p.2))).bind fun v => K v s.h
 | .clr sz zero x => (opClr s.h sz zero (s.get x)).bind fun h => K .undef h
 | .dfr _ x => (opDfr (s.get x)).bind fun v => K v s.h
 | .mup L x k v => (opMup s.h L (s.get x) (s.get k) (s.get v)).bind fun h => K .undef h
 | op => bif op.isPure then (zye9 s op).bind fun v => K v s.h else (memOp s op).bind fun r => K r.1 r.2

def zy52 (C : Oracle) (refm : Nat → Bool) : List AI → St → (St → Option R) → Option R
 | [], s, K => K s
 | i :: l, s, K => zyia s i.guard
   (fun s => stepK C refm i s fun v h => zy52 C refm l ({ s with h }.put i.dst v) K)
   (fun s => zy52 C refm l (s.put i.dst .undef) K)

def condK (x : AV) (A B : Option R) : Option R :=
 match x with
 | .bool t => bif t then A else B
 | _ => none

def keep (live : List Nat) : Nat → List AV → List AV
 | _, [] => []
 | i, x :: l => (bif live.contains i then x else .junk) :: keep live (i + 1) l

def kill (live : List Nat) (s : St) : St := { s with t := keep live 0 s.t }

abbrev Iter := (St → Option (Ex × St)) → St → Option (Ex × St)

def zyf7 (live : List Nat) : Ex → St → Option (Ex × St)
 | .normal, s => some (.normal, kill live s)
 | e, s => some (e, s)

def AOp.rdh : AOp → Bool
 | .load .. | .b2s _ | .arrs .. | .lkp .. | .mlen _ => true
 | _ => false

def AOp.heed (refm : Nat → Bool) : AOp → Nat
 | .call (.c (.fn g _)) _ => bif refm g then 2 else 1
 | .load .. | .b2s _ | .arrs .. | .lkp .. | .mlen _ => 1
 | .bslc .. => 0
 | op => bif op.isPure then 0 else 2

def AOp.grows : AOp → Bool
 | .box _ | .zbox _ | .mks .. | .s2b _ | .mkm => true
 | _ => false

def AOp.plain (op : AOp) : Bool := op.opds.all fun | .t _ => true | .c v => noRef v

def conf (refm : Nat → Bool) (x y : AOp) : Bool :=
 decide (3 ≤ x.heed refm + y.heed refm) && !((x.grows && decide (y.heed refm ≤ 1) && y.plain) || (y.grows && decide (x.heed refm ≤ 1) && x.plain))

def seqK (f : St → Option R) (K : Ex → St → Option R) : Ex → St → Option R
 | .normal, s => f s
 | .exit id, s => K (.exit id) s
 | .ret, s => K .ret s

def zy1a (id : Nat) (K : Ex → St → Option R) : Ex → St → Option R
 | .normal, s => K .normal s
 | .exit id', s => bif id' == id then K .normal s else K (.exit id') s
 | .ret, s => K .ret s

def noC : Oracle := fun _ _ _ => none

def zyfm {R : Type} (l : List (Option R)) : Prop := ∃ r, ∀ x ∈ l, x = some r

noncomputable def ifP {R : Type} (p : Prop) (A : Option R) : Option R := @ite _ p (Classical.propDecidable p) A none

def sepV : AV → AV → Bool
 | .rp i _, .rp j _ => !(i == j)
 | .rp _ _, .ip _ => true
 | _, _ => false
def sepL : List AV → List AV → Bool
 | [], _ => true
 | a :: st, ld => ld.all (sepV a) && st.all (sepV a) && sepL st ld
def sepK {R : Type} (st ld : List AV) (A : Option R) : Option R := bif sepL st ld then A else none
def stoA (l : List AI) : List Opd := l.filterMap fun x => match x.op with | .store _ a _ => some a | _ => none
def ldA (l : List AI) : List Opd := l.filterMap fun x => match x.op with | .load _ a => some a | _ => none

def rfunK {R : Type} (fv : AV) (g : Nat) (run : List AV → Heap → Option Heap) (h : Heap) (K : Heap → Option R) : Option R :=
 match fv with
 | .fn g' caps => bif g' == g then (run (.yld h.length :: caps) (h ++ [some []])).bind fun h1 => K (h1.set h.length none) else none
 | _ => none
def setPs : List AV → List Nat → List AV → List AV
 | t, p :: ps, a :: as => setPs (t.set p a) ps as
 | t, _, _ => t
def hasY (id : Nat) (h : Heap) : Bool := match live h id with | some [] => true | _ => false
def withY (C : Oracle) (id : Nat) (rd : List AV → Heap → Option Heap) : Oracle := fun f args h =>
 bif Nat.blt f yb then C f args h
 else bif f == yb + id && hasY id h then (rd args h).map fun h' => (.bool true, h') else none
def endH (id : Nat) : Ex → St → Option Heap
 | .normal, s => bif hasY id s.h then some s.h else none
 | _, _ => none
def endR (id : Nat) : Ex → St → Option Heap
 | .exit _, _ => none
 | _, s => bif hasY id s.h then some s.h else none
def midY {R : Type} (id : Nat) (f : St → Option R) : Ex → St → Option R
 | .normal, s => bif hasY id s.h then f s else none
 | _, _ => none

noncomputable def evalC (C : Oracle) (refm : Nat → Bool) (It : Iter) : AC → {R : Type} → St → (Ex → St → Option R) → Option R
 | .skip, _, s, K => K .normal s
 | .ops l, _, s, K => zy52 C refm l s (K .normal)
 | .any live os, _, s, K => ifP (zyfm (os.map fun o => zy52 noC refm o (kill live s) some)) (zy52 noC refm (os.headD []) (kill live s) (K .normal))
 | .sep l, _, s, K => zy52 noC refm l s fun s1 => sepK ((stoA l).map s1.get) ((ldA l).map s1.get) (K .normal s1)
 | .seq a b, _, s, K => evalC C refm It a s (seqK (fun s' => evalC C refm It b s' K) K)
 | .cond c a b, _, s, K =>
  condK (s.get c) (evalC C refm It a s K) (evalC C refm It b s K)
 | .block id a, _, s, K => evalC C refm It a s (zy1a id K)
 | .loop dead a, _, s, K => (It (fun s => evalC C refm It a s (zyf7 dead)) (kill dead s)).bind fun r => K r.1 r.2
 | .exit id, _, s, K => K (.exit id) s
 | .ret, _, s, K => K .ret s
 | .rfun f g nt gc ps asg body, _, s, K =>
  rfunK (s.get f) g (fun args h => evalC (withY C s.h.length fun as h => bif as.length == ps.length then evalC C refm It asg ⟨setPs s.t ps as, h⟩ (midY s.h.length fun s' => evalC C refm It body s' (endH s.h.length)) else none) refm It gc ⟨args ++ List.replicate (nt - args.length) .undef, h⟩ (endR s.h.length)) s.h fun h => K .normal { s with h }
 | .bad, _, _, _ => none

def iter : Nat → Iter
 | 0, _, _ => none
 | n + 1, g, s => (g s).bind fun r =>
  match r.1 with
  | .normal => iter n g r.2
  | e => some (e, r.2)

def readRes (s : St) : ARes → Option AV
 | .t n => some (s.t.getD n .junk)
 | .cell n ag => zyd4 s.h ag (s.t.getD n .junk)

def zyen (s : St) : List ARes → Option (List AV)
 | [] => some []
 | r :: l => (readRes s r).bind fun v => (zyen s l).bind fun vs => some (v :: vs)

def results (s : St) (l : List ARes) : Option AV :=
 (zyen s l).map fun
  | [v] => v
  | vs => .tup vs

def zyeo (s : St) : List ARes → (List AV → Option R) → Option R
 | [], K => K []
 | .t n :: l, K => zyeo s l fun vs => K (s.t.getD n .junk :: vs)
 | .cell n ag :: l, K => (zyd4 s.h ag (s.t.getD n .junk)).bind fun v => zyeo s l fun vs => K (v :: vs)

def tupK (K : AV → Option R) : List AV → Option R
 | [v] => K v
 | vs => K (.tup vs)

def zyez (s : St) (l : List ARes) (K : AV → Option R) : Option R := zyeo s l (tupK K)

def entry (F : AFun) (args : List AV) : List AV := args ++ List.replicate (F.nt - args.length) .undef

def finK (F : AFun) (K : AV → Heap → Option R) : Ex → St → Option R
 | .exit _, _ => none
 | .normal, s => zyez s F.res fun v => K v s.h
 | .ret, s => zyez s F.res fun v => K v s.h

noncomputable def evalF (C : Oracle) (refm : Nat → Bool) (It : Iter) (F : AFun) (args : List AV) (h : Heap) (K : AV → Heap → Option R) : Option R :=
 evalC C refm It F.code ⟨entry F args, h⟩ (finK F K)

structure Prog where
 fn : Nat → Option AFun
 refm : Nat → Bool

noncomputable def callK (G : Prog) : Nat → Oracle
 | 0, _, _, _ => none
 | k + 1, f, args, h => (G.fn f).bind fun F => evalF (callK G k) G.refm (iter k) F args h fun v h' => some (v, h')

end Go.Proofs.YtiblnpnfaadmcaaGreat.Am
