import Derived.Orders
import Derived.Tactics
import Derived.Laws.World
import Derived.Laws.Rows
import Derived.Laws.Cells
import Derived.Below
import Derived.MapKept
import Derived.Laws.Slices
import Derived.Laws.Small
import Derived.Laws.StructEq
import Derived.Laws.Strings
import Derived.ChangeKeysEq
import Derived.Laws.IdiomMaps
import Derived.Laws.Build
import Derived.Laws.BytesString
import Derived.Lib.ConvBytes
import Derived.Laws.MakeOwn
set_option linter.unusedVariables false
set_option linter.unusedSimpArgs false

namespace Go.Proofs.Ythlbahcggmbfaaa.V
inductive VV where
 | undef
 | bool (b : Bool)
 | int (k : IntKind) (n : Int)
 | str (s : ByteArray)
 | nilptr
 | ptr (b i f : Nat)
 | nilslice
 | slice (b i n : Nat) (c : Option Nat) (z : Nat)
 | nilmap
 | map (b : Nat)
 | nilfunc
 | func (fn : Fn) (first caps : List VV)
 | niliface
 | iface (t : TypeId) (v : VV)
 | agg (cs : List VV)
 | tuple (vs : List VV)
 deriving Inhabited
structure Blk where
 es : List (List VV)
 esz : Nat
 fam : Nat
 org : Nat
 solo : Bool
 last : Bool
 ro : Bool
inductive VObj where
 | cells (k : Blk)
 | map (es : List (VV × VV))
inductive Tab where
 | nil
 | node (l : Tab) (v : Option VObj) (r : Tab)
def Tab.find : Tab → Nat → Option VObj
 | .nil, _ => none
 | .node l v r, n =>
  match Nat.beq n 0 with
  | true => v
  | false => match Nat.beq (n % 2) 1 with
   | true => l.find (n / 2)
   | false => r.find (n / 2 - 1)
def Tab.ins : Nat → Tab → Nat → VObj → Tab
 | 0, t, _, _ => t
 | k + 1, t, n, o =>
  let (l, v, r) := match t with
   | .nil => (Tab.nil, none, Tab.nil)
   | .node l v r => (l, v, r)
  match Nat.beq n 0 with
  | true => .node l (some o) r
  | false => match Nat.beq (n % 2) 1 with
   | true => .node (Tab.ins k l (n / 2) o) v r
   | false => .node l v (Tab.ins k r (n / 2 - 1) o)
def Tab.map (f : VObj → VObj) : Tab → Tab
 | .nil => .nil
 | .node l v r => .node (l.map f) (v.map f) (r.map f)
structure VHeap where
 next : Nat
 tab : Tab
def VHeap.empty : VHeap := ⟨0, .nil⟩
def VHeap.get (h : VHeap) (b : Nat) : Option VObj := match Nat.ble h.next b with | true => none | false => h.tab.find b
def VHeap.put (h : VHeap) (b : Nat) (o : VObj) : VHeap := ⟨h.next, h.tab.ins (b + 1) b o⟩
def VHeap.push (h : VHeap) (o : VObj) : VHeap := ⟨h.next + 1, h.tab.ins (h.next + 1) h.next o⟩
def killObj (fam lo : Nat) : VObj → VObj
 | .cells k => if k.fam = fam then (if lo < k.org + k.es.length then .cells { k with es := [], last := false } else .cells { k with last := false }) else .cells k
 | o => o
def VHeap.kill (h : VHeap) (fam lo : Nat) : VHeap := ⟨h.next, h.tab.map (killObj fam lo)⟩
abbrev Env := List VV
def Env.get (e : Env) (t : Nat) : VV := e.getD t .undef
def Env.set : Env → Nat → VV → Env
 | [], 0, v => [v]
 | [], n + 1, v => .undef :: Env.set [] n v
 | _ :: e, 0, v => v :: e
 | x :: e, n + 1, v => x :: Env.set e n v
def Env.put (e : Env) (d : Option Tmp) (v : VV) : Env := match d with | some t => Env.set e t v | none => e
def ofVal : Nat → Value → Option VV
 | 0, _ => none
 | _ + 1, .bool b => some (.bool b)
 | _ + 1, .int k n => some (.int k n)
 | _ + 1, .string s => some (.str s)
 | _ + 1, .pointer none => some .nilptr
 | _ + 1, .slice none 0 0 => some .nilslice
 | _ + 1, .map none => some .nilmap
 | _ + 1, .nilFunc => some .nilfunc
 | _ + 1, .nilIface => some .niliface
 | d + 1, .agg cs => (cs.toList.mapM (ofVal d)).map .agg
 | _, _ => none
def ev (e : Env) : Operand → VV
 | .tmp t => e.get t
 | .const v => (ofVal 3 v).getD .undef
 | .global _ => .undef
 | .func f => .func (.func f) [] []
def vcells : VV → List VV
 | .agg cs => cs
 | v => [v]
section types
variable (P : Program)
def oneCell : VV → Bool
 | .agg _ | .tuple _ | .undef => false
 | _ => true
def vzero (t : TypeId) : Option VV :=
 match ((P.info? t).bind (·.zero)).bind (ofVal 3) with
 | some z => if (vcells z).all oneCell ∧ (vcells z).length = P.cellsOf t then some z else none
 | none => none
def fromCells (t : TypeId) (cs : List VV) : Option VV :=
 match P.underlying t with
 | some (.struct _) => some (.agg cs)
 | some (.array _ _) => some (.agg cs)
 | some _ => match cs with
  | [v] => some v
  | _ => none
 | none => none
def vpart (t : TypeId) (cs : List VV) (off : Nat) : Option VV :=
 if off + P.cellsOf t ≤ cs.length then fromCells P t ((cs.drop off).take (P.cellsOf t)) else none
def rd (h : VHeap) (b i f n : Nat) : Option (List VV) :=
 match h.get b with
 | some (.cells k) => match k.es[i]? with
  | some c => if f + n ≤ c.length then some ((c.drop f).take n) else none
  | none => none
 | _ => none
def wr (h : VHeap) (b i f : Nat) (vs : List VV) : Option VHeap :=
 match h.get b with
 | some (.cells k) => match k.es[i]?, k.ro with
  | some c, false =>
   if f + vs.length ≤ c.length then
    let o := VObj.cells { k with es := k.es.set i (c.take f ++ vs ++ c.drop (f + vs.length)) }
    match k.solo with
    | true => some (h.put b o)
    | false => some ((h.kill k.fam (k.org + i)).put b o)
   else none
  | _, _ => none
 | _ => none
def vload (t : TypeId) (h : VHeap) : VV → Option VV
 | .ptr b i f => (rd h b i f (P.cellsOf t)).bind (fromCells P t)
 | _ => none
def vstore (t : TypeId) (h : VHeap) (a v : VV) : Option VHeap :=
 match a with
 | .ptr b i f => if (vcells v).length = P.cellsOf t ∧ (vcells v).all oneCell ∧ P.cellsOf t ≠ 0 then wr h b i f (vcells v) else none
 | _ => none
def fresh (h : VHeap) (es : List (List VV)) (esz : Nat) : VHeap :=
 h.push (.cells { es, esz, fam := h.next, org := 0, solo := true, last := true, ro := false })
def fillV (place : Nat → Option (Nat × Nat)) (cells : List VV) : List (Nat × VV) → Option (List VV)
 | [] => some cells
 | (i, v) :: rest =>
  match place i with
  | none => none
  | some (off, size) =>
   if (vcells v).length ≠ size ∨ off + size > cells.length ∨ (vcells v).all oneCell = false then none
   else fillV place (cells.take off ++ vcells v ++ cells.drop (off + size)) rest
def fieldsOf (t : TypeId) : Option (Array Field) := match P.underlying t with | some (.struct fs) => some fs | _ => none
def vbuild (t : TypeId) (parts : List (Nat × VV)) : Option VV :=
 match vzero P t with
 | some z => match P.underlying t with
  | some (.struct fs) => if fs.toList.all (fun f => (P.info? f.type).isSome) then (fillV (fun i => (fs[i]?).map fun f => (f.offset, P.cellsOf f.type)) (vcells z) parts).map .agg else none
  | some (.array _ e) => if P.cellsOf e = 0 then none else (fillV (fun i => some (i * P.cellsOf e, P.cellsOf e)) (vcells z) parts).map .agg
  | _ => none
 | none => none
def chunks (n : Nat) : Nat → List VV → List (List VV)
 | 0, _ => []
 | k + 1, l => l.take n :: chunks n k (l.drop n)
def vbuildSlice (t : TypeId) (len : Nat) (parts : List (Nat × VV)) (h : VHeap) : Option (VV × VHeap) :=
 match P.underlying t with
 | some (.slice e) => match vzero P e with
  | some z =>
   let s := P.cellsOf e
   if s = 0 ∨ len * s > 2 ^ 24 then none else
   match fillV (fun i => some (i * s, s)) (List.flatten (List.replicate len (vcells z))) parts with
   | some cs => if cs.all oneCell then some (.slice h.next 0 len (some len) s, fresh h (chunks s len cs) s) else none
   | none => none
  | none => none
 | _ => none
def maxBytes : Nat := 2 ^ 47
def vappend (t : TypeId) (s : VV) (xs : List (List VV)) (h : VHeap) : Option (VV × VHeap) :=
 match P.underlying t with
 | some (.slice e) =>
  let z := P.cellsOf e
  let m := xs.length
  match vzero P e with
  | none => none
  | some _ =>
  if z = 0 then none else
  match s with
  | .nilslice =>
   match m with
   | 0 => some (.nilslice, h)
   | _ => if m * P.bytesOf e ≤ maxBytes ∧ m ≤ maxBytes then some (.slice h.next 0 m none z, fresh h xs z) else none
  | .slice b i n c z' =>
   match m with
   | 0 => if z' = z then some (.slice b i n c z', h) else none
   | _ =>
   match h.get b with
   | some (.cells k) =>
    if z' ≠ z ∨ k.esz ≠ z ∨ k.es.length < i + n then none else
    let room : Bool := match c with | some cap => Nat.ble (n + m) cap | none => Nat.ble (i + n + m) k.es.length
    match room with
    | true =>
     if k.ro = true ∨ k.es.length < i + n + m then none else
     some (.slice b i (n + m) c z, (match k.solo with | true => h | false => h.kill k.fam (k.org + (i + n))).put b (.cells { k with es := k.es.take (i + n) ++ xs ++ k.es.drop (i + n + m) }))
    | false =>
     if maxBytes < (n + m) * P.bytesOf e ∨ maxBytes < n + m then none else
     match c with
     | some _ => some (.slice h.next 0 (n + m) none z, fresh h ((k.es.drop i).take n ++ xs) z)
     | none =>
      if k.ro = true then none else
      let h0 := h.put b (.cells { k with solo := false, last := false })
      let h1 := match k.last && Nat.beq (i + n) k.es.length with
       | true => h0
       | false => h0.kill k.fam (k.org + (i + n))
      some (.slice h.next 0 (n + m) none z,
       h1.push (.cells { es := (k.es.drop i).take n ++ xs, esz := z, fam := k.fam, org := k.org + i, solo := false, last := true, ro := false }))
   | _ => none
  | _ => none
 | _ => none
def elemsOf (z : Nat) (h : VHeap) : VV → Option (List (List VV))
 | .nilslice => some []
 | .slice b i n _ z' => match h.get b with
  | some (.cells k) => if z' = z ∧ i + n ≤ k.es.length then some ((k.es.drop i).take n) else none
  | _ => none
 | .str s => if z = 1 then some (s.data.toList.map fun c => [.int .u8 c.toNat]) else none
 | _ => none
def overwrite (h : VHeap) (b i : Nat) (xs : List (List VV)) : Option VHeap :=
 match h.get b with
 | some (.cells k) =>
  if k.ro = true ∨ k.es.length < i + xs.length then none else
  some ((match k.solo with | true => h | false => h.kill k.fam (k.org + i)).put b (.cells { k with es := k.es.take i ++ xs ++ k.es.drop (i + xs.length) }))
 | _ => none
def natOf : VV → Option Nat
 | .int _ n => if 0 ≤ n then some n.toNat else none
 | _ => none
def vslice (esz : Nat) (x : VV) (lo hi mx : Option VV) : Option VV :=
 match (lo.map natOf).getD (some 0) with
 | none => none
 | some l =>
  match x with
  | .str s =>
   match (hi.map natOf).getD (some s.size), mx with
   | some g, none => if l ≤ g ∧ g ≤ s.size then some (.str (s.extract l g)) else none
   | _, _ => none
  | .nilslice =>
   match (hi.map natOf).getD (some 0), (mx.map natOf).getD (some 0) with
   | some 0, some 0 => if l = 0 ∧ (hi.isSome ∨ mx.isNone) then some .nilslice else none
   | _, _ => none
  | .slice b i n (some c) z =>
   match (hi.map natOf).getD (some n), (mx.map natOf).getD (some c) with
   | some g, some m =>
    if z = esz ∧ l ≤ g ∧ g ≤ m ∧ m ≤ c ∧ (hi.isSome ∨ mx.isNone) then some (.slice b (if m = l then i else i + l) (g - l) (some (m - l)) z) else none
   | _, _ => none
  | .slice b i n none z =>
   match (hi.map natOf).getD (some n), mx with
   | some g, none => if z = esz ∧ l ≤ g ∧ g ≤ n then some (.slice b (i + l) (g - l) none z) else none
   | some g, some m => match natOf m with
    | some m => if z = esz ∧ l ≤ g ∧ g ≤ m ∧ m ≤ n ∧ hi.isSome then some (.slice b (if m = l then i else i + l) (g - l) (some (m - l)) z) else none
    | none => none
   | none, _ => none
  | _ => none
def vint (op : BinOp) (k : IntKind) (x y : Int) : Option VV :=
 match op with
 | .add => some (.int k (k.wrap (x + y)))
 | .sub => some (.int k (k.wrap (x - y)))
 | .mul => some (.int k (k.wrap (x * y)))
 | .quo => if y = 0 then none else some (.int k (k.wrap (x.tdiv y)))
 | .rem => if y = 0 then none else some (.int k (x.tmod y))
 | .and => some (.int k (k.wrap (BitVec.ofInt k.bits x &&& BitVec.ofInt k.bits y).toNat))
 | .or => some (.int k (k.wrap (BitVec.ofInt k.bits x ||| BitVec.ofInt k.bits y).toNat))
 | .xor => some (.int k (k.wrap (BitVec.ofInt k.bits x ^^^ BitVec.ofInt k.bits y).toNat))
 | .andNot => some (.int k (k.wrap (BitVec.ofInt k.bits x &&& ~~~ (BitVec.ofInt k.bits y)).toNat))
 | .eql => some (.bool (x == y))
 | .neq => some (.bool (x != y))
 | .lss => some (.bool (x < y))
 | .leq => some (.bool (x ≤ y))
 | .gtr => some (.bool (x > y))
 | .geq => some (.bool (x ≥ y))
 | _ => none
def vshift (op : BinOp) (k : IntKind) (x y : Int) : Option VV :=
 if y < 0 then none else
 match op with
 | .shl => some (.int k (k.wrap (x * 2 ^ (min y.toNat k.bits))))
 | .shr => some (.int k (x.fdiv (2 ^ (min y.toNat k.bits))))
 | _ => none
def vstr (op : BinOp) (x y : ByteArray) : Option VV :=
 match op with
 | .add => if ((x.size + y.size : Nat) : Int) > IntKind.i64.max then none else some (.str (x ++ y))
 | .eql => some (.bool (x.toList == y.toList))
 | .neq => some (.bool !(x.toList == y.toList))
 | .lss => some (.bool (Op.bytesLess x.toList y.toList))
 | .leq => some (.bool (Op.bytesLess x.toList y.toList || x.toList == y.toList))
 | .gtr => some (.bool !(Op.bytesLess x.toList y.toList || x.toList == y.toList))
 | .geq => some (.bool !(Op.bytesLess x.toList y.toList))
 | _ => none
def veq : (depth : Nat) → TypeId → VV → VV → Option Bool
 | 0, _, _, _ => none
 | d + 1, t, x, y =>
  match P.underlying t, x, y with
  | some .bool, .bool a, .bool b => some (a == b)
  | some (.int _), .int k a, .int k' b => if k = k' then some (a == b) else none
  | some .string, .str a, .str b => some (a == b)
  | some (.pointer _), .nilptr, .nilptr => some true
  | some (.pointer _), .nilptr, .ptr _ _ _ => some false
  | some (.pointer _), .ptr _ _ _, .nilptr => some false
  | some (.interface _), .niliface, .niliface => some true
  | some (.interface _), .niliface, .iface _ _ => some false
  | some (.interface _), .iface _ _, .niliface => some false
  | some (.interface _), .iface tx vx, .iface ty vy =>
   if tx ≠ ty then some false else
   match P.info? tx with
   | some i => if i.comparable then veq d tx vx vy else none
   | none => none
  | some (.struct fs), .agg xs, .agg ys =>
   if P.stoodInHeld t then none else
   fs.toList.foldr (fun f r =>
    if f.name = "_" then r else
    match vpart P f.type xs f.offset, vpart P f.type ys f.offset with
    | some a, some b => match veq d f.type a b with
     | some true => r
     | some false => some false
     | none => none
    | _, _ => none) (some true)
  | some (.slice _), .nilslice, .nilslice => some true
  | some (.slice _), .nilslice, .slice _ _ _ _ _ => some false
  | some (.slice _), .slice _ _ _ _ _, .nilslice => some false
  | some (.map _ _), .nilmap, .nilmap => some true
  | some (.map _ _), .nilmap, .map _ => some false
  | some (.map _ _), .map _, .nilmap => some false
  | some (.func _ _ _), .nilfunc, .nilfunc => some true
  | some (.func _ _ _), .nilfunc, .func _ _ _ => some false
  | some (.func _ _ _), .func _ _ _, .nilfunc => some false
  | _, _, _ => none
def isConstB : Operand → Bool
 | .const _ => true
 | _ => false
def eqOK (t : TypeId) (x y : Operand) : VV → VV → Bool
 | .niliface, .niliface => isConstB x || isConstB y
 | .agg _, .agg _ => !(P.eqGuardType P.depth t)
 | .undef, _ => false
 | _, .undef => false
 | _, _ => true
def vbin (op : BinOp) (t : TypeId) (ox oy : Operand) (x y : VV) : Option VV :=
 match x, y with
 | .int k a, .int k' b =>
  match op with
  | .shl | .shr => vshift op k a b
  | _ => if k = k' then vint op k a b else none
 | .str a, .str b => vstr op a b
 | x, y =>
  match op, eqOK P t ox oy x y with
  | .eql, true => (veq P 100 t x y).map .bool
  | .neq, true => (veq P 100 t x y).map fun b => .bool !b
  | _, _ => none
def vun (op : UnOp) (x : VV) : Option VV :=
 match op, x with
 | .neg, .int k n => some (.int k (k.wrap (0 - n)))
 | .xor, .int k n => some (.int k (k.wrap (BitVec.ofInt k.bits (if k.signed then -1 else k.max) ^^^ BitVec.ofInt k.bits n).toNat))
 | .not, .bool b => some (.bool !b)
 | _, _ => none
def bytesOfCells : List (List VV) → Option (List UInt8)
 | [] => some []
 | [.int .u8 n] :: r => (bytesOfCells r).map (UInt8.ofNat n.toNat :: ·)
 | _ => none
def vconv (src dst : TypeId) (x : VV) : Option VV :=
 match P.underlying src, P.underlying dst, x with
 | some _, some (.int k), .int _ n => some (.int k (k.wrap n))
 | some _, some .string, .str s => some (.str s)
 | some (.int _), some .string, .int _ n => some (.str (Utf8.encode n))
 | _, _, _ => none
def vconvRead (src dst : TypeId) (x : VV) (h : VHeap) : Option VV :=
 match P.underlying src, P.underlying dst with
 | some (.slice e), some .string => match P.underlying e, x with
  | some (.int .u8), .nilslice => some (.str .empty)
  | some (.int .u8), .slice b i n c z => ((elemsOf 1 h (.slice b i n c z)).bind bytesOfCells).map fun l => .str ⟨l.toArray⟩
  | _, _ => none
 | _, _ => none
def vconvNew (src dst : TypeId) (x : VV) (h : VHeap) : Option (VV × VHeap) :=
 match P.underlying src, P.underlying dst, x with
 | some .string, some (.slice e), .str s => match P.underlying e with
  | some (.int .u8) =>
   if P.cellsOf e ≠ 1 ∨ maxBytes < s.size then none else
   some (.slice h.next 0 s.size none 1, fresh h (s.data.toList.map fun c => [.int .u8 c.toNat]) 1)
  | _ => none
 | _, _, _ => none
def findMap (key : VV) : List (VV × VV) → Option (Option VV)
 | [] => some none
 | (k, v) :: r =>
  match key, k with
  | .int a x, .int b y => if a = b then (if x = y then some (some v) else findMap key r) else none
  | .str x, .str y => if x.toList = y.toList then some (some v) else findMap key r
  | _, _ => none
def setMap (key val : VV) : List (VV × VV) → List (VV × VV)
 | [] => [(key, val)]
 | (k, v) :: r =>
  match key, k with
  | .int _ x, .int _ y => if x = y then (key, val) :: r else (k, v) :: setMap key val r
  | .str x, .str y => if x.toList = y.toList then (key, val) :: r else (k, v) :: setMap key val r
  | _, _ => (k, v) :: setMap key val r
def delMap (key : VV) : List (VV × VV) → List (VV × VV)
 | [] => []
 | (k, v) :: r =>
  match key, k with
  | .int _ x, .int _ y => if x = y then r else (k, v) :: delMap key r
  | .str x, .str y => if x.toList = y.toList then r else (k, v) :: delMap key r
  | _, _ => (k, v) :: delMap key r
def mapAt (h : VHeap) : VV → Option (List (VV × VV))
 | .nilmap => some []
 | .map b => match h.get b with | some (.map es) => some es | _ => none
 | _ => none
def keyOK (t : TypeId) (k : VV) : Bool :=
 match P.underlying t, k with
 | some (.int k'), .int k _ => k == k'
 | some .string, .str _ => true
 | _, _ => false
def vlookup (t : TypeId) (m key : VV) (ok : Bool) (h : VHeap) : Option VV :=
 match P.underlying t with
 | some (.map kt et) =>
  if keyOK P kt key then
   match (mapAt h m).bind (findMap key) with
   | some r => match vzero P et with
    | some z =>
     let v := r.getD z
     some (if ok then .tuple [v, .bool r.isSome] else v)
    | none => none
   | none => none
  else none
 | _ => none
def vmapUpdate (t : TypeId) (m key val : VV) (h : VHeap) : Option VHeap :=
 match P.underlying t, m with
 | some (.map kt _), .map b =>
  if keyOK P kt key then
   match h.get b with
   | some (.map es) => match findMap key es with
    | some _ => some (h.put b (.map (setMap key val es)))
    | none => none
   | _ => none
  else none
 | _, _ => none
def vmethod (t : TypeId) (name : String) : Option FuncId :=
 match (P.info? t).bind fun i => i.methods.find? (·.name == name) with
 | some m => match m.path.isEmpty, m.func with
  | true, some (f, p) => match P.underlying t, p with
   | some (.pointer _), true => some f
   | some (.pointer _), false => none
   | some _, false => some f
   | _, _ => none
  | _, _ => none
 | none => none
abbrev Caller := FuncId → List VV → VHeap → Option (VV × VHeap)
def argsOf (e : Env) (xs : Array Operand) : List VV := xs.toList.map (ev e)
def plainFunc (f : FuncId) : Bool :=
 match P.funcs[f]? with
 | some fn => fn.body.isSome && !(fn.name == "runtime.NumGoroutine")
 | none => false
def vcall (call : Caller) (c : Call) (e : Env) (h : VHeap) : Option (VV × VHeap) :=
 match c.callee with
 | .value f => match ev e f with
  | .func (.func g) first caps => if plainFunc P g then call g (first ++ argsOf e c.args ++ caps) h else none
  | _ => none
 | .invoke r name => match ev e r with
  | .iface t v => match vmethod P t name with
   | some g => if plainFunc P g then call g (v :: argsOf e c.args) h else none
   | none => none
  | _ => none
 | .builtin b =>
  match b, argsOf e c.args with
  | .append, [s, x] => match c.argTypes[0]?, c.argTypes[1]? with
   | some t, some u => match P.underlying t, P.underlying u with
    | some (.slice el), some (.slice _) => (elemsOf (P.cellsOf el) h x).bind fun xs => vappend P t s xs h
    | some (.slice el), some .string => (elemsOf (P.cellsOf el) h x).bind fun xs => vappend P t s xs h
    | _, _ => none
   | _, _ => none
  | .len, [x] => match (c.argTypes[0]?).bind P.underlying, x with
   | some .string, .str s => some (.int .i64 s.size, h)
   | some (.slice _), .nilslice => some (.int .i64 0, h)
   | some (.slice _), .slice _ _ n _ _ => some (.int .i64 n, h)
   | some (.map _ _), m => (mapAt h m).map fun es => (.int .i64 es.length, h)
   | some (.array n _), _ => some (.int .i64 n, h)
   | _, _ => none
  | .copy, [d, x] => match (c.argTypes[0]?).bind P.underlying with
   | some (.slice el) => if P.cellsOf el = 0 then none else match elemsOf (P.cellsOf el) h x, d with
    | some xs, .slice b i n _ z => if z = P.cellsOf el then (overwrite h b i (xs.take n)).map fun h' => (.int .i64 (Nat.min xs.length n : Nat), h') else none
    | some _, .nilslice => some (.int .i64 0, h)
    | _, _ => none
   | _ => none
  | .clear, [x] => match (c.argTypes[0]?).bind P.underlying, x with
   | some (.slice _), .nilslice => some (.tuple [], h)
   | some (.slice el), .slice b i n _ z =>
    match n with
    | 0 => some (.tuple [], h)
    | _ => match vzero P el with
     | some zv => if P.cellsOf el = z then (overwrite h b i (List.replicate n (vcells zv))).map fun h' => (.tuple [], h') else none
     | none => none
   | _, _ => none
  | .delete, [m, k] => match (c.argTypes[0]?).bind P.underlying, m with
   | some (.map kt _), .map b =>
    if keyOK P kt k then match h.get b with
     | some (.map es) => match findMap k es with
      | some _ => some (.tuple [], h.put b (.map (delMap k es)))
      | none => none
     | _ => none
    else none
   | _, _ => none
  | .max, [.int k x, .int _ y] => some (.int k (if y > x then y else x), h)
  | .min, [.int k x, .int _ y] => some (.int k (if y < x then y else x), h)
  | _, _ => none
def vop (call : Caller) (o : Oper) (e : Env) (h : VHeap) : Option (VV × VHeap) :=
 let pure (v : Option VV) : Option (VV × VHeap) := v.map fun v => (v, h)
 match o.op with
 | .move x | .assign x => some (ev e x, h)
 | .pick c a b => match ev e c with
  | .bool true => some (ev e a, h)
  | .bool false => some (ev e b, h)
  | _ => none
 | .alloc t => match vzero P t with
  | some z => if P.cellsOf t = 0 then none else some (.ptr h.next 0 0, fresh h [vcells z] (P.cellsOf t))
  | none => none
 | .box t x =>
  let cs := vcells (ev e x)
  if cs.length = P.cellsOf t ∧ P.cellsOf t ≠ 0 ∧ cs.all oneCell then some (.ptr h.next 0 0, fresh h [cs] (P.cellsOf t)) else none
 | .build t parts => pure (vbuild P t (parts.toList.map fun (i, x) => (i, ev e x)))
 | .buildSlice t len parts => vbuildSlice P t len (parts.toList.map fun (i, x) => (i, ev e x)) h
 | .load t a => pure (vload P t h (ev e a))
 | .store t a x => (vstore P t h (ev e a) (ev e x)).map fun h' => (.undef, h')
 | .nilCheck x => match ev e x with
  | .ptr b i f => some (.ptr b i f, h)
  | .iface t v => some (.iface t v, h)
  | .func (.func g) first caps => some (.func (.func g) first caps, h)
  | _ => none
 | .binOp op t x y _ => pure (vbin P op t x y (ev e x) (ev e y))
 | .unOp op _ x => pure (vun op (ev e x))
 | .convert src dst x => match P.underlying src, P.underlying dst with
  | some (.slice _), some .string => pure (vconvRead P src dst (ev e x) h)
  | some .string, some (.slice _) => vconvNew P src dst (ev e x) h
  | _, _ => pure (vconv P src dst (ev e x))
 | .makeInterface t x => match P.underlying t with
  | some (.interface _) => none
  | some _ => some (.iface t (ev e x), h)
  | none => none
 | .makeFunc fn first caps => some (.func fn (argsOf e first) (argsOf e caps), h)
 | .makeMap _ none => some (.map h.next, h.push (.map []))
 | .makeSlice t l c => match P.underlying t, natOf (ev e l), natOf (ev e c) with
  | some (.slice el), some l, some c => match vzero P el with
   | some z =>
    if l ≤ c ∧ c * P.bytesOf el ≤ maxBytes ∧ c ≤ maxBytes ∧ P.cellsOf el ≠ 0 then
     some (.slice h.next 0 l (some c) (P.cellsOf el), fresh h (List.replicate c (vcells z)) (P.cellsOf el))
    else none
   | none => none
  | _, _, _ => none
 | .slice t x lo hi mx => match P.underlying t, ev e x with
  | some .string, .str s => pure (vslice 0 (.str s) (lo.map (ev e)) (hi.map (ev e)) (mx.map (ev e)))
  | some (.slice el), .slice b i n c z => if P.cellsOf el = 0 then none else pure (vslice (P.cellsOf el) (.slice b i n c z) (lo.map (ev e)) (hi.map (ev e)) (mx.map (ev e)))
  | some (.slice el), .nilslice => if P.cellsOf el = 0 then none else pure (vslice 0 .nilslice (lo.map (ev e)) (hi.map (ev e)) (mx.map (ev e)))
  | _, _ => none
 | .fieldAddr s x f => match P.underlying s, ev e x with
  | some (.struct fs), .ptr b i g => match fs[f]? with
   | some fd => if P.cellsOf fd.type = 0 then none else some (.ptr b i (g + fd.offset), h)
   | none => none
  | _, _ => none
 | .field s x f => match P.underlying s, ev e x with
  | some (.struct fs), .agg cs => match fs[f]? with
   | some fd => pure (vpart P fd.type cs fd.offset)
   | none => none
  | _, _ => none
 | .indexAddr t x ix => match P.underlying t, ev e x, natOf (ev e ix) with
  | some (.slice el), .slice b i n _ z, some j => if j < n ∧ P.cellsOf el = z ∧ z ≠ 0 then some (.ptr b (i + j) 0, h) else none
  | some (.array n el), .ptr b i f, some j => if j < n ∧ P.cellsOf el ≠ 0 then some (.ptr b i (f + j * P.cellsOf el), h) else none
  | _, _, _ => none
 | .index t x ix => match P.underlying t, ev e x, natOf (ev e ix) with
  | some (.array n el), .agg cs, some j => if j < n then pure (vpart P el cs (j * P.cellsOf el)) else none
  | some .string, .str s, some j => match s.data.toList[j]? with
   | some c => some (.int .u8 c.toNat, h)
   | none => none
  | _, _, _ => none
 | .lookup t m k ok => pure (vlookup P t (ev e m) (ev e k) ok h)
 | .mapUpdate t m k x | .insert t m k x => (vmapUpdate P t (ev e m) (ev e k) (ev e x) h).map fun h' => (.undef, h')
 | .typeAssert x _ t ok => match P.underlying t, ev e x with
  | some (.interface _), _ => none
  | some _, .iface t' v =>
   if t' = t then some (if ok then .tuple [v, .bool true] else v, h)
   else if ok then (vzero P t).map fun z => (.tuple [z, .bool false], h) else none
  | some _, .niliface => if ok then (vzero P t).map fun z => (.tuple [z, .bool false], h) else none
  | _, _ => none
 | .extract x i => match ev e x with
  | .tuple vs => match vs[i]? with
   | some v => some (v, h)
   | none => none
  | _ => none
 | .call c => vcall P call c e h
 | _ => none
inductive Kind where
 | pure | read | alloc | eff
 deriving DecidableEq
def kindOf (o : Oper) : Kind :=
 match o.op with
 | .alloc _ | .box _ _ | .buildSlice _ _ _ | .makeMap _ _ | .makeSlice _ _ _ => .alloc
 | .load _ _ | .lookup _ _ _ _ => .read
 | .convert src dst _ => match P.underlying src, P.underlying dst with
  | some (.slice _), some .string => .read
  | some .string, some (.slice _) => .alloc
  | _, _ => .pure
 | .store _ _ _ | .mapUpdate _ _ _ _ | .insert _ _ _ _ => .eff
 | .call { callee := .builtin .len, argTypes, .. } => match (argTypes[0]?).bind P.underlying with
  | some (.map _ _) => .read
  | _ => .pure
 | .call { callee := .builtin .max, .. } | .call { callee := .builtin .min, .. } => .pure
 | .call _ => .eff
 | _ => .pure
def skipped : VV := .tuple []
def yieldedV (ops : Array Oper) (e : Env) (j : Nat) : Option (Option Bool) :=
 match (ops[j]?).bind (·.dst) with
 | some t => match e.get t with
  | .bool b => some (some b)
  | .tuple [] => some none
  | _ => none
 | none => none
def wantedV (ops : Array Oper) (o : Oper) (e : Env) : Option Bool :=
 match o.guard with
 | none => some true
 | some (j, want) => match yieldedV ops e j with
  | some (some b) => some (b == want)
  | some none => some false
  | none => none
def vops (call : Caller) (ops : Array Oper) : List Oper → Env → VHeap → Option (Env × VHeap)
 | [], e, h => some (e, h)
 | o :: rest, e, h =>
  match wantedV ops o e with
  | some true => match vop P call o e h with
   | some (v, h') => vops call ops rest (e.put o.dst v) h'
   | none => none
  | some false => vops call ops rest (e.put o.dst skipped) h
  | none => none
end types
end Go.Proofs.Ythlbahcggmbfaaa.V

namespace Go.Proofs.Ythlbahcggmbfaaa.V
mutual
def VV.same : VV → VV → Bool
 | .undef, .undef => true
 | .bool a, .bool b => a == b
 | .int j a, .int k b => decide (j = k) && decide (a = b)
 | .str a, .str b => decide (a.data.toList = b.data.toList)
 | .nilptr, .nilptr => true
 | .ptr a b c, .ptr x y z => Nat.beq a x && Nat.beq b y && Nat.beq c z
 | .nilslice, .nilslice => true
 | .slice a b c d e, .slice x y z u v => Nat.beq a x && Nat.beq b y && Nat.beq c z && decide (d = u) && Nat.beq e v
 | .nilmap, .nilmap => true
 | .map a, .map b => Nat.beq a b
 | .nilfunc, .nilfunc => true
 | .func (.func f) a b, .func (.func g) x y => Nat.beq f g && VV.sames a x && VV.sames b y
 | .niliface, .niliface => true
 | .iface t a, .iface u b => Nat.beq t u && VV.same a b
 | .agg a, .agg b => VV.sames a b
 | .tuple a, .tuple b => VV.sames a b
 | _, _ => false
def VV.sames : List VV → List VV → Bool
 | [], [] => true
 | a :: x, b :: y => VV.same a b && VV.sames x y
 | _, _ => false
end
section
variable (P : Program)
def readAt (o : Oper) (e : Env) (v : VV) (h : VHeap) : Bool :=
 match vop P (fun _ _ _ => none) o e h with
 | some (u, _) => VV.same u v
 | none => false
def vdraw (call : Caller) (ops : Array Oper) (bef : Array Nat) : (i : Nat) → List Oper → Env → VHeap →
  List (Nat × Oper × Env × VV) → List (Nat × VHeap) → Option (Env × VHeap)
 | _, [], e, h, _, _ => some (e, h)
 | i, o :: rest, e, h, rs, es =>
  match wantedV ops o e with
  | none => none
  | some false => vdraw call ops bef (i + 1) rest (e.put o.dst skipped) h rs es
  | some true =>
   match vop P call o e h with
   | none => none
   | some (v, h') =>
    match kindOf P o with
    | .read =>
     if es.all fun (j, hb) => (bef.getD i 0).testBit j || readAt P o e v hb
     then vdraw call ops bef (i + 1) rest (e.put o.dst v) h' ((i, o, e, v) :: rs) es else none
    | .eff =>
     if rs.all fun (j, p, d, u) => (bef.getD i 0).testBit j || readAt P p d u h'
     then vdraw call ops bef (i + 1) rest (e.put o.dst v) h' rs ((i, h) :: es) else none
    | _ => vdraw call ops bef (i + 1) rest (e.put o.dst v) h' rs es
def namesOf (ops : Array Oper) (o : Oper) : List Tmp :=
 o.dst.toList ++ o.op.operands.toList.filterMap (fun x => match x with | .tmp t => some t | _ => none) ++
  (match o.guard with | some (j, _) => ((ops[j]?).bind (·.dst)).toList | none => [])
def inChain (o : Oper) : Bool := match kindOf P o with | .eff => true | .alloc => true | _ => false
def isEff (o : Oper) : Bool := match kindOf P o with | .eff => true | _ => false
def drawOK (ops : Array Oper) : Bool :=
 let bef := Region.before ops
 ops.toList.zipIdx.all fun (o, j) =>
  ((o.after.toList.all fun e => !Region.binds .any e || Nat.blt e.on j) &&
  ops.toList.zipIdx.all fun (p, i) => Nat.ble j i || (bef.getD j 0).testBit i ||
   !((isEff P o && inChain P p) || (match p.dst with | some t => (namesOf ops o).contains t | none => false) || (match o.dst with | some t => (namesOf ops p).contains t | none => false))) &&
  (isEff P o || !inChain P o || ops.toList.zipIdx.all fun (p, i) => Nat.ble i j || !(match o.dst with | some t => (namesOf ops p).contains t | none => false) ||
   ops.toList.zipIdx.all fun (q, k) => Nat.ble j k || !inChain P q || (bef.getD i 0).testBit k)
def vregion (call : Caller) (ops : Array Oper) (draw : Bool) (e : Env) (h : VHeap) : Option (Env × VHeap) :=
 match draw with
 | false => vops P call ops ops.toList e h
 | true => match drawOK P ops with
  | true => vdraw P call ops (Region.before ops) 0 ops.toList e h [] []
  | false => none
inductive VExit where
 | normal
 | exit (id : Nat)
 | ret
def vresult (e : Env) (h : VHeap) : ResultVar → Option VV
 | .tmp t => some (e.get t)
 | .cell a t => vload P t h (e.get a)
def vresults (fn : Func) (e : Env) (h : VHeap) : Option VV :=
 match fn.results.toList.mapM (vresult P e h) with
 | some [v] => some v
 | some vs => some (.tuple vs)
 | none => none
abbrev Ext := FuncId → Option (List VV → VHeap → Option (VV × VHeap))
def vfun (exec : Code → Env → VHeap → Option (VExit × Env × VHeap)) (X : Ext) (f : FuncId) (args : List VV) (h : VHeap) : Option (VV × VHeap) :=
 match X f with
 | some g => g args h
 | none => match P.funcs[f]? with
  | some fn => match fn.body with
   | some c => if args.length ≤ fn.ntmps then
     match exec c args h with
     | some (.normal, e, h') => (vresults P fn e h').map fun v => (v, h')
     | some (.ret, e, h') => (vresults P fn e h').map fun v => (v, h')
     | _ => none
    else none
   | none => none
  | none => none
def vexec (X : Ext) : Nat → Code → Env → VHeap → Option (VExit × Env × VHeap)
 | 0, _, _, _ => none
 | k + 1, c, e, h =>
  match c with
  | .skip => some (.normal, e, h)
  | .label _ => some (.normal, e, h)
  | .region _ ops draw => match vregion P (vfun P (vexec X k) X) ops draw e h with
   | some (e, h) => some (.normal, e, h)
   | none => none
  | .seq a b => match vexec X k a e h with
   | some (.normal, e, h) => vexec X k b e h
   | r => r
  | .cond c a b => match ev e c with
   | .bool true => vexec X k a e h
   | .bool false => vexec X k b e h
   | _ => none
  | .block id c => match vexec X k c e h with
   | some (.exit id', e, h) => match Nat.beq id' id with
    | true => some (.normal, e, h)
    | false => some (.exit id', e, h)
   | r => r
  | .loop c => match vexec X k c e h with
   | some (.normal, e, h) => vexec X k (.loop c) e h
   | r => r
  | .exit id => some (.exit id, e, h)
  | .ret => some (.ret, e, h)
  | _ => none
def vrun (X : Ext) (k : Nat) (f : FuncId) (args : List VV) (h : VHeap) : Option (VV × VHeap) := vfun P (vexec P X k) X f args h
end
end Go.Proofs.Ythlbahcggmbfaaa.V

namespace Go.Proofs.Ythlbahcggmbfaaa.V
open Go.RowKit
structure Loc where
 mb : Nat
 coff : Nat
 esz : Nat
 msz : Nat
 ro : Bool := false
abbrev Ren := Nat → Option Loc
def addrAt (l : Loc) (i f : Nat) : Addr := ⟨l.mb, l.coff + i * l.esz + f, none⟩
inductive RelV (ρ : Ren) : VV → Value → Prop
 | undef (v : Value) : RelV ρ .undef v
 | bool (b : Bool) : RelV ρ (.bool b) (.bool b)
 | int (k : IntKind) (n : Int) : RelV ρ (.int k n) (.int k n)
 | str (s : ByteArray) : RelV ρ (.str s) (.string s)
 | nilptr : RelV ρ .nilptr (.pointer none)
 | ptr (b i f : Nat) (l : Loc) (h : ρ b = some l) : RelV ρ (.ptr b i f) (.pointer (some (addrAt l i f)))
 | nilslice : RelV ρ .nilslice (.slice none 0 0)
 | slice (b i n : Nat) (c : Option Nat) (z : Nat) (l : Loc) (a : Addr) (mcap : Nat) (h : ρ b = some l) (hz : l.esz = z) (hn : n ≤ mcap) (hm : mcap ≤ maxLen)
   (hc : ∀ k, c = some k → mcap = k) (ho : c = none → l.ro = false → l.coff + (i + mcap) * l.esz = l.msz)
   (ha : a = addrAt l i 0 ∨ (n = 0 ∧ mcap = 0)) : RelV ρ (.slice b i n c z) (.slice (some a) n mcap)
 | nilmap : RelV ρ .nilmap (.map none)
 | map (b : Nat) (l : Loc) (h : ρ b = some l) : RelV ρ (.map b) (.map (some l.mb))
 | nilfunc : RelV ρ .nilfunc .nilFunc
 | func (fn : Fn) (x y : List VV) (x' y' : Array Value) (hx : x.length = x'.size) (hy : y.length = y'.size)
   (h1 : ∀ (i : Nat) v v', x[i]? = some v → x'[i]? = some v' → RelV ρ v v') (h2 : ∀ (i : Nat) v v', y[i]? = some v → y'[i]? = some v' → RelV ρ v v') :
   RelV ρ (.func fn x y) (.func fn x' y')
 | niliface : RelV ρ .niliface .nilIface
 | iface (t : TypeId) (v : VV) (v' : Value) (h : RelV ρ v v') : RelV ρ (.iface t v) (.iface t v')
 | agg (x : List VV) (x' : Array Value) (hx : x.length = x'.size) (h : ∀ (i : Nat) v v', x[i]? = some v → x'[i]? = some v' → RelV ρ v v') : RelV ρ (.agg x) (.agg x')
 | tuple (x : List VV) (x' : Array Value) (hx : x.length = x'.size) (h : ∀ (i : Nat) v v', x[i]? = some v → x'[i]? = some v' → RelV ρ v v') : RelV ρ (.tuple x) (.tuple x')
def Ren.le (ρ ρ' : Ren) : Prop := ∀ b l, ρ b = some l → ρ' b = some l
theorem Ren.le.refl (ρ : Ren) : Ren.le ρ ρ := fun _ _ h => h
theorem Ren.le.trans {ρ ρ' ρ'' : Ren} (h : Ren.le ρ ρ') (k : Ren.le ρ' ρ'') : Ren.le ρ ρ'' := fun b l e => k b l (h b l e)
theorem RelV.mono {ρ ρ' : Ren} (hle : Ren.le ρ ρ') {v : VV} {v' : Value} (h : RelV ρ v v') : RelV ρ' v v' := by
 induction h with
 | undef v => exact .undef v
 | bool b => exact .bool b
 | int k n => exact .int k n
 | str s => exact .str s
 | nilptr => exact .nilptr
 | ptr b i f l h => exact .ptr b i f l (hle _ _ h)
 | nilslice => exact .nilslice
 | slice b i n c z l a mcap h hz hn hm hc ho ha => exact .slice b i n c z l a mcap (hle _ _ h) hz hn hm hc ho ha
 | nilmap => exact .nilmap
 | map b l h => exact .map b l (hle _ _ h)
 | nilfunc => exact .nilfunc
 | func fn x y x' y' hx hy h1 h2 ih1 ih2 => exact .func fn x y x' y' hx hy ih1 ih2
 | niliface => exact .niliface
 | iface t v v' h ih => exact .iface t v v' ih
 | agg x x' hx h ih => exact .agg x x' hx ih
 | tuple x x' hx h ih => exact .tuple x x' hx ih
def RelL (ρ : Ren) (x : List VV) (x' : List Value) : Prop := x.length = x'.length ∧ ∀ (i : Nat) v v', x[i]? = some v → x'[i]? = some v' → RelV ρ v v'
theorem RelL.nil (ρ : Ren) : RelL ρ [] [] := ⟨rfl, by simp⟩
theorem RelL.mono {ρ ρ' : Ren} (hle : Ren.le ρ ρ') {x : List VV} {x' : List Value} (h : RelL ρ x x') : RelL ρ' x x' := ⟨h.1, fun i v v' a b => (h.2 i v v' a b).mono hle⟩
theorem RelL.cons {ρ : Ren} {v : VV} {v' : Value} {x : List VV} {x' : List Value} (h : RelV ρ v v') (hx : RelL ρ x x') : RelL ρ (v :: x) (v' :: x') := by
 refine ⟨by simp [hx.1], fun i a b ha hb => ?_⟩
 cases i with
 | zero => simp at ha hb; subst ha; subst hb; exact h
 | succ i => simp at ha hb; exact hx.2 i a b ha hb
theorem RelL.head {ρ : Ren} {v : VV} {v' : Value} {x : List VV} {x' : List Value} (h : RelL ρ (v :: x) (v' :: x')) : RelV ρ v v' := h.2 0 v v' rfl rfl
theorem RelL.tail {ρ : Ren} {v : VV} {v' : Value} {x : List VV} {x' : List Value} (h : RelL ρ (v :: x) (v' :: x')) : RelL ρ x x' :=
 ⟨by simpa using h.1, fun i a b ha hb => h.2 (i + 1) a b (by simpa using ha) (by simpa using hb)⟩
theorem RelL.of_cons {ρ : Ren} {v : VV} {x : List VV} {y : List Value} (h : RelL ρ (v :: x) y) : ∃ v' x', y = v' :: x' ∧ RelV ρ v v' ∧ RelL ρ x x' := by
 cases y with
 | nil => have := h.1; simp at this
 | cons v' x' => exact ⟨v', x', rfl, h.head, h.tail⟩
theorem RelL.of_nil {ρ : Ren} {y : List Value} (h : RelL ρ [] y) : y = [] := by
 cases y with
 | nil => rfl
 | cons v' x' => have := h.1; simp at this
theorem RelL.append {ρ : Ren} {x y : List VV} {x' y' : List Value} (h : RelL ρ x x') (k : RelL ρ y y') : RelL ρ (x ++ y) (x' ++ y') := by
 refine ⟨by simp [h.1, k.1], fun i a b ha hb => ?_⟩
 by_cases hi : i < x.length
 ·rw [List.getElem?_append_left hi] at ha
  rw [List.getElem?_append_left (by rw [← h.1]; exact hi)] at hb
  exact h.2 i a b ha hb
 ·rw [List.getElem?_append_right (by omega)] at ha
  rw [List.getElem?_append_right (by rw [← h.1]; omega)] at hb
  rw [← h.1] at hb
  exact k.2 _ a b ha hb
theorem RelL.take {ρ : Ren} {x : List VV} {x' : List Value} (h : RelL ρ x x') (n : Nat) : RelL ρ (x.take n) (x'.take n) := by
 refine ⟨by simp [h.1], fun i a b ha hb => ?_⟩
 rw [List.getElem?_take] at ha hb
 split at ha
 ·rename_i hi; rw [if_pos hi] at hb; exact h.2 i a b ha hb
 ·cases ha
theorem RelL.drop {ρ : Ren} {x : List VV} {x' : List Value} (h : RelL ρ x x') (n : Nat) : RelL ρ (x.drop n) (x'.drop n) := by
 refine ⟨by simp [h.1], fun i a b ha hb => ?_⟩
 rw [List.getElem?_drop] at ha hb
 exact h.2 _ a b ha hb
theorem RelL.at {ρ : Ren} {x : List VV} {x' : List Value} (h : RelL ρ x x') {i : Nat} {v : VV} (hv : x[i]? = some v) : ∃ v', x'[i]? = some v' ∧ RelV ρ v v' := by
 have hi : i < x.length := by
  rcases Nat.lt_or_ge i x.length with h' | h'
  ·exact h'
  ·rw [List.getElem?_eq_none h'] at hv; cases hv
 have hi' : i < x'.length := by rw [← h.1]; exact hi
 exact ⟨x'[i], List.getElem?_eq_getElem hi', h.2 i v _ hv (List.getElem?_eq_getElem hi')⟩
theorem RelV.agg_iff {ρ : Ren} {x : List VV} {v : Value} (h : RelV ρ (.agg x) v) : ∃ x' : Array Value, v = .agg x' ∧ RelL ρ x x'.toList := by
 cases h with
 | agg x x' hx h => exact ⟨x', rfl, by simpa using hx, fun i a b ha hb => h i a b ha (by simpa using hb)⟩
theorem RelV.of_agg {ρ : Ren} {x : List VV} {x' : Array Value} (h : RelL ρ x x'.toList) : RelV ρ (.agg x) (.agg x') :=
 .agg x x' (by simpa using h.1) fun i a b ha hb => h.2 i a b ha (by simpa using hb)
theorem RelV.tuple_iff {ρ : Ren} {x : List VV} {v : Value} (h : RelV ρ (.tuple x) v) : ∃ x' : Array Value, v = .tuple x' ∧ RelL ρ x x'.toList := by
 cases h with
 | tuple x x' hx h => exact ⟨x', rfl, by simpa using hx, fun i a b ha hb => h i a b ha (by simpa using hb)⟩
theorem RelV.of_tuple {ρ : Ren} {x : List VV} {x' : Array Value} (h : RelL ρ x x'.toList) : RelV ρ (.tuple x) (.tuple x') :=
 .tuple x x' (by simpa using h.1) fun i a b ha hb => h.2 i a b ha (by simpa using hb)
theorem RelV.func_iff {ρ : Ren} {fn : Fn} {x y : List VV} {v : Value} (h : RelV ρ (.func fn x y) v) : ∃ x' y' : Array Value, v = .func fn x' y' ∧ RelL ρ x x'.toList ∧ RelL ρ y y'.toList := by
 cases h with
 | func fn x y x' y' hx hy h1 h2 =>
  exact ⟨x', y', rfl, ⟨by simpa using hx, fun i a b ha hb => h1 i a b ha (by simpa using hb)⟩, ⟨by simpa using hy, fun i a b ha hb => h2 i a b ha (by simpa using hb)⟩⟩
theorem RelV.cells {ρ : Ren} {v : VV} {v' : Value} (h : RelV ρ v v') (hu : v ≠ .undef) : RelL ρ (vcells v) v'.cells.toList := by
 have one : ∀ {v : VV} {v' : Value}, RelV ρ v v' → RelL ρ [v] [v'] := fun h => RelL.cons h (RelL.nil ρ)
 cases h with
 | undef v => exact absurd rfl hu
 | agg x x' hx h => exact ⟨by simpa [vcells, Value.cells] using hx, fun i a b ha hb => h i a b ha (by simpa [Value.cells] using hb)⟩
 | bool b => exact one (.bool b)
 | int k n => exact one (.int k n)
 | str s => exact one (.str s)
 | nilptr => exact one .nilptr
 | ptr b i f l h => exact one (.ptr b i f l h)
 | nilslice => exact one .nilslice
 | slice b i n c z l a mcap h hz hn hm hc ho ha => exact one (.slice b i n c z l a mcap h hz hn hm hc ho ha)
 | nilmap => exact one .nilmap
 | map b l h => exact one (.map b l h)
 | nilfunc => exact one .nilfunc
 | func fn x y x' y' hx hy h1 h2 => exact one (.func fn x y x' y' hx hy h1 h2)
 | niliface => exact one .niliface
 | iface t v v' h => exact one (.iface t v v' h)
 | tuple x x' hx h => exact one (.tuple x x' hx h)
theorem RelV.one {ρ : Ren} {v : VV} {v' : Value} (h : RelV ρ v v') (hv : oneCell v = true) : v'.oneCell' = true := by
 cases h <;> simp_all [oneCell, Value.oneCell']
theorem RelL.one {ρ : Ren} {x : List VV} {x' : List Value} (h : RelL ρ x x') (hv : x.all oneCell = true) : ∀ v ∈ x', v.oneCell' = true := by
 intro v hm
 obtain ⟨i, hi⟩ := List.getElem?_of_mem hm
 have hlt : i < x.length := by rw [h.1]; exact (List.getElem?_eq_some_iff.1 hi).1
 have h0 := h.2 i x[i] v (List.getElem?_eq_getElem hlt) hi
 exact h0.one (List.all_eq_true.1 hv _ (List.getElem_mem hlt))
theorem ofVal_rel (ρ : Ren) : ∀ (d : Nat) (v : Value) (x : VV), ofVal d v = some x → RelV ρ x v
 | 0, _, _, h => by simp [ofVal] at h
 | d + 1, v, x, h => by
  have agg : ∀ cs : Array Value, v = .agg cs → RelV ρ x v := by
   intro cs hv
   subst hv
   simp only [ofVal, Option.map_eq_some_iff] at h
   obtain ⟨xs, hxs, rfl⟩ := h
   refine RelV.of_agg ?_
   generalize cs.toList = l at hxs ⊢
   induction l generalizing xs with
   | nil => simp at hxs; subst hxs; exact RelL.nil ρ
   | cons a l ih =>
    simp only [List.mapM_cons, Option.bind_eq_bind, Option.pure_def] at hxs
    cases ha : ofVal d a with
    | none => simp [ha] at hxs
    | some a' =>
     cases hl : l.mapM (ofVal d) with
     | none => simp [ha, hl] at hxs
     | some l' =>
      simp [ha, hl] at hxs
      subst hxs
      exact RelL.cons (ofVal_rel ρ d a a' ha) (ih l' hl)
  cases v with
  | bool b => simp [ofVal] at h; subst h; exact .bool b
  | int k n => simp [ofVal] at h; subst h; exact .int k n
  | float k n => simp [ofVal] at h
  | complex k n m => simp [ofVal] at h
  | string s => simp [ofVal] at h; subst h; exact .str s
  | pointer a =>
   cases a with
   | none => simp [ofVal] at h; subst h; exact .nilptr
   | some a => simp [ofVal] at h
  | slice a n c =>
   cases a with
   | none =>
    cases n with
    | zero => cases c with
     | zero => simp [ofVal] at h; subst h; exact .nilslice
     | succ c => simp [ofVal] at h
    | succ n => simp [ofVal] at h
   | some a => simp [ofVal] at h
  | map r =>
   cases r with
   | none => simp [ofVal] at h; subst h; exact .nilmap
   | some r => simp [ofVal] at h
  | chan r => simp [ofVal] at h
  | func f x y => simp [ofVal] at h
  | nilFunc => simp [ofVal] at h; subst h; exact .nilfunc
  | iface t v => simp [ofVal] at h
  | nilIface => simp [ofVal] at h; subst h; exact .niliface
  | agg cs => exact agg cs rfl
  | tuple vs => simp [ofVal] at h
structure RelE (ρ : Ren) (e : Env) (tmps : Array Value) : Prop where
 at_ : ∀ t, RelV ρ (e.get t) (tmps.getD t undef)
theorem RelE.mono {ρ ρ' : Ren} (hle : Ren.le ρ ρ') {e : Env} {tmps : Array Value} (h : RelE ρ e tmps) : RelE ρ' e tmps := ⟨fun t => (h.at_ t).mono hle⟩
theorem Env.get_set (e : Env) (d t : Nat) (v : VV) : Env.get (Env.set e d v) t = if t = d then v else Env.get e t := by
 induction e generalizing d t with
 | nil =>
  induction d generalizing t with
  | zero => cases t <;> simp [Env.set, Env.get]
  | succ d ih =>
   cases t with
   | zero => simp [Env.set, Env.get]
   | succ t => have := ih t; simp [Env.set, Env.get] at this ⊢; exact this
 | cons x e ih =>
  cases d with
  | zero => cases t <;> simp [Env.set, Env.get]
  | succ d =>
   cases t with
   | zero => simp [Env.set, Env.get]
   | succ t => have := ih d t; simp [Env.set, Env.get] at this ⊢; exact this
theorem RelE.put {ρ : Ren} {e : Env} {a : Act} (h : RelE ρ e a.tmps) (d : Option Tmp) (hd : ∀ t, d = some t → t < a.tmps.size) {v : VV} {mv : Value} (hv : RelV ρ v mv) :
  RelE ρ (e.put d v) (a.put d mv).tmps := by
 cases d with
 | none => exact h
 | some d =>
  have hlt := hd d rfl
  refine ⟨fun t => ?_⟩
  show RelV ρ (Env.get (Env.set e d v) t) _
  rw [Env.get_set]
  by_cases ht : t = d
  ·subst ht
   simp [Act.put, hlt, hv]
  ·rw [if_neg ht]
   have : (a.put (some d) mv).tmps.getD t undef = a.tmps.getD t undef := by
    simp [Act.put, Array.getElem?_setIfInBounds_ne (Ne.symm ht)]
   rw [this]
   exact h.at_ t
theorem ev_rel {ρ : Ren} {e : Env} {a : Act} (h : RelE ρ e a.tmps) (x : Operand) : RelV ρ (ev e x) (a.eval x) := by
 cases x with
 | tmp t => exact h.at_ t
 | const v =>
  show RelV ρ ((ofVal 3 v).getD .undef) v
  cases hv : ofVal 3 v with
  | none => exact .undef v
  | some x => exact ofVal_rel ρ 3 v x hv
 | global g => exact .undef _
 | func f => exact .func _ [] [] #[] #[] rfl rfl (by simp) (by simp)
def RelCells (ρ : Ren) (l : Loc) (k : Blk) (c : Array Value) : Prop :=
 ∀ (i : Nat) cs, k.es[i]? = some cs → cs.length = l.esz ∧ cs.all oneCell = true ∧ ∀ (j : Nat) v, cs[j]? = some v → ∃ mv, c[l.coff + i * l.esz + j]? = some mv ∧ RelV ρ v mv
inductive RelO (ρ : Ren) (l : Loc) : VObj → Option Obj → Prop
 | cells (k : Blk) (c : Array Value) (t : TypeId) (fr : Nat × Nat) (hr : k.ro = false → l.ro = false) (hs : c.size = l.msz) (he : k.esz = l.esz) (h0 : 0 < l.esz) (hin : l.coff + k.es.length * l.esz ≤ l.msz)
   (hfr : k.ro = false → ∀ x, x < l.msz → ¬ (fr.1 ≤ x ∧ x < fr.2)) (hc : RelCells ρ l k c) : RelO ρ l (.cells k) (some (.cells c t fr))
 | map (es : List (VV × VV)) (ents : Array MapEntry) (clock : Nat) (hl : es.length = ents.size) (hst : MapKept.Stamped ents clock)
   (h : ∀ (i : Nat) p m, es[i]? = some p → ents[i]? = some m → RelV ρ p.1 m.key ∧ RelV ρ p.2 m.val) : RelO ρ l (.map es) (some (.map ents clock))
def Together (l1 l2 : Loc) (o1 o2 : VObj) : Prop :=
 ∃ k1 k2, o1 = .cells k1 ∧ o2 = .cells k2 ∧ ((k1.ro = true ∧ k2.ro = true) ∨ (k1.fam = k2.fam ∧ l1.esz = l2.esz ∧ l1.coff + k2.org * l1.esz = l2.coff + k1.org * l1.esz))
structure Rel (ρ : Ren) (g : Nat → Option VObj) (w : World) : Prop where
 obj : ∀ b l, ρ b = some l → ∃ o, g b = some o ∧ RelO ρ l o w.heap[l.mb]?
 apart : ∀ b1 b2 l1 l2 o1 o2, ρ b1 = some l1 → ρ b2 = some l2 → g b1 = some o1 → g b2 = some o2 → b1 ≠ b2 → l1.mb = l2.mb → Together l1 l2 o1 o2
theorem Rel.lt {ρ : Ren} {g : Nat → Option VObj} {w : World} (h : Rel ρ g w) {b : Nat} {l : Loc} (hb : ρ b = some l) : l.mb < w.heap.size := by
 obtain ⟨o, _, ho⟩ := h.obj b l hb
 rcases Nat.lt_or_ge l.mb w.heap.size with h' | h'
 ·exact h'
 ·rw [Array.getElem?_eq_none h'] at ho; cases ho
structure WF (g : Nat → Option VObj) (next : Nat) : Prop where
 lt : ∀ b o, g b = some o → b < next
 fam : ∀ b k, g b = some (.cells k) → k.fam < next
 solo : ∀ b k, g b = some (.cells k) → k.solo = true → ∀ b' k', g b' = some (.cells k') → b' ≠ b → k'.fam ≠ k.fam
 last : ∀ b k, g b = some (.cells k) → k.last = true → ∀ b' k', g b' = some (.cells k') → k'.fam = k.fam → k'.es.length = 0 ∨ k'.org + k'.es.length ≤ k.org + k.es.length
 last1 : ∀ b k, g b = some (.cells k) → k.last = true → ∀ b' k', g b' = some (.cells k') → k'.fam = k.fam → k'.last = true → b' = b
structure Step (ρ : Ren) (g : Nat → Option VObj) (n : Nat) (w : World) (ρ' : Ren) (g' : Nat → Option VObj) (n' : Nat) (w' : World) : Prop where
 rel0 : Rel ρ g w
 rel : Rel ρ' g' w'
 wf : WF g' n'
 le : Ren.le ρ ρ'
 nle : n ≤ n'
 os : w'.os = w.os
 tape : w'.tape = w.tape
 output : w'.output = w.output
 size : w.heap.size ≤ w'.heap.size
 old : ∀ B, B < w.heap.size → (∀ b l, ρ b = some l → l.mb = B → ∃ k, g b = some (.cells k) ∧ k.ro = true) → w'.heap[B]? = w.heap[B]?
 new : ∀ b l, ρ' b = some l → ρ b = some l ∨ (n ≤ b ∧ (w.heap.size ≤ l.mb ∨ ∃ b0 l0 k, ρ b0 = some l0 ∧ l0.mb = l.mb ∧ g b0 = some (.cells k) ∧ k.ro = false))
 ro : ∀ b k, g b = some (.cells k) → ∃ k', g' b = some (.cells k') ∧ k'.ro = k.ro
 rom : ∀ b es, g b = some (.map es) → ∃ es', g' b = some (.map es')
theorem Step.refl {ρ : Ren} {g : Nat → Option VObj} {n : Nat} {w : World} (h : Rel ρ g w) (hw : WF g n) : Step ρ g n w ρ g n w :=
 ⟨h, h, hw, Ren.le.refl ρ, Nat.le_refl _, rfl, rfl, rfl, Nat.le_refl _, fun _ _ _ => rfl, fun _ _ h => .inl h, fun _ k h => ⟨k, h, rfl⟩, fun _ es h => ⟨es, h⟩⟩
theorem Step.drew {ρ ρ' : Ren} {g g' : Nat → Option VObj} {n n' : Nat} {w w' : World} (h : Step ρ g n w ρ' g' n' w') : Step ρ g n w ρ' g' n' w'.drew :=
 ⟨h.rel0, ⟨h.rel.obj, h.rel.apart⟩, h.wf, h.le, h.nle, h.os, h.tape, h.output, h.size, h.old, h.new, h.ro, h.rom⟩
theorem Step.trans {ρ ρ1 ρ2 : Ren} {g g1 g2 : Nat → Option VObj} {n n1 n2 : Nat} {w w1 w2 : World} (h : Step ρ g n w ρ1 g1 n1 w1) (k : Step ρ1 g1 n1 w1 ρ2 g2 n2 w2) :
  Step ρ g n w ρ2 g2 n2 w2 := by
 refine ⟨h.rel0, k.rel, k.wf, h.le.trans k.le, Nat.le_trans h.nle k.nle, k.os.trans h.os, k.tape.trans h.tape, k.output.trans h.output, Nat.le_trans h.size k.size, ?_, ?_, ?_, ?_⟩
 ·intro B hB hro
  refine (k.old B (Nat.lt_of_lt_of_le hB h.size) ?_).trans (h.old B hB hro)
  intro b l hb hl
  rcases h.new b l hb with h0 | ⟨_, h1 | ⟨b0, l0, k0, hb0, hl0, hg0, hr0⟩⟩
  ·obtain ⟨k1, hk1, hr⟩ := hro b l h0 hl
   obtain ⟨k2, hk2, e⟩ := h.ro b k1 hk1
   exact ⟨k2, hk2, e.trans hr⟩
  ·omega
  ·obtain ⟨k1, hk1, hr⟩ := hro b0 l0 hb0 (hl0.trans hl)
   rw [hg0] at hk1
   simp only [Option.some.injEq, VObj.cells.injEq] at hk1
   subst hk1
   rw [hr0] at hr; cases hr
 ·intro b l hb
  rcases k.new b l hb with h1 | ⟨hn, h1⟩
  ·exact h.new b l h1
  ·refine .inr ⟨Nat.le_trans h.nle hn, ?_⟩
   rcases h1 with h1 | ⟨b0, l0, k0, hb0, hl0, hg0, hr0⟩
   ·exact .inl (Nat.le_trans h.size h1)
   ·rcases h.new b0 l0 hb0 with h2 | ⟨_, h2 | ⟨b1, l1, k1, hb1, hl1, hg1, hr1⟩⟩
    ·obtain ⟨o, ho, _⟩ := h.rel0.obj b0 l0 h2
     cases o with
     | cells k1 =>
      obtain ⟨k2, hk2, e⟩ := h.ro b0 k1 ho
      rw [hg0] at hk2
      simp only [Option.some.injEq, VObj.cells.injEq] at hk2
      subst hk2
      exact .inr ⟨b0, l0, k1, h2, hl0, ho, e.symm.trans hr0⟩
     | map es =>
      obtain ⟨es1, he1⟩ := h.rom b0 es ho
      rw [hg0] at he1; cases he1
    ·exact .inl (by omega)
    ·exact .inr ⟨b1, l1, k1, hb1, hl1.trans hl0, hg1, hr1⟩
 ·intro b k0 hb
  obtain ⟨k1, hk1, e1⟩ := h.ro b k0 hb
  obtain ⟨k2, hk2, e2⟩ := k.ro b k1 hk1
  exact ⟨k2, hk2, e2.trans e1⟩
 ·intro b es hb
  obtain ⟨es1, h1⟩ := h.rom b es hb
  exact k.rom b es1 h1
end Go.Proofs.Ythlbahcggmbfaaa.V

namespace Go.Proofs.Ythlbahcggmbfaaa.V
open Go.RowKit
theorem Tab.find_ins : ∀ (k : Nat) (t : Tab) (n m : Nat) (o : VObj), n < k → (Tab.ins k t n o).find m = if m = n then some o else t.find m := by
 intro k
 induction k with
 | zero => intro t n m o h; omega
 | succ k ih =>
  intro t n m o h
  have hm : ∀ m : Nat, (match Nat.beq m 0 with | true => m = 0 | false => m ≠ 0) := fun m => by
   cases hb : Nat.beq m 0 with
   | true => exact Nat.eq_of_beq_eq_true hb
   | false => exact Nat.ne_of_beq_eq_false hb
  have ho : ∀ m : Nat, (match Nat.beq (m % 2) 1 with | true => m % 2 = 1 | false => m % 2 ≠ 1) := fun m => by
   cases hb : Nat.beq (m % 2) 1 with
   | true => exact Nat.eq_of_beq_eq_true hb
   | false => exact Nat.ne_of_beq_eq_false hb
  have key : ∀ (l : Tab) (v : Option VObj) (r : Tab), (∀ m, t.find m = (Tab.node l v r).find m) →
    (match Nat.beq n 0 with
     | true => Tab.node l (some o) r
     | false => match Nat.beq (n % 2) 1 with
      | true => .node (Tab.ins k l (n / 2) o) v r
      | false => .node l v (Tab.ins k r (n / 2 - 1) o)).find m = if m = n then some o else t.find m := by
   intro l v r ht
   rw [ht m]
   have h1 := hm n
   have h2 := hm m
   have h3 := ho n
   have h4 := ho m
   cases hn0 : Nat.beq n 0 with
   | true =>
    rw [hn0] at h1
    simp only at h1
    subst h1
    cases hm0 : Nat.beq m 0 with
    | true => rw [hm0] at h2; simp only at h2; subst h2; simp [Tab.find]
    | false => rw [hm0] at h2; simp only at h2; rw [if_neg h2]; simp [Tab.find, hm0]
   | false =>
    rw [hn0] at h1
    simp only at h1
    cases hn1 : Nat.beq (n % 2) 1 with
    | true =>
     rw [hn1] at h3
     simp only at h3
     cases hm0 : Nat.beq m 0 with
     | true => rw [hm0] at h2; simp only at h2; subst h2; rw [if_neg (by omega)]; simp [Tab.find]
     | false =>
      rw [hm0] at h2; simp only at h2
      cases hm1 : Nat.beq (m % 2) 1 with
      | true =>
       rw [hm1] at h4; simp only at h4
       simp only [Tab.find, hm0, hm1]
       rw [ih l (n / 2) (m / 2) o (by omega)]
       by_cases he : m = n
       ·rw [if_pos he, if_pos (by rw [he])]
       ·rw [if_neg he, if_neg (by omega)]
      | false =>
       rw [hm1] at h4; simp only at h4
       simp only [Tab.find, hm0, hm1]
       rw [if_neg (by intro e; subst e; exact h4 h3)]
    | false =>
     rw [hn1] at h3
     simp only at h3
     cases hm0 : Nat.beq m 0 with
     | true => rw [hm0] at h2; simp only at h2; subst h2; rw [if_neg (by omega)]; simp [Tab.find]
     | false =>
      rw [hm0] at h2; simp only at h2
      cases hm1 : Nat.beq (m % 2) 1 with
      | true =>
       rw [hm1] at h4; simp only at h4
       simp only [Tab.find, hm0, hm1]
       rw [if_neg (by intro e; subst e; exact h3 h4)]
      | false =>
       rw [hm1] at h4; simp only at h4
       simp only [Tab.find, hm0, hm1]
       rw [ih r (n / 2 - 1) (m / 2 - 1) o (by omega)]
       by_cases he : m = n
       ·rw [if_pos he, if_pos (by rw [he])]
       ·rw [if_neg he, if_neg (by omega)]
  cases t with
  | nil => exact key .nil none .nil (fun m => by
    simp only [Tab.find]
    cases Nat.beq m 0 <;> simp only <;> cases Nat.beq (m % 2) 1 <;> rfl)
  | node l v r => exact key l v r (fun _ => rfl)
theorem Tab.find_map (f : VObj → VObj) : ∀ (t : Tab) (n : Nat), (t.map f).find n = (t.find n).map f
 | .nil, _ => rfl
 | .node l v r, n => by
  simp only [Tab.map, Tab.find]
  cases Nat.beq n 0 with
  | true => rfl
  | false =>
   cases Nat.beq (n % 2) 1 with
   | true => exact Tab.find_map f l _
   | false => exact Tab.find_map f r _
theorem VHeap.get_eq (h : VHeap) (b : Nat) : h.get b = if b < h.next then h.tab.find b else none := by
 unfold VHeap.get
 cases hb : Nat.ble h.next b with
 | true => have := Nat.le_of_ble_eq_true hb; rw [if_neg (by omega)]
 | false =>
  have : ¬ h.next ≤ b := fun hle => by rw [Nat.ble_eq_true_of_le hle] at hb; cases hb
  rw [if_pos (by omega)]
theorem VHeap.get_lt {h : VHeap} {b : Nat} {o : VObj} (hb : h.get b = some o) : b < h.next := by
 rw [VHeap.get_eq] at hb
 split at hb
 ·assumption
 ·cases hb
theorem VHeap.get_push (h : VHeap) (o : VObj) (b : Nat) : (h.push o).get b = if b = h.next then some o else h.get b := by
 rw [VHeap.get_eq, VHeap.get_eq]
 show (if b < h.next + 1 then (Tab.ins (h.next + 1) h.tab h.next o).find b else none) = _
 rw [Tab.find_ins _ _ _ _ _ (by omega)]
 by_cases hb : b = h.next
 ·subst hb; rw [if_pos (by omega), if_pos rfl]; simp
 ·rw [if_neg hb, if_neg hb]
  by_cases hlt : b < h.next
  ·rw [if_pos (by omega), if_pos hlt]
  ·rw [if_neg (by omega), if_neg hlt]
theorem VHeap.get_put (h : VHeap) (b : Nat) (o : VObj) (hb : b < h.next) (b' : Nat) : (h.put b o).get b' = if b' = b then some o else h.get b' := by
 rw [VHeap.get_eq, VHeap.get_eq]
 show (if b' < h.next then (Tab.ins (b + 1) h.tab b o).find b' else none) = _
 rw [Tab.find_ins _ _ _ _ _ (by omega)]
 by_cases hb' : b' = b
 ·subst hb'; rw [if_pos hb]; simp
 ·rw [if_neg hb', if_neg hb']
theorem VHeap.get_kill (h : VHeap) (fam lo b : Nat) : (h.kill fam lo).get b = (h.get b).map (killObj fam lo) := by
 rw [VHeap.get_eq, VHeap.get_eq]
 show (if b < h.next then (h.tab.map (killObj fam lo)).find b else none) = _
 rw [Tab.find_map]
 split <;> rfl
@[simp] theorem VHeap.next_push (h : VHeap) (o : VObj) : (h.push o).next = h.next + 1 := rfl
@[simp] theorem VHeap.next_put (h : VHeap) (b : Nat) (o : VObj) : (h.put b o).next = h.next := rfl
@[simp] theorem VHeap.next_kill (h : VHeap) (fam lo : Nat) : (h.kill fam lo).next = h.next := rfl
@[simp] theorem next_fresh (h : VHeap) (es : List (List VV)) (z : Nat) : (fresh h es z).next = h.next + 1 := rfl
def Ren.add (ρ : Ren) (b : Nat) (l : Loc) : Ren := fun b' => if b' = b then some l else ρ b'
theorem Ren.le_add {ρ : Ren} {b : Nat} {l : Loc} (h : ρ b = none) : Ren.le ρ (ρ.add b l) := fun b' l' hb => by
 unfold Ren.add
 split
 ·subst b'; rw [h] at hb; cases hb
 ·exact hb
theorem RelO.mono {ρ ρ' : Ren} (hle : Ren.le ρ ρ') {l : Loc} {o : VObj} {m : Option Obj} (h : RelO ρ l o m) : RelO ρ' l o m := by
 cases h with
 | cells k c t fr hro hs he h0 hin hfr hc =>
  exact .cells k c t fr hro hs he h0 hin hfr fun i cs hcs => by
   obtain ⟨a, b, d⟩ := hc i cs hcs
   exact ⟨a, b, fun j v hv => let ⟨mv, x, y⟩ := d j v hv; ⟨mv, x, y.mono hle⟩⟩
 | map es ents clock hl hst h => exact .map es ents clock hl hst fun i p m hp hm => let ⟨a, b⟩ := h i p m hp hm; ⟨a.mono hle, b.mono hle⟩
theorem Rel.insert {ρ : Ren} {g g' : Nat → Option VObj} {w : World} (hR : Rel ρ g w) {b : Nat} {l : Loc} {o : VObj} (hb : ρ b = none)
  (hg : g' b = some o) (hg' : ∀ b', b' ≠ b → ρ b' ≠ none → g' b' = g b') (ho : RelO ρ l o w.heap[l.mb]?)
  (hap : ∀ b2 l2 o2, ρ b2 = some l2 → g b2 = some o2 → l2.mb = l.mb → Together l l2 o o2) : Rel (ρ.add b l) g' w := by
 have hle := Ren.le_add (l := l) hb
 have hne : ∀ b' l', ρ b' = some l' → b' ≠ b := fun b' l' h e => by subst e; rw [hb] at h; cases h
 have swap : ∀ {l1 l2 : Loc} {o1 o2 : VObj}, Together l1 l2 o1 o2 → Together l2 l1 o2 o1 := by
  rintro l1 l2 o1 o2 ⟨k1, k2, h1, h2, h | ⟨h3, h4, h5⟩⟩
  ·exact ⟨k2, k1, h2, h1, .inl ⟨h.2, h.1⟩⟩
  ·exact ⟨k2, k1, h2, h1, .inr ⟨h3.symm, h4.symm, by rw [← h4]; exact h5.symm⟩⟩
 refine ⟨fun b' l' hb' => ?_, fun b1 b2 l1 l2 o1 o2 h1 h2 g1 g2 hne12 hmb => ?_⟩
 ·unfold Ren.add at hb'
  split at hb'
  ·rename_i e; subst e
   simp only [Option.some.injEq] at hb'; subst hb'
   exact ⟨o, hg, ho.mono hle⟩
  ·rename_i e
   obtain ⟨o', ho', hr⟩ := hR.obj b' l' hb'
   exact ⟨o', by rw [hg' b' e (by rw [hb']; simp)]; exact ho', hr.mono hle⟩
 ·unfold Ren.add at h1 h2
  split at h1
  ·rename_i e1; subst e1
   simp only [Option.some.injEq] at h1; subst h1
   rw [if_neg (Ne.symm hne12)] at h2
   rw [hg] at g1
   simp only [Option.some.injEq] at g1; subst g1
   rw [hg' b2 (Ne.symm hne12) (by rw [h2]; simp)] at g2
   exact hap b2 l2 o2 h2 g2 hmb.symm
  ·rename_i e1
   split at h2
   ·rename_i e2; subst e2
    simp only [Option.some.injEq] at h2; subst h2
    rw [hg] at g2
    simp only [Option.some.injEq] at g2; subst g2
    rw [hg' b1 e1 (by rw [h1]; simp)] at g1
    exact swap (hap b1 l1 o1 h1 g1 hmb)
   ·rename_i e2
    rw [hg' b1 e1 (by rw [h1]; simp)] at g1
    rw [hg' b2 e2 (by rw [h2]; simp)] at g2
    exact hR.apart b1 b2 l1 l2 o1 o2 h1 h2 g1 g2 hne12 hmb
theorem Rel.world {ρ : Ren} {g : Nat → Option VObj} {w w' : World} (hR : Rel ρ g w) (h : ∀ k, k < w.heap.size → w'.heap[k]? = w.heap[k]?) : Rel ρ g w' :=
 ⟨fun b l hb => by
  obtain ⟨o, ho, hr⟩ := hR.obj b l hb
  exact ⟨o, ho, by rw [h _ (hR.lt hb)]; exact hr⟩, hR.apart⟩
theorem Rel.none {ρ : Ren} {g : Nat → Option VObj} {n : Nat} {w : World} (hR : Rel ρ g w) (hw : WF g n) {b : Nat} (hb : n ≤ b) : ρ b = none := by
 cases h : ρ b with
 | none => rfl
 | some l =>
  obtain ⟨o, ho, _⟩ := hR.obj b l h
  have := hw.lt b o ho
  omega
structure NewBlk (w w' : World) (m : Obj) : Prop where
 size : w'.heap.size = w.heap.size + 1
 at_ : w'.heap[w.heap.size]? = some m
 old : ∀ k, k < w.heap.size → w'.heap[k]? = w.heap[k]?
 os : w'.os = w.os
 tape : w'.tape = w.tape
 output : w'.output = w.output
theorem newBlk_alloc (w : World) (m : Obj) : NewBlk w (w.alloc m) m := ⟨by simp, heap_alloc_new w m, fun _ hk => Below.heap_alloc _ _ _ hk, rfl, rfl, rfl⟩
theorem step_new {ρ : Ren} {h : VHeap} {w w' : World} (hR : Rel ρ h.get w) (hw : WF h.get h.next) (o : VObj) (m : Obj) (hN : NewBlk w w' m) (l : Loc) (hl : l.mb = w.heap.size)
  (ho : RelO ρ l o (some m)) (hf : ∀ k, o = .cells k → k.fam = h.next) : Step ρ h.get h.next w (ρ.add h.next l) (h.push o).get (h.next + 1) w' := by
 have hn := hR.none hw (Nat.le_refl h.next)
 have hR1 : Rel ρ h.get w' := hR.world hN.old
 have hR2 : Rel (ρ.add h.next l) (h.push o).get w' := by
  refine hR1.insert (o := o) hn (by rw [VHeap.get_push, if_pos rfl]) (fun b hb _ => by rw [VHeap.get_push, if_neg hb]) ?_ ?_
  ·rw [hl, hN.at_]; exact ho
  ·intro b2 l2 o2 h2 _ hmb
   have := hR.lt h2
   omega
 refine ⟨hR, hR2, ?_, Ren.le_add hn, Nat.le_succ _, hN.os, hN.tape, hN.output, by rw [hN.size]; omega, fun B hB _ => hN.old B hB, ?_, ?_, ?_⟩
 ·refine ⟨?_, ?_, ?_, ?_, ?_⟩
  ·intro b o' hb
   rw [VHeap.get_push] at hb
   split at hb
   ·omega
   ·have := hw.lt b o' hb; omega
  ·intro b k hb
   rw [VHeap.get_push] at hb
   split at hb
   ·simp only [Option.some.injEq] at hb; have := hf k hb; omega
   ·have := hw.fam b k hb; omega
  ·intro b k hb hs b' k' hb' hne
   rw [VHeap.get_push] at hb hb'
   split at hb
   ·rename_i e; subst e
    simp only [Option.some.injEq] at hb
    rw [if_neg hne] at hb'
    have := hw.fam b' k' hb'
    have := hf k hb
    omega
   ·split at hb'
    ·simp only [Option.some.injEq] at hb'
     have := hw.fam b k hb
     have := hf k' hb'
     omega
    ·exact hw.solo b k hb hs b' k' hb' hne
  ·intro b k hb hs b' k' hb' hfam
   rw [VHeap.get_push] at hb hb'
   split at hb
   ·rename_i e; subst e
    split at hb'
    ·rename_i e'; subst e'
     rw [hb] at hb'
     simp only [Option.some.injEq, VObj.cells.injEq] at hb'; subst hb'; exact .inr (Nat.le_refl _)
    ·simp only [Option.some.injEq] at hb
     have := hw.fam b' k' hb'
     have := hf k hb
     omega
   ·split at hb'
    ·simp only [Option.some.injEq] at hb'
     have := hw.fam b k hb
     have := hf k' hb'
     omega
    ·exact hw.last b k hb hs b' k' hb' hfam
  ·intro b k hb hs b' k' hb' hfam hs'
   rw [VHeap.get_push] at hb hb'
   split at hb
   ·rename_i e; subst e
    split at hb'
    ·assumption
    ·simp only [Option.some.injEq] at hb
     have := hw.fam b' k' hb'
     have := hf k hb
     omega
   ·split at hb'
    ·simp only [Option.some.injEq] at hb'
     have := hw.fam b k hb
     have := hf k' hb'
     omega
    ·exact hw.last1 b k hb hs b' k' hb' hfam hs'
 ·intro b l' hb
  unfold Ren.add at hb
  split at hb
  ·rename_i e; subst e
   simp only [Option.some.injEq] at hb; subst hb
   exact .inr ⟨Nat.le_refl _, .inl (by omega)⟩
  ·exact .inl hb
 ·intro b k hb
  refine ⟨k, ?_, rfl⟩
  rw [VHeap.get_push, if_neg (by have := hw.lt b _ hb; omega)]
  exact hb
 ·intro b es hb
  refine ⟨es, ?_⟩
  rw [VHeap.get_push, if_neg (by have := hw.lt b _ hb; omega)]
  exact hb
end Go.Proofs.Ythlbahcggmbfaaa.V

namespace Go.Proofs.Ythlbahcggmbfaaa.V
open Go.RowKit
structure Only (w w' : World) (mb : Nat) : Prop where
 size : w'.heap.size = w.heap.size
 os : w'.os = w.os
 tape : w'.tape = w.tape
 output : w'.output = w.output
 other : ∀ k, k ≠ mb → w'.heap[k]? = w.heap[k]?
theorem Only.refl (w : World) (mb : Nat) : Only w w mb := ⟨rfl, rfl, rfl, rfl, fun _ _ => rfl⟩
theorem Only.trans {a b c : World} {mb : Nat} (h : Only a b mb) (k : Only b c mb) : Only a c mb :=
 ⟨k.size.trans h.size, k.os.trans h.os, k.tape.trans h.tape, k.output.trans h.output, fun i hi => (k.other i hi).trans (h.other i hi)⟩
theorem only_setRow (w : World) (g : Nat) (cs : Array Value) : Only w (w.setRow g cs) g := ⟨by simp, rfl, rfl, rfl, fun k hk => setRow_other w g k cs hk⟩
theorem run_storeCells (P : Program) (mb o : Nat) (t : TypeId) (fr : Nat × Nat) : ∀ (vs : List Value) (i : Nat) (c : Array Value) (w : World), w.heap[mb]? = some (.cells c t fr) →
  o + i + vs.length ≤ c.size → (∀ x, x < c.size → ¬ (fr.1 ≤ x ∧ x < fr.2)) → (∀ v ∈ vs, v.oneCell' = true) →
  ∃ w' c', (storeCells ⟨mb, o, none⟩ vs i).run P w = .ok () w' ∧ Only w w' mb ∧ w'.heap[mb]? = some (.cells c' t fr) ∧ c'.size = c.size ∧
   (∀ x, x < o + i → c'[x]? = c[x]?) ∧ (∀ x, o + i + vs.length ≤ x → c'[x]? = c[x]?) ∧ (∀ (j : Nat) v, vs[j]? = some v → c'[o + i + j]? = some v)
 | [], i, c, w, hg, _, _, _ => ⟨w, c, by simp [storeCells], Only.refl w mb, hg, rfl, fun _ _ => rfl, fun _ _ => rfl, by simp⟩
 | v :: vs, i, c, w, hg, hlen, hfr, h1 => by
  have hadd : ∀ j : Nat, (⟨mb, o, none⟩ : Addr).add j = ⟨mb, o + j, none⟩ := by intro j; unfold Addr.add; split <;> simp_all
  have hlt : o + i < c.size := by simp at hlen; omega
  have hcell : w.cell? ⟨mb, o + i, none⟩ = some c[o + i] := by rw [cell_of_row w mb (o + i) c t fr hg, Array.getElem?_eq_getElem hlt]
  have hfz : w.frozen? ⟨mb, o + i, none⟩ = false := by
   simp only [World.frozen?, hg]
   have := hfr (o + i) hlt
   by_cases h : fr.1 ≤ o + i
   ·by_cases h' : o + i < fr.2
    ·exact absurd ⟨h, h'⟩ this
    ·simp [h']
   ·simp [h]
  have hst : (store ((⟨mb, o, none⟩ : Addr).add i) v).run P w = .ok () (w.setRow mb (c.setIfInBounds (o + i) v)) := by
   rw [hadd, run_store P w _ v .plain (h1 v (by simp)), hcell]
   simp only [hfz, Bool.false_eq_true, if_false, setCell_eq_setRow w mb (o + i) c t fr v hg]
  obtain ⟨w', c', hrun, honly, hh, hsz, hlo, hhi, hmid⟩ := run_storeCells P mb o t fr vs (i + 1) (c.setIfInBounds (o + i) v) (w.setRow mb (c.setIfInBounds (o + i) v))
   (setRow_heap w mb c _ t fr hg) (by simp at hlen ⊢; omega) (by simpa using hfr) (fun u hu => h1 u (by simp [hu]))
  refine ⟨w', c', ?_, (only_setRow w mb _).trans honly, hh, by simpa using hsz, ?_, ?_, ?_⟩
  ·simp only [storeCells, Sem.run_bind, hst, Result.andThen_ok]; exact hrun
  ·intro x hx
   rw [hlo x (by omega), Array.getElem?_setIfInBounds_ne (by omega)]
  ·intro x hx
   rw [hhi x (by simp at hx; omega), Array.getElem?_setIfInBounds_ne (by simp at hx; omega)]
  ·intro j u hu
   cases j with
   | zero =>
    simp at hu; subst hu
    rw [Nat.add_zero, hlo (o + i) (by omega)]
    simp [hlt]
   | succ j =>
    have := hmid j u (by simpa using hu)
    rwa [show o + i + (j + 1) = o + (i + 1) + j by omega]
theorem step_write {ρ : Ren} {h : VHeap} {w w' : World} (hR : Rel ρ h.get w) (hw : WF h.get h.next) {b : Nat} {k : Blk} {l : Loc} (hb : ρ b = some l) (hg : h.get b = some (.cells k)) (hro : k.ro = false)
  (i0 : Nat) (es' : List (List VV)) (hlen : es'.length = k.es.length) {c c' : Array Value} {t : TypeId} {fr : Nat × Nat} (hm : w.heap[l.mb]? = some (.cells c t fr)) (hs : c'.size = c.size)
  (hlo : ∀ x, x < l.coff + i0 * l.esz → c'[x]? = c[x]?) (hc' : RelCells ρ l { k with es := es' } c') (hw' : w'.heap[l.mb]? = some (.cells c' t fr)) (ho : Only w w' l.mb) :
  Step ρ h.get h.next w ρ ((match k.solo with | true => h | false => h.kill k.fam (k.org + i0)).put b (.cells { k with es := es' })).get
   ((match k.solo with | true => h | false => h.kill k.fam (k.org + i0)).put b (.cells { k with es := es' })).next w' := by
 have hlt := VHeap.get_lt hg
 have hnext : ((match k.solo with | true => h | false => h.kill k.fam (k.org + i0)).put b (.cells { k with es := es' })).next = h.next := by cases k.solo <;> rfl
 generalize hh' : (match k.solo with | true => h | false => h.kill k.fam (k.org + i0)).put b (.cells { k with es := es' }) = h' at hnext ⊢
 
 have gb : h'.get b = some (.cells { k with es := es' }) := by
  rw [← hh', VHeap.get_put _ _ _ (by cases k.solo <;> exact hlt), if_pos rfl]
 have gne : ∀ b', b' ≠ b → (∀ k', h.get b' = some (.cells k') → ∃ k'', h'.get b' = some (.cells k'') ∧ k''.ro = k'.ro ∧ k''.esz = k'.esz ∧ k''.fam = k'.fam ∧ k''.org = k'.org ∧ k''.solo = k'.solo ∧
   (k''.last = true → k'.last = true ∧ k''.es = k'.es) ∧ (k''.es = k'.es ∧ (k'.fam = k.fam → k'.org + k'.es.length ≤ k.org + i0) ∨ k''.es = [])) ∧
   ((∀ k', h.get b' ≠ some (.cells k')) → h'.get b' = h.get b') := by
  intro b' hne
  cases hsolo : k.solo with
  | true =>
   have e : h'.get b' = h.get b' := by
    rw [← hh', hsolo]
    show (h.put b _).get b' = _
    rw [VHeap.get_put _ _ _ hlt, if_neg hne]
   exact ⟨fun k' hk' => ⟨k', e.trans hk', rfl, rfl, rfl, rfl, rfl, fun h => ⟨h, rfl⟩, .inl ⟨rfl, fun hf => absurd hf (hw.solo b k hg hsolo b' k' hk' hne)⟩⟩, fun _ => e⟩
  | false =>
   have e : h'.get b' = (h.get b').map (killObj k.fam (k.org + i0)) := by
    rw [← hh', hsolo]
    show ((h.kill _ _).put b _).get b' = _
    rw [VHeap.get_put _ _ _ (show b < (h.kill k.fam (k.org + i0)).next from hlt), if_neg hne, VHeap.get_kill]
   refine ⟨fun k' hk' => ?_, fun hno => ?_⟩
   ·rw [hk'] at e
    simp only [Option.map_some, killObj] at e
    split at e
    ·split at e
     ·exact ⟨_, e, rfl, rfl, rfl, rfl, rfl, (fun h => by cases h), .inr rfl⟩
     ·exact ⟨_, e, rfl, rfl, rfl, rfl, rfl, (fun h => by cases h), .inl ⟨rfl, fun _ => by omega⟩⟩
    ·rename_i hf
     exact ⟨_, e, rfl, rfl, rfl, rfl, rfl, fun h => ⟨h, rfl⟩, .inl ⟨rfl, fun hf' => absurd hf' hf⟩⟩
   ·rw [e]
    cases hgb : h.get b' with
    | none => rfl
    | some o =>
     cases o with
     | map es => rfl
     | cells k' => exact absurd hgb (hno k')
 
 have hrel : Rel ρ h'.get w' := by
  refine ⟨fun b2 l2 h2 => ?_, fun b1 b2 l1 l2 o1 o2 h1 h2 g1 g2 hne hmb => ?_⟩
  ·by_cases hbb : b2 = b
   ·subst hbb
    rw [hb] at h2; simp only [Option.some.injEq] at h2; subst h2
    refine ⟨_, gb, ?_⟩
    rw [hw']
    obtain ⟨o, hgo, hr⟩ := hR.obj b2 l hb
    rw [hg] at hgo; simp only [Option.some.injEq] at hgo; subst hgo
    rw [hm] at hr
    cases hr with
    | cells k c t fr hr0 hs0 he h0 hin hfr hc =>
     exact .cells _ c' t fr hr0 (hs.trans hs0) he h0 (by rw [show ({ k with es := es' } : Blk).es.length = k.es.length from hlen]; exact hin) hfr hc'
   ·obtain ⟨o, hgo, hr⟩ := hR.obj b2 l2 h2
    cases o with
    | map es =>
     refine ⟨.map es, ((gne b2 hbb).2 (fun k' e => by rw [hgo] at e; cases e)).trans hgo, ?_⟩
     by_cases hmb : l2.mb = l.mb
     ·obtain ⟨k2, k1, e2, _⟩ := hR.apart b2 b l2 l _ _ h2 hb hgo hg hbb hmb
      cases e2
     ·rw [ho.other l2.mb hmb]; exact hr
    | cells k2 =>
     obtain ⟨k3, e3, p1, p2, p3, p4, p5, p6, p7⟩ := (gne b2 hbb).1 k2 hgo
     refine ⟨.cells k3, e3, ?_⟩
     by_cases hmb : l2.mb = l.mb
     ·obtain ⟨k2', k1, e2, e1, hto⟩ := hR.apart b2 b l2 l _ _ h2 hb hgo hg hbb hmb
      cases e1; cases e2
      rcases hto with ⟨_, h5⟩ | ⟨hf, hez, hal⟩
      ·rw [hro] at h5; cases h5
      ·rw [hmb, hw']
       rw [hmb, hm] at hr
       cases hr with
       | cells k2 c t fr hr0 hs0 he h0 hin hfr hc =>
        rcases p7 with ⟨q1, q2⟩ | q1
        ·have hend := q2 hf
         refine .cells k3 c' t fr (fun h => hr0 (p1 ▸ h)) (hs.trans hs0) (p2.trans he) h0 (by rw [q1]; exact hin) (fun h => hfr (p1 ▸ h)) fun i cs hcs => ?_
         rw [q1] at hcs
         obtain ⟨a1, a2, a3⟩ := hc i cs hcs
         refine ⟨a1, a2, fun j v hv => ?_⟩
         obtain ⟨mv, hmv, hv'⟩ := a3 j v hv
         refine ⟨mv, ?_, hv'⟩
         rw [hlo _ ?_]
         ·exact hmv
         ·have hi : i < k2.es.length := (List.getElem?_eq_some_iff.1 hcs).1
          have hj : j < l2.esz := by rw [← a1]; exact (List.getElem?_eq_some_iff.1 hv).1
          have m1 : (i + 1) * l2.esz ≤ k2.es.length * l2.esz := Nat.mul_le_mul_right _ hi
          have m2 : (k2.org + k2.es.length) * l2.esz ≤ (k.org + i0) * l2.esz := Nat.mul_le_mul_right _ hend
          simp only [Nat.add_mul, Nat.one_mul] at m1 m2
          rw [← hez]
          omega
        ·exact .cells k3 c' t fr (fun h => hr0 (p1 ▸ h)) (hs.trans hs0) (p2.trans he) h0 (by rw [q1]; simp only [List.length_nil, Nat.zero_mul]; omega) (fun h => hfr (p1 ▸ h)) fun i cs hcs => by rw [q1] at hcs; simp at hcs
     ·rw [ho.other l2.mb hmb]
      generalize w.heap[l2.mb]? = m at hr
      cases hr with
      | cells k2 c t fr hr0 hs0 he h0 hin hfr hc =>
       rcases p7 with ⟨q1, _⟩ | q1
       ·exact .cells k3 c t fr (fun h => hr0 (p1 ▸ h)) hs0 (p2.trans he) h0 (by rw [q1]; exact hin) (fun h => hfr (p1 ▸ h)) fun i cs hcs => hc i cs (by rw [← q1]; exact hcs)
       ·exact .cells k3 c t fr (fun h => hr0 (p1 ▸ h)) hs0 (p2.trans he) h0 (by rw [q1]; simp only [List.length_nil, Nat.zero_mul]; omega) (fun h => hfr (p1 ▸ h)) fun i cs hcs => by rw [q1] at hcs; simp at hcs
  · 
   have keep : ∀ b' l' o', ρ b' = some l' → h'.get b' = some o' → ∃ o, h.get b' = some o ∧ (o' = o ∨ ∃ k k', o = .cells k ∧ o' = .cells k' ∧ k'.ro = k.ro ∧ k'.fam = k.fam ∧ k'.org = k.org) := by
    intro b' l' o' hb' hg'
    by_cases hbb : b' = b
    ·subst hbb
     rw [gb] at hg'; simp only [Option.some.injEq] at hg'; subst hg'
     exact ⟨_, hg, .inr ⟨k, _, rfl, rfl, rfl, rfl, rfl⟩⟩
    ·obtain ⟨o, hgo, _⟩ := hR.obj b' l' hb'
     cases o with
     | map es =>
      have := (gne b' hbb).2 (fun k' e => by rw [hgo] at e; cases e)
      exact ⟨o', by rw [← this]; exact hg', .inl rfl⟩
     | cells k' =>
      obtain ⟨k3, e3, p1, _, p3, p4, _⟩ := (gne b' hbb).1 k' hgo
      rw [e3] at hg'; simp only [Option.some.injEq] at hg'; subst hg'
      exact ⟨_, hgo, .inr ⟨k', k3, rfl, rfl, p1, p3, p4⟩⟩
   obtain ⟨p1, q1, r1⟩ := keep b1 l1 o1 h1 g1
   obtain ⟨p2, q2, r2⟩ := keep b2 l2 o2 h2 g2
   obtain ⟨k1, k2, e1, e2, hto⟩ := hR.apart b1 b2 l1 l2 p1 p2 h1 h2 q1 q2 hne hmb
   have s1 : ∃ k', o1 = .cells k' ∧ k'.ro = k1.ro ∧ k'.fam = k1.fam ∧ k'.org = k1.org := by
    rcases r1 with rfl | ⟨x, y, hx, hy, z⟩
    ·exact ⟨k1, e1, rfl, rfl, rfl⟩
    ·rw [e1] at hx; simp only [VObj.cells.injEq] at hx; subst hx; exact ⟨y, hy, z⟩
   have s2 : ∃ k', o2 = .cells k' ∧ k'.ro = k2.ro ∧ k'.fam = k2.fam ∧ k'.org = k2.org := by
    rcases r2 with rfl | ⟨x, y, hx, hy, z⟩
    ·exact ⟨k2, e2, rfl, rfl, rfl⟩
    ·rw [e2] at hx; simp only [VObj.cells.injEq] at hx; subst hx; exact ⟨y, hy, z⟩
   obtain ⟨k1', f1, a1, a2, a3⟩ := s1
   obtain ⟨k2', f2, c1, c2, c3⟩ := s2
   refine ⟨k1', k2', f1, f2, ?_⟩
   rw [a1, a2, a3, c1, c2, c3]
   exact hto
 
 have hback : ∀ b' k', h'.get b' = some (.cells k') → ∃ k0, h.get b' = some (.cells k0) ∧ k'.fam = k0.fam ∧ k'.solo = k0.solo ∧ k'.org = k0.org ∧ k'.ro = k0.ro ∧
   k'.es.length ≤ k0.es.length ∧ (k'.last = true → k0.last = true ∧ k'.es.length = k0.es.length) := by
  intro b' k' hg'
  by_cases hbb : b' = b
  ·subst hbb
   rw [gb] at hg'; simp only [Option.some.injEq, VObj.cells.injEq] at hg'; subst hg'
   exact ⟨k, hg, rfl, rfl, rfl, rfl, by simp [hlen], fun hl => ⟨hl, hlen⟩⟩
  ·cases hgo : h.get b' with
   | none =>
    have := (gne b' hbb).2 (fun k0 e => by rw [hgo] at e; cases e)
    rw [this, hgo] at hg'; cases hg'
   | some o =>
    cases o with
    | map es =>
     have := (gne b' hbb).2 (fun k0 e => by rw [hgo] at e; cases e)
     rw [this, hgo] at hg'; cases hg'
    | cells k0 =>
     obtain ⟨k3, e3, p1, _, p3, p4, p5, p6, p7⟩ := (gne b' hbb).1 k0 hgo
     rw [e3] at hg'; simp only [Option.some.injEq, VObj.cells.injEq] at hg'; subst hg'
     refine ⟨k0, rfl, p3, p5, p4, p1, ?_, fun hl => ⟨(p6 hl).1, by rw [(p6 hl).2]⟩⟩
     rcases p7 with ⟨q1, _⟩ | q1 <;> rw [q1]
     ·exact Nat.le_refl _
     ·simp
 have hwf : WF h'.get h.next := by
  refine ⟨fun b' o' hb' => ?_, fun b' k' hb' => ?_, fun b' k' hb' hs' b2 k2 hb2 hne => ?_, fun b' k' hb' hl' b2 k2 hb2 hf => ?_, fun b' k' hb' hl' b2 k2 hb2 hf hl2 => ?_⟩
  ·have := VHeap.get_lt hb'; omega
  ·obtain ⟨k0, h0, e, _⟩ := hback b' k' hb'
   rw [e]; exact hw.fam b' k0 h0
  ·obtain ⟨k0, h0, e, es, _⟩ := hback b' k' hb'
   obtain ⟨k1, h1, e1, _⟩ := hback b2 k2 hb2
   rw [e, e1]
   exact hw.solo b' k0 h0 (es ▸ hs') b2 k1 h1 hne
  ·obtain ⟨k0, h0, e, _, eo, _, _, el⟩ := hback b' k' hb'
   obtain ⟨k1, h1, e1, _, eo1, _, ele, _⟩ := hback b2 k2 hb2
   obtain ⟨hl0, hlen0⟩ := el hl'
   have := hw.last b' k0 h0 hl0 b2 k1 h1 (by rw [← e, ← e1]; exact hf)
   omega
  ·obtain ⟨k0, h0, e, _, _, _, _, el⟩ := hback b' k' hb'
   obtain ⟨k1, h1, e1, _, _, _, _, el1⟩ := hback b2 k2 hb2
   exact hw.last1 b' k0 h0 (el hl').1 b2 k1 h1 (by rw [← e, ← e1]; exact hf) (el1 hl2).1
 refine ⟨hR, hrel, by rw [hnext]; exact hwf, Ren.le.refl ρ, by omega, ho.os, ho.tape, ho.output, by rw [ho.size]; exact Nat.le_refl _, fun B hB hall => ?_, fun _ _ h => .inl h, fun b' k' hb' => ?_, fun b' es hb' => ?_⟩
 ·by_cases hmb : B = l.mb
  ·subst hmb
   obtain ⟨k1, hk1, hr1⟩ := hall b l hb rfl
   rw [hg] at hk1; simp only [Option.some.injEq, VObj.cells.injEq] at hk1; subst hk1
   rw [hro] at hr1; cases hr1
  ·exact ho.other B hmb
 ·by_cases hbb : b' = b
  ·subst hbb
   rw [hg] at hb'; simp only [Option.some.injEq, VObj.cells.injEq] at hb'; subst hb'
   exact ⟨_, gb, rfl⟩
  ·obtain ⟨k3, e3, p1, _⟩ := (gne b' hbb).1 k' hb'
   exact ⟨k3, e3, p1⟩
 ·by_cases hbb : b' = b
  ·subst hbb; rw [hg] at hb'; cases hb'
  ·exact ⟨es, ((gne b' hbb).2 (fun k0 e => by rw [hb'] at e; cases e)).trans hb'⟩
end Go.Proofs.Ythlbahcggmbfaaa.V

namespace Go.Proofs.Ythlbahcggmbfaaa.V
open Go.RowKit
section
variable {P : Program} {ρ : Ren} {w : World}
theorem info_of_underlying {t : TypeId} {d : TypeDesc} (h : P.underlying t = some d) : ∃ i, P.info? t = some i := by
  unfold Program.underlying at h
  split at h
  · exact ⟨_, ‹_›⟩
  · exact ⟨_, ‹_›⟩
  · cases h
theorem info_of_cells {t : TypeId} (h : P.cellsOf t ≠ 0) : ∃ i, P.info? t = some i := by
  unfold Program.cellsOf at h
  cases hi : P.info? t with
  | none => simp [hi] at h
  | some i => exact ⟨i, rfl⟩
theorem run_sizeOf' {t : TypeId} {d : TypeDesc} (h : P.underlying t = some d) (w : World) : (sizeOf t).run P w = .ok (P.cellsOf t) w := by
  obtain ⟨i, hi⟩ := info_of_underlying h
  exact run_sizeOf w hi
def aggDesc : TypeDesc → Bool
  | .struct _ => true
  | .array _ _ => true
  | _ => false
theorem run_isAgg {t : TypeId} {d : TypeDesc} (h : P.underlying t = some d) (w : World) :
    (isAgg t).run P w = .ok (aggDesc d) w := by
  unfold isAgg
  simp only [Sem.run_bind, run_underlying h, Result.andThen_ok]
  cases d <;> rfl
theorem toList_extract (x : Array Value) (a b : Nat) : (x.extract a b).toList = (x.toList.drop a).take (b - a) := by
  simp [List.extract]
theorem fromCells_agg {t : TypeId} {cs : List VV} {v : VV} (h : fromCells P t cs = some v) :
    (∃ d, P.underlying t = some d ∧ aggDesc d = true ∧ v = .agg cs) ∨
    (∃ d, P.underlying t = some d ∧ aggDesc d = false ∧ cs = [v]) := by
  unfold fromCells at h
  cases hu : P.underlying t with
  | none => rw [hu] at h; cases h
  | some d =>
    rw [hu] at h
    cases d <;> simp only [Option.some.injEq] at h <;>
      first
        | exact .inl ⟨_, rfl, rfl, h.symm⟩
        | (refine .inr ⟨_, rfl, rfl, ?_⟩
           split at h
           · simp only [Option.some.injEq] at h; rw [h]
           · cases h)
theorem vpart_sound {t : TypeId} {cs : List VV} {off : Nat} {v : VV} {x : Array Value} (h : vpart P t cs off = some v) (hr : RelL ρ cs x.toList) (w : World) :
    ∃ mv, (part t x off).run P w = .ok mv w ∧ RelV ρ v mv := by
  unfold vpart at h
  split at h
  · rename_i hlen
    have hseg := (hr.drop off).take (P.cellsOf t)
    rcases fromCells_agg h with ⟨d, hu, hd, rfl⟩ | ⟨d, hu, hd, hcs⟩
    · refine ⟨.agg (x.extract off (off + P.cellsOf t)), ?_, RelV.of_agg ?_⟩
      · unfold part
        simp only [Sem.run_bind, run_isAgg hu, Result.andThen_ok, hd, if_true, run_sizeOf' hu, Sem.run_pure]
      · rw [toList_extract, Nat.add_sub_cancel_left]; exact hseg
    · rw [hcs] at hseg
      obtain ⟨v', x', hx, hv, hnil⟩ := hseg.of_cons
      have hn := hnil.of_nil
      subst hn
      have hat : x[off]? = some v' := by
        have h0 : (List.take (P.cellsOf t) (List.drop off x.toList))[0]? = some v' := by rw [hx]; rfl
        rw [List.getElem?_take] at h0
        split at h0
        · rw [List.getElem?_drop] at h0; simpa using h0
        · cases h0
      refine ⟨v', ?_, hv⟩
      unfold part
      simp only [Sem.run_bind, run_isAgg hu, Result.andThen_ok, hd, hat]
      rfl
  · cases h
theorem addrAt_add (l : Loc) (i f n : Nat) : (addrAt l i f).add n = addrAt l i (f + n) := by
  unfold addrAt Addr.add
  split
  · rename_i h; subst h; simp
  · simp [Nat.add_assoc]
theorem rd_sound {h : VHeap} {g : Nat → Option VObj} {b i f n : Nat} {cs : List VV} {l : Loc} (hrd : rd h b i f n = some cs) (hR : Rel ρ g w) (hb : ρ b = some l)
    (hgh : ∀ o, h.get b = some o → g b = some o) :
    ∃ ms : List Value, RelL ρ cs ms ∧ cs.all oneCell = true ∧ ms.length = n ∧ ∀ (j : Nat) v, ms[j]? = some v → w.cell? ((addrAt l i f).add j) = some v := by
  unfold rd at hrd
  cases hg : h.get b with
  | none => rw [hg] at hrd; cases hrd
  | some o =>
    rw [hg] at hrd
    cases o with
    | map es => cases hrd
    | cells k =>
      simp only at hrd
      cases hi : k.es[i]? with
      | none => rw [hi] at hrd; cases hrd
      | some c =>
        rw [hi] at hrd
        simp only at hrd
        split at hrd
        · rename_i hlen
          simp only [Option.some.injEq] at hrd
          subst hrd
          obtain ⟨o', ho', hr⟩ := hR.obj b l hb
          rw [hgh _ hg] at ho'
          simp only [Option.some.injEq] at ho'; subst ho'
          generalize hm : w.heap[l.mb]? = m at hr
          cases hr with
          | cells k mc t fr hr0 hs he h0 hin hfr hc =>
            obtain ⟨a1, a2, a3⟩ := hc i c hi
            have hall : ∀ j : Nat, j < n → ∃ mv, mc[l.coff + i * l.esz + (f + j)]? = some mv ∧ ∃ v, c[f + j]? = some v ∧ RelV ρ v mv := by
              intro j hj
              have hlt : f + j < c.length := by omega
              obtain ⟨mv, x, y⟩ := a3 (f + j) c[f + j] (List.getElem?_eq_getElem hlt)
              exact ⟨mv, x, _, List.getElem?_eq_getElem hlt, y⟩
            refine ⟨(List.range n).map fun j => (mc[l.coff + i * l.esz + (f + j)]?).getD undef, ⟨?_, ?_⟩, ?_, by simp, ?_⟩
            · simp; omega
            · intro j v v' hv hv'
              have hj : j < n := by
                have := (List.getElem?_eq_some_iff.1 hv').1
                simpa using this
              obtain ⟨mv, x, u, hu, y⟩ := hall j hj
              rw [List.getElem?_take, if_pos hj, List.getElem?_drop, hu] at hv
              simp only [Option.some.injEq] at hv; subst hv
              simp [hj, x] at hv'
              subst hv'; exact y
            · exact List.all_eq_true.2 fun v hv => List.all_eq_true.1 a2 v (List.mem_of_mem_drop (List.mem_of_mem_take hv))
            · intro j v hv
              have hj : j < n := by
                have := (List.getElem?_eq_some_iff.1 hv).1
                simpa using this
              obtain ⟨mv, x, u, hu, y⟩ := hall j hj
              simp [hj, x] at hv
              subst hv
              rw [addrAt_add]
              unfold addrAt
              rw [cell_of_row w l.mb _ mc t fr hm, ← x]
        · cases hrd
theorem vload_sound {t : TypeId} {h : VHeap} {g : Nat → Option VObj} {av v : VV} {mav : Value} (hv : vload P t h av = some v) (ha : RelV ρ av mav) (hR : Rel ρ g w)
    (hgh : ∀ b o, ρ b ≠ none → h.get b = some o → g b = some o) : ∃ mv, (Instr.loadAt t mav).run P w = .ok mv w ∧ RelV ρ v mv := by
  cases ha with
  | ptr b i f l hb =>
    simp only [vload] at hv
    cases hrd : rd h b i f (P.cellsOf t) with
    | none => rw [hrd] at hv; cases hv
    | some cs =>
      rw [hrd] at hv
      simp only [Option.bind_some] at hv
      obtain ⟨ms, hrel, _, hlen, hcell⟩ := rd_sound hrd hR hb (fun o => hgh b o (by rw [hb]; simp))
      rcases fromCells_agg hv with ⟨d, hu, hd, rfl⟩ | ⟨d, hu, hd, hcs⟩
      · refine ⟨.agg ms.toArray, ?_, RelV.of_agg (by simpa using hrel)⟩
        have := run_loadCells_list (P := P) w (addrAt l i f) ms hcell
        rw [hlen] at this
        simp only [Instr.loadAt, Instr.sureAddr, loadVar, Sem.run_bind, Sem.run_pure, Result.andThen_ok, run_isAgg hu, hd, if_true, run_sizeOf' hu, this]
      · subst hcs
        obtain ⟨v', x', hx, hv', hnil⟩ := hrel.of_cons
        have hn := hnil.of_nil
        subst hn
        refine ⟨v', ?_, hv'⟩
        have h0 := hcell 0 v' (by rw [hx]; rfl)
        have e0 : (addrAt l i f).add 0 = addrAt l i f := by simp [Addr.add]
        rw [e0] at h0
        simp only [Instr.loadAt, Instr.sureAddr, loadVar, Sem.run_bind, Sem.run_pure, Result.andThen_ok, run_isAgg hu, hd, Bool.false_eq_true, if_false, run_load, h0]
  | undef _ => cases hv
  | bool _ => cases hv
  | int _ _ => cases hv
  | str _ => cases hv
  | nilptr => cases hv
  | nilslice => cases hv
  | slice => cases hv
  | nilmap => cases hv
  | map => cases hv
  | nilfunc => cases hv
  | func => cases hv
  | niliface => cases hv
  | iface => cases hv
  | agg => cases hv
  | tuple => cases hv
end
end Go.Proofs.Ythlbahcggmbfaaa.V

namespace Go.Proofs.Ythlbahcggmbfaaa.V
open Go.RowKit
section
variable {P : Program} {ρ : Ren} (w : World)
def eqFieldsV (P : Program) (d : Nat) (xs ys : List VV) (fs : List Field) : Option Bool :=
 fs.foldr (fun f r =>
  if f.name = "_" then r else
  match vpart P f.type xs f.offset, vpart P f.type ys f.offset with
  | some a, some b => match veq P d f.type a b with
   | some true => r
   | some false => some false
   | none => none
  | _, _ => none) (some true)
theorem eqFields_sound (d D : Nat) (ih : ∀ t x y b mx my, veq P d t x y = some b → RelV ρ x mx → RelV ρ y my → (Op.equalIn D t mx my).run P w = .ok b w)
  (xs ys : List VV) (mxs mys : Array Value) (hx : RelL ρ xs mxs.toList) (hy : RelL ρ ys mys.toList) :
  ∀ (fs : List Field) (b : Bool), eqFieldsV P d xs ys fs = some b → (Op.eqFields D mxs mys fs).run P w = .ok b w
 | [], b, h => by simp [eqFieldsV] at h; subst h; simp [Op.eqFields]
 | f :: fs, b, h => by
  simp only [eqFieldsV, List.foldr_cons] at h
  change (if f.name = "_" then eqFieldsV P d xs ys fs else _) = some b at h
  simp only [Op.eqFields]
  by_cases hn : f.name = "_"
  ·rw [if_pos hn] at h
   rw [if_neg (by simpa using hn)]
   exact eqFields_sound d D ih xs ys mxs mys hx hy fs b h
  ·rw [if_neg hn] at h
   rw [if_pos hn]
   cases h1 : vpart P f.type xs f.offset with
   | none => rw [h1] at h; cases h
   | some a1 =>
    cases h2 : vpart P f.type ys f.offset with
    | none => rw [h1, h2] at h; cases h
    | some a2 =>
     rw [h1, h2] at h
     simp only at h
     obtain ⟨m1, r1, v1⟩ := vpart_sound h1 hx w
     obtain ⟨m2, r2, v2⟩ := vpart_sound h2 hy w
     cases h3 : veq P d f.type a1 a2 with
     | none => rw [h3] at h; cases h
     | some r =>
      rw [h3] at h
      have h4 := ih f.type a1 a2 r m1 m2 h3 v1 v2
      simp only [Sem.run_bind, r1, r2, h4, Result.andThen_ok]
      cases r with
      | false => simp only [Option.some.injEq] at h; subst h; simp
      | true =>
       simp only [Bool.not_true, Bool.false_eq_true, if_false]
       exact eqFields_sound d D ih xs ys mxs mys hx hy fs b h
theorem veq_sound : ∀ (d : Nat) (t : TypeId) (x y : VV) (b : Bool) (mx my : Value), veq P d t x y = some b → RelV ρ x mx → RelV ρ y my →
  ∀ D, d ≤ D → (Op.equalIn D t mx my).run P w = .ok b w
 | 0, _, _, _, _, _, _, h, _, _, _, _ => by simp [veq] at h
 | d + 1, t, x, y, b, mx, my, h, hx, hy, D, hD => by
  obtain ⟨D, rfl⟩ : ∃ m, D = m + 1 := ⟨D - 1, by omega⟩
  have ih := fun t x y b mx my (h : veq P d t x y = some b) (hx : RelV ρ x mx) (hy : RelV ρ y my) => veq_sound d t x y b mx my h hx hy D (by omega)
  unfold veq at h
  split at h
  ·rename_i hu; cases hx; cases hy; simp only [Option.some.injEq] at h; subst h; exact run_equalIn_bool w D t _ _ hu
  ·rename_i hu; cases hx; cases hy
   split at h
   ·rename_i hk; subst hk; simp only [Option.some.injEq] at h; subst h; exact run_equalIn_int w D t _ _ _ _ hu
   ·cases h
  ·rename_i hu; cases hx; cases hy; simp only [Option.some.injEq] at h; subst h
   simp only [Op.equalIn, Sem.run_bind, run_underlying hu, Result.andThen_ok, Sem.run_pure]
  ·rename_i hu; cases hx; cases hy; simp only [Option.some.injEq] at h; subst h
   simp [Op.equalIn, Sem.run_bind, run_underlying hu]
  ·rename_i hu; cases hx; cases hy; simp only [Option.some.injEq] at h; subst h
   simp [Op.equalIn, Sem.run_bind, run_underlying hu]
  ·rename_i hu; cases hx; cases hy; simp only [Option.some.injEq] at h; subst h
   simp [Op.equalIn, Sem.run_bind, run_underlying hu]
  ·rename_i hu; cases hx; cases hy; simp only [Option.some.injEq] at h; subst h
   simp [Op.equalIn, Sem.run_bind, run_underlying hu]
  ·rename_i hu; cases hx; cases hy; simp only [Option.some.injEq] at h; subst h
   simp [Op.equalIn, Sem.run_bind, run_underlying hu]
  ·rename_i hu; cases hx; cases hy; simp only [Option.some.injEq] at h; subst h
   simp [Op.equalIn, Sem.run_bind, run_underlying hu]
  ·rename_i tx vx ty vy hu
   cases hx with
   | iface _ _ mvx hvx =>
   cases hy with
   | iface _ _ mvy hvy =>
   split at h
   ·rename_i hne
    simp only [Option.some.injEq] at h; subst h
    simp [Op.equalIn, Sem.run_bind, run_underlying hu, hne]
   ·rename_i he
    have he : tx = ty := by simpa using he
    subst he
    cases hi : P.info? tx with
    | none => rw [hi] at h; cases h
    | some i =>
     rw [hi] at h
     simp only at h
     split at h
     ·rename_i hcmp
      have := ih tx vx vy b mvx mvy h hvx hvy
      simp [Op.equalIn, Sem.run_bind, run_underlying hu, run_typeInfo w hi, hcmp, this]
     ·cases h
  ·rename_i fs xs ys hu
   obtain ⟨mxs, rfl, hxs⟩ := hx.agg_iff
   obtain ⟨mys, rfl, hys⟩ := hy.agg_iff
   split at h
   ·cases h
   ·rename_i hst
    have hf : P.fieldsOf t = fs := by simp [Program.fieldsOf, hu]
    rw [run_equalIn_struct w D t mxs mys (by rw [hf]; exact hu) (by simpa using hst), hf]
    exact eqFields_sound w d D ih xs ys mxs mys hxs hys fs.toList b h
  all_goals
   first
    | (rename_i hu; cases hx; cases hy; simp only [Option.some.injEq] at h; subst h; simp [Op.equalIn, Sem.run_bind, run_underlying hu]; done)
    | cases h
theorem eqGuard_sound {op : BinOp} {t : TypeId} {ox oy : Operand} {x y : VV} {mx my : Value} (h : eqOK P t ox oy x y = true) (hx : RelV ρ x mx) (hy : RelV ρ y my) :
  (eqGuard op t ox oy mx my).run P w = .ok () w := by
 have main : (eqGuard .eql t ox oy mx my).run P w = .ok () w := by
  unfold eqOK at h
  unfold eqGuard
  split at h
  ·cases hx; cases hy
   revert h
   cases ox <;> cases oy <;> simp [isConstB]
  ·obtain ⟨mxs, rfl, _⟩ := hx.agg_iff
   obtain ⟨mys, rfl, _⟩ := hy.agg_iff
   simp at h
   simp [h]
  ·cases h
  ·cases h
  ·rename_i h1 h2 h3 h4
   cases hx <;> cases hy <;> first | rfl | (exfalso; simp_all; done)
 cases op <;> first | rfl | exact main
theorem vint_sound {op : BinOp} {k : IntKind} {x y : Int} {v : VV} (t : TypeId) (hop : op ≠ .shl ∧ op ≠ .shr) (h : vint op k x y = some v) :
  ∃ mv, (binOp op t (.int k x) (.int k y)).run P w = .ok mv w ∧ RelV ρ v mv := by
 cases op <;> simp only [vint, Option.some.injEq] at h <;> (try cases h)
 case add => exact ⟨_, by simp [binOp, Op.intArith], .int _ _⟩
 case sub => exact ⟨_, by simp [binOp, Op.intArith], .int _ _⟩
 case mul => exact ⟨_, by simp [binOp, Op.intArith], .int _ _⟩
 case quo =>
  split at h
  ·cases h
  ·rename_i hy; simp only [Option.some.injEq] at h; subst h; exact ⟨_, by simp [binOp, Op.intDiv, hy], .int _ _⟩
 case rem =>
  split at h
  ·cases h
  ·rename_i hy; simp only [Option.some.injEq] at h; subst h; exact ⟨_, by simp [binOp, Op.intDiv, hy], .int _ _⟩
 case and => exact ⟨_, by simp [binOp, Op.intBits], .int _ _⟩
 case or => exact ⟨_, by simp [binOp, Op.intBits], .int _ _⟩
 case xor => exact ⟨_, by simp [binOp, Op.intBits], .int _ _⟩
 case andNot => exact ⟨_, by simp [binOp, Op.intBits], .int _ _⟩
 case eql => exact ⟨_, by simp [binOp, Op.intCmp], .bool _⟩
 case neq => exact ⟨_, by simp [binOp, Op.intCmp], .bool _⟩
 case lss => exact ⟨_, by simp [binOp, Op.intCmp], .bool _⟩
 case leq => exact ⟨_, by simp [binOp, Op.intCmp], .bool _⟩
 case gtr => exact ⟨_, by simp [binOp, Op.intCmp], .bool _⟩
 case geq => exact ⟨_, by simp [binOp, Op.intCmp], .bool _⟩
end
end Go.Proofs.Ythlbahcggmbfaaa.V

namespace Go.Proofs.Ythlbahcggmbfaaa.V
open Go.RowKit
section
variable {P : Program} {ρ : Ren} (w : World)
theorem binOp_eq (t : TypeId) {x y : VV} {mx my : Value} (hx : RelV ρ x mx) (hy : RelV ρ y my) (ux : x ≠ .undef) (uy : y ≠ .undef)
  (h1 : ∀ k a k' b, x = .int k a → y = .int k' b → False) (h2 : ∀ a b, x = .str a → y = .str b → False) :
  binOp .eql t mx my = (do pure (.bool (← Op.equal t mx my))) ∧ binOp .neq t mx my = (do pure (.bool (!(← Op.equal t mx my)))) := by
 cases hx <;> first | exact absurd rfl ux | skip
 all_goals (cases hy <;> first | exact absurd rfl uy | exact ⟨rfl, rfl⟩ | exact (h1 _ _ _ _ rfl rfl).elim | exact (h2 _ _ rfl rfl).elim)
theorem vbin_sound {op : BinOp} {t : TypeId} {ox oy : Operand} {x y v : VV} {mx my : Value} (h : vbin P op t ox oy x y = some v) (hx : RelV ρ x mx) (hy : RelV ρ y my) :
  ∃ mv, (do eqGuard op t ox oy mx my; binOp op t mx my : Sem Value).run P w = .ok mv w ∧ RelV ρ v mv := by
 unfold vbin at h
 split at h
 ·rename_i k a k' b
  cases hx; cases hy
  have hg : (eqGuard op t ox oy (.int k a) (.int k' b)).run P w = .ok () w := by cases op <;> rfl
  simp only [Sem.run_bind, hg, Result.andThen_ok]
  split at h
  ·unfold vshift at h
   split at h
   ·cases h
   ·rename_i hneg
    simp only [Option.some.injEq] at h; subst h
    exact ⟨_, by simp [binOp, Op.shift, hneg], .int _ _⟩
  ·unfold vshift at h
   split at h
   ·cases h
   ·rename_i hneg
    simp only [Option.some.injEq] at h; subst h
    exact ⟨_, by simp [binOp, Op.shift, hneg], .int _ _⟩
  ·rename_i h1 h2
   split at h
   ·rename_i hk; subst hk
    exact vint_sound w t ⟨fun e => h1 e, fun e => h2 e⟩ h
   ·cases h
 ·rename_i a b
  cases hx; cases hy
  have hg : (eqGuard op t ox oy (.string a) (.string b)).run P w = .ok () w := by cases op <;> rfl
  simp only [Sem.run_bind, hg, Result.andThen_ok]
  unfold vstr at h
  split at h
  ·split at h
   ·cases h
   ·rename_i hsz
    simp only [Option.some.injEq] at h; subst h
    exact ⟨_, by simp only [binOp, Op.stringOp, hsz, if_false, Sem.run_pure], .str _⟩
  all_goals first
   | (simp only [Option.some.injEq] at h; subst h; exact ⟨_, by simp [binOp, Op.stringOp], .bool _⟩)
   | cases h
 ·rename_i h1 h2
  split at h
  ·rename_i hok
   simp only [Option.map_eq_some_iff] at h
   obtain ⟨r, hr, rfl⟩ := h
   have heq := veq_sound w 100 t x y r mx my hr hx hy 10000 (by omega)
   have hg := eqGuard_sound (op := .eql) w hok hx hy
   refine ⟨_, ?_, .bool r⟩
   simp only [Sem.run_bind, hg, Result.andThen_ok]
   rw [(binOp_eq t hx hy (fun e => by subst e; cases y <;> simp [eqOK] at hok) (fun e => by subst e; cases x <;> simp [eqOK] at hok) h1 h2).1]
   simp only [Op.equal, Op.maxDepth, Sem.run_bind, heq, Result.andThen_ok, Sem.run_pure]
  ·rename_i hok
   simp only [Option.map_eq_some_iff] at h
   obtain ⟨r, hr, rfl⟩ := h
   have heq := veq_sound w 100 t x y r mx my hr hx hy 10000 (by omega)
   have hg := eqGuard_sound (op := .neq) w hok hx hy
   refine ⟨_, ?_, .bool (!r)⟩
   simp only [Sem.run_bind, hg, Result.andThen_ok]
   rw [(binOp_eq t hx hy (fun e => by subst e; cases y <;> simp [eqOK] at hok) (fun e => by subst e; cases x <;> simp [eqOK] at hok) h1 h2).2]
   simp only [Op.equal, Op.maxDepth, Sem.run_bind, heq, Result.andThen_ok, Sem.run_pure]
  ·cases h
theorem vun_sound {op : UnOp} {x v : VV} {mx : Value} (h : vun op x = some v) (hx : RelV ρ x mx) : ∃ mv, (Op.unary op mx).run P w = .ok mv w ∧ RelV ρ v mv := by
 unfold vun at h
 split at h
 ·cases hx; simp only [Option.some.injEq] at h; subst h; exact ⟨_, by simp [Op.unary, Op.intArith], .int _ _⟩
 ·cases hx; simp only [Option.some.injEq] at h; subst h; exact ⟨_, by simp [Op.unary, Op.intBits], .int _ _⟩
 ·cases hx; simp only [Option.some.injEq] at h; subst h; exact ⟨_, by simp [Op.unary], .bool _⟩
 ·cases h
theorem vconv_sound {src dst : TypeId} {x v : VV} {mx : Value} (h : vconv P src dst x = some v) (hx : RelV ρ x mx) : ∃ mv, (convert src dst mx).run P w = .ok mv w ∧ RelV ρ v mv := by
 unfold vconv at h
 split at h
 ·rename_i h1 h2
  cases hx; simp only [Option.some.injEq] at h; subst h
  exact ⟨_, by simp [convert, run_underlying h1, run_underlying h2, Conv.intToInt], .int _ _⟩
 ·rename_i h1 h2
  cases hx; simp only [Option.some.injEq] at h; subst h
  refine ⟨_, ?_, .str _⟩
  rename_i d s _
  cases d <;> simp [convert, run_underlying h1, run_underlying h2]
 ·rename_i h1 h2
  cases hx; simp only [Option.some.injEq] at h; subst h
  exact ⟨_, by simp [convert, run_underlying h1, run_underlying h2, Conv.intToString], .str _⟩
 ·cases h
theorem natOf_rel {x : VV} {mx : Value} {n : Nat} (h : natOf x = some n) (hx : RelV ρ x mx) : ∃ k i, mx = .int k i ∧ 0 ≤ i ∧ n = i.toNat := by
 unfold natOf at h
 split at h
 ·cases hx
  split at h
  ·rename_i h0; simp only [Option.some.injEq] at h; exact ⟨_, _, rfl, h0, h.symm⟩
  ·cases h
 ·cases h
theorem run_bound {x : VV} {mx : Value} {n : Nat} (h : natOf x = some n) (hx : RelV ρ x mx) (y : Nat) (hy : n ≤ y) (code : BoundsCode) : (Instr.sliceBound mx y code).run P w = .ok n w := by
 obtain ⟨k, i, rfl, h0, rfl⟩ := natOf_rel h hx
 exact run_sliceBound w k i y code h0 (by omega)
def RelOpt (ρ : Ren) (x : Option VV) (mx : Option Value) : Prop := (x = none ∧ mx = none) ∨ ∃ v mv, x = some v ∧ mx = some mv ∧ RelV ρ v mv
theorem RelOpt.map {e : Env} {a : Act} (x : Option Operand) (h : ∀ o, x = some o → RelV ρ (ev e o) (a.eval o)) : RelOpt ρ (x.map (ev e)) (x.map a.eval) := by
 cases x with
 | none => exact .inl ⟨rfl, rfl⟩
 | some o => exact .inr ⟨_, _, rfl, rfl, h o rfl⟩
theorem run_bounds {lo hi mx : Option VV} {mlo mhi mmx : Option Value} {len cap l g m : Nat} (isS : Bool) (hl : (lo.map natOf).getD (some 0) = some l) (hg : (hi.map natOf).getD (some len) = some g)
  (hm : (mx.map natOf).getD (some cap) = some m) (r1 : RelOpt ρ lo mlo) (r2 : RelOpt ρ hi mhi) (r3 : RelOpt ρ mx mmx) (h1 : l ≤ g) (h2 : g ≤ m) (h3 : m ≤ cap) (h4 : hi.isSome = true ∨ mx = none) :
  (Instr.sliceBounds isS len cap mlo mhi mmx).run P w = .ok (l, g, m) w := by
 unfold Instr.sliceBounds
 rcases r3 with ⟨rfl, rfl⟩ | ⟨v3, mv3, rfl, rfl, hv3⟩ <;> rcases r2 with ⟨rfl, rfl⟩ | ⟨v2, mv2, rfl, rfl, hv2⟩ <;> rcases r1 with ⟨rfl, rfl⟩ | ⟨v1, mv1, rfl, rfl, hv1⟩ <;>
  simp only [Option.map_none, Option.map_some, Option.getD_none, Option.getD_some, Option.some.injEq] at hl hg hm <;> (try subst hl) <;> (try subst hg) <;> (try subst hm)
 ·simp
 ·have e1 := fun code => run_bound (P := P) w hl hv1 _ h1 code
  simp [e1]
 ·have e2 := fun code => run_bound (P := P) w hg hv2 _ h2 code
  simp [e2]
 ·have e1 := fun code => run_bound (P := P) w hl hv1 _ h1 code
  have e2 := fun code => run_bound (P := P) w hg hv2 _ h2 code
  simp [e1, e2]
 ·rcases h4 with h4 | h4 <;> cases h4
 ·rcases h4 with h4 | h4 <;> cases h4
 ·have e2 := fun code => run_bound (P := P) w hg hv2 _ h2 code
  have e3 := fun code => run_bound (P := P) w hm hv3 _ h3 code
  simp [e2, e3]
 ·have e1 := fun code => run_bound (P := P) w hl hv1 _ h1 code
  have e2 := fun code => run_bound (P := P) w hg hv2 _ h2 code
  have e3 := fun code => run_bound (P := P) w hm hv3 _ h3 code
  simp [e1, e2, e3]
end
end Go.Proofs.Ythlbahcggmbfaaa.V

namespace Go.Proofs.Ythlbahcggmbfaaa.V
open Go.RowKit
section
variable {P : Program} {ρ : Ren} (w : World)
theorem vslice_str {t : TypeId} {s : ByteArray} {lo hi mx : Option VV} {mlo mhi mmx : Option Value} {v : VV} {z : Nat} (h : vslice z (.str s) lo hi mx = some v) (hu : P.underlying t = some .string)
  (r1 : RelOpt ρ lo mlo) (r2 : RelOpt ρ hi mhi) (r3 : RelOpt ρ mx mmx) : ∃ mv, (Instr.sliceAt t (.string s) mlo mhi mmx).run P w = .ok mv w ∧ RelV ρ v mv := by
 unfold vslice at h
 cases hl : (lo.map natOf).getD (some 0) with
 | none => rw [hl] at h; cases h
 | some l =>
  rw [hl] at h
  simp only at h
  split at h
  ·rename_i g hg
   split at h
   ·rename_i hb
    simp only [Option.some.injEq] at h; subst h
    rcases r3 with ⟨_, rfl⟩ | ⟨_, _, h', _⟩
    ·have := run_bounds (P := P) (mx := none) (mmx := none) (len := s.size) (cap := s.size) w false hl hg rfl r1 r2 (.inl ⟨rfl, rfl⟩) hb.1 hb.2 (Nat.le_refl _) (.inr rfl)
     refine ⟨_, ?_, .str _⟩
     simp [Instr.sliceAt, Instr.slice, run_underlying hu, this]
    ·cases h'
   ·cases h
  ·cases h
theorem vslice_nil {t el : TypeId} {lo hi mx : Option VV} {mlo mhi mmx : Option Value} {v : VV} {z : Nat} (h : vslice z .nilslice lo hi mx = some v) (hu : P.underlying t = some (.slice el)) (he : P.cellsOf el ≠ 0)
  (r1 : RelOpt ρ lo mlo) (r2 : RelOpt ρ hi mhi) (r3 : RelOpt ρ mx mmx) : ∃ mv, (Instr.sliceAt t (.slice none 0 0) mlo mhi mmx).run P w = .ok mv w ∧ RelV ρ v mv := by
 obtain ⟨i, hi'⟩ := info_of_cells he
 unfold vslice at h
 cases hl : (lo.map natOf).getD (some 0) with
 | none => rw [hl] at h; cases h
 | some l =>
  rw [hl] at h
  simp only at h
  split at h
  ·rename_i hg hmx
   split at h
   ·rename_i hb
    obtain ⟨hb, hm⟩ := hb
    subst hb
    simp only [Option.some.injEq] at h; subst h
    have := run_bounds (P := P) (len := 0) (cap := 0) w true hl hg hmx r1 r2 r3 (Nat.le_refl _) (Nat.le_refl _) (Nat.le_refl _) (by simpa using hm)
    refine ⟨_, ?_, .nilslice⟩
    simp [Instr.sliceAt, Instr.slice, run_underlying hu, this, run_sizeOf w hi']
   ·cases h
  ·cases h
theorem addrAt_row (l : Loc) (i j : Nat) : (addrAt l i 0).add (j * l.esz) = addrAt l (i + j) 0 := by
 unfold addrAt Addr.add
 split
 ·rename_i h; rw [Nat.add_mul, h]; simp
 ·rw [Nat.add_mul]; simp only [Nat.add_zero, Nat.add_assoc]
theorem vslice_row {t el : TypeId} {b i n z z' : Nat} {c : Option Nat} {lo hi mx : Option VV} {mlo mhi mmx : Option Value} {v : VV} {mv : Value} (h : vslice z' (.slice b i n c z) lo hi mx = some v)
  (hu : P.underlying t = some (.slice el)) (he : P.cellsOf el ≠ 0) (hz : z' = P.cellsOf el) (hx : RelV ρ (.slice b i n c z) mv)
  (r1 : RelOpt ρ lo mlo) (r2 : RelOpt ρ hi mhi) (r3 : RelOpt ρ mx mmx) : ∃ mv', (Instr.sliceAt t mv mlo mhi mmx).run P w = .ok mv' w ∧ RelV ρ v mv' := by
 obtain ⟨inf, hinf⟩ := info_of_cells he
 cases hx with
 | slice _ _ _ _ _ l a mcap hb hlz hn hm hc ho ha =>
 
 have cut : ∀ lo' g m, (Instr.sliceBounds true n mcap mlo mhi mmx).run P w = .ok (lo', g, m) w →
   (Instr.sliceAt t (.slice (some a) n mcap) mlo mhi mmx).run P w = .ok (.slice (some (if m = lo' then a else a.add (lo' * P.cellsOf el))) (g - lo') (m - lo')) w := by
  intro lo' g m hb
  simp only [Instr.sliceAt, Instr.slice, Sem.run_bind, run_underlying hu, Result.andThen_ok, hb, run_sizeOf w hinf, Sem.run_pure]
  split <;> rfl
 have place : ∀ lo' : Nat, z = z' → a = addrAt l i 0 → a.add (lo' * P.cellsOf el) = addrAt l (i + lo') 0 := by
  intro lo' e1 e2
  rw [e2, ← hz, ← e1, ← hlz, addrAt_row]
 unfold vslice at h
 cases hl : (lo.map natOf).getD (some 0) with
 | none => rw [hl] at h; cases h
 | some lo' =>
  rw [hl] at h
  cases c with
  | some cap =>
   have hcap := hc cap rfl
   subst hcap
   simp only at h
   split at h
   ·rename_i g m hg hmx
    split at h
    ·rename_i hcond
     obtain ⟨e1, h1, h2, h3, h4⟩ := hcond
     simp only [Option.some.injEq] at h; subst h
     refine ⟨_, cut lo' g m (run_bounds w true hl hg hmx r1 r2 r3 h1 h2 h3 (by simpa using h4)), ?_⟩
     refine .slice b _ _ _ z l _ _ hb hlz (by omega) (by omega) (fun k hk => by simp only [Option.some.injEq] at hk; exact hk) (fun e => by cases e) ?_
     rcases ha with ha | ⟨h0, h0'⟩
     ·left
      by_cases hml : m = lo'
      ·rw [if_pos hml, if_pos hml]; exact ha
      ·rw [if_neg hml, if_neg hml]; exact place lo' e1 ha
     ·right
      exact ⟨by omega, by omega⟩
    ·cases h
   ·cases h
  | none =>
   have hopen := ho rfl
   simp only at h
   split at h
   ·rename_i g hg
    split at h
    ·rename_i hcond
     obtain ⟨e1, h1, h2⟩ := hcond
     simp only [Option.some.injEq] at h; subst h
     rcases r3 with ⟨_, rfl⟩ | ⟨_, _, h', _⟩
     ·have hb0 := run_bounds (P := P) (mx := none) (mmx := none) (len := n) (cap := mcap) w true hl hg rfl r1 r2 (.inl ⟨rfl, rfl⟩) h1 (by omega) (Nat.le_refl _) (.inr rfl)
      refine ⟨_, cut lo' g mcap hb0, ?_⟩
      refine .slice b _ _ none z l _ _ hb hlz (by omega) (by omega) (fun k hk => by cases hk) (fun _ hr => ?_) ?_
      ·rw [show i + lo' + (mcap - lo') = i + mcap by omega]
       exact hopen hr
      ·by_cases hml : mcap = lo'
       ·rw [if_pos hml]
        right
        exact ⟨by omega, by omega⟩
       ·rw [if_neg hml]
        rcases ha with ha | ⟨h0, h0'⟩
        ·left; exact place lo' e1 ha
        ·exfalso; omega
     ·cases h'
    ·cases h
   ·rename_i g m hg
    cases hnm : natOf m with
    | none => rw [hnm] at h; cases h
    | some m' =>
     rw [hnm] at h
     simp only at h
     split at h
     ·rename_i hcond
      obtain ⟨e1, h1, h2, h3, h4⟩ := hcond
      simp only [Option.some.injEq] at h; subst h
      have hb0 := run_bounds (P := P) (mx := some m) (len := n) (cap := mcap) (m := m') w true hl hg (by simpa using hnm) r1 r2 r3 h1 h2 (by omega) (.inl h4)
      refine ⟨_, cut lo' g m' hb0, ?_⟩
      refine .slice b _ _ _ z l _ _ hb hlz (by omega) (by omega) (fun k hk => by simp only [Option.some.injEq] at hk; exact hk) (fun e => by cases e) ?_
      rcases ha with ha | ⟨h0, h0'⟩
      ·left
       by_cases hml : m' = lo'
       ·rw [if_pos hml, if_pos hml]; exact ha
       ·rw [if_neg hml, if_neg hml]; exact place lo' e1 ha
      ·right
       exact ⟨by omega, by omega⟩
     ·cases h
   ·cases h
end
end Go.Proofs.Ythlbahcggmbfaaa.V

namespace Go.Proofs.Ythlbahcggmbfaaa.V
open Go.RowKit
section
variable {P : Program} {ρ : Ren} (w : World)
theorem foldl_set (off : Nat) : ∀ (vs : List Value) (k : Nat) (cells : Array Value), off + k + vs.length ≤ cells.size →
  ((vs.zipIdx k).foldl (fun (cs : Array Value) (p : Value × Nat) => cs.setIfInBounds (off + p.2) p.1) cells).toList = cells.toList.take (off + k) ++ vs ++ cells.toList.drop (off + k + vs.length)
 | [], k, cells, h => by simp
 | v :: vs, k, cells, h => by
  have hlt : off + k < cells.size := by simp at h; omega
  rw [List.zipIdx_cons, List.foldl_cons, foldl_set off vs (k + 1) (cells.setIfInBounds (off + k) v) (by simp at h ⊢; omega)]
  simp only [Array.toList_setIfInBounds, List.length_cons]
  apply List.ext_getElem?
  intro i
  simp only [List.getElem?_append, List.getElem?_take, List.getElem?_drop, List.getElem?_set, List.length_append, List.length_take, List.length_set, Array.length_toList, List.length_cons]
  have h1 : min (off + (k + 1)) cells.size = off + k + 1 := by omega
  have h2 : min (off + k) cells.size = off + k := by omega
  rw [h1, h2]
  by_cases a : i < off + k
  ·rw [if_pos (by omega), if_pos (by omega), if_pos (by omega), if_neg (by omega), if_pos (by omega), if_pos (by omega), if_pos (by omega)]
  ·by_cases b : i = off + k
   ·subst b
    rw [if_pos (by omega), if_pos (by omega), if_pos (by omega), if_pos rfl, if_pos hlt, if_pos (by omega), if_neg (by omega), Nat.sub_self]; rfl
   ·by_cases c : i < off + k + 1 + vs.length
    ·rw [if_pos (by omega), if_neg (by omega), if_pos (by omega), if_neg (by omega), show i - (off + k) = (i - (off + k + 1)) + 1 by omega]; rfl
    ·rw [if_neg (by omega), if_neg (by omega), if_neg (by omega)]
     congr 1
     omega
theorem fill_sound (place : Nat → Option (Nat × Nat)) : ∀ (parts : List (Nat × VV)) (mparts : List (Nat × Value)) (cells out : List VV) (mcells : Array Value), fillV place cells parts = some out →
  parts.length = mparts.length → (∀ (i : Nat) p q, parts[i]? = some p → mparts[i]? = some q → p.1 = q.1 ∧ RelV ρ p.2 q.2) → RelL ρ cells mcells.toList →
  ∃ mout : Array Value, Instr.fill place mcells mparts = some mout ∧ RelL ρ out mout.toList
 | [], mparts, cells, out, mcells, h, hl, _, hc => by
  have : mparts = [] := List.eq_nil_of_length_eq_zero hl.symm
  subst this
  simp [fillV] at h; subst h
  exact ⟨mcells, rfl, hc⟩
 | (i, v) :: parts, [], cells, out, mcells, h, hl, _, hc => by simp at hl
 | (i, v) :: parts, (i', mv) :: mparts, cells, out, mcells, h, hl, hp, hc => by
  obtain ⟨e, hv⟩ := hp 0 _ _ rfl rfl
  simp only at e hv
  subst e
  simp only [fillV] at h
  cases hpl : place i with
  | none => rw [hpl] at h; cases h
  | some os =>
   obtain ⟨off, size⟩ := os
   rw [hpl] at h
   simp only at h
   split at h
   ·cases h
   ·rename_i hcond
    simp only [not_or, Nat.not_lt, gt_iff_lt, Bool.not_eq_false, Decidable.not_not] at hcond
    obtain ⟨h1, h2, h3⟩ := hcond
    have hu : v ≠ .undef := fun e => by subst e; simp [vcells, oneCell] at h3
    have hcv := hv.cells hu
    have hsz : mv.cells.size = size := by have := hcv.1; simp at this; omega
    have hcs : mcells.size = cells.length := by have := hc.1; simpa using this.symm
    have hfold := foldl_set off mv.cells.toList 0 mcells (by simp [hsz, hcs]; omega)
    have hrel : RelL ρ (cells.take off ++ vcells v ++ cells.drop (off + size)) (mv.cells.zipIdx.foldl (fun cs (c, j) => cs.setIfInBounds (off + j) c) mcells).toList := by
     have e : (mv.cells.zipIdx.foldl (fun cs (c, j) => cs.setIfInBounds (off + j) c) mcells).toList = mcells.toList.take off ++ mv.cells.toList ++ mcells.toList.drop (off + size) := by
      rw [← Array.foldl_toList, Array.toList_zipIdx]
      simpa [hsz] using hfold
     rw [e]
     exact ((hc.take off).append hcv).append (hc.drop _)
    obtain ⟨mout, hm, ho⟩ := fill_sound place parts mparts _ out _ h (by simpa using hl) (fun j p q a b => hp (j + 1) p q (by simpa using a) (by simpa using b)) hrel
    refine ⟨mout, ?_, ho⟩
    simp only [Instr.fill, hpl]
    rw [if_neg (by simp [hsz, hcs]; omega)]
    exact hm
theorem zero_sound {t : TypeId} {z : VV} (h : vzero P t = some z) : ∃ i zv, P.info? t = some i ∧ i.zero = some zv ∧ RelV ρ z zv ∧ (vcells z).all oneCell = true ∧ (vcells z).length = P.cellsOf t := by
 unfold vzero at h
 split at h
 ·rename_i z' hz
  split at h
  ·rename_i hc
   simp only [Option.some.injEq] at h; subst h
   cases hi : P.info? t with
   | none => rw [hi] at hz; cases hz
   | some i =>
    rw [hi] at hz
    simp only [Option.bind_some] at hz
    cases hzv : i.zero with
    | none => rw [hzv] at hz; cases hz
    | some zv =>
     rw [hzv] at hz
     exact ⟨i, zv, rfl, hzv, ofVal_rel ρ 3 zv z' hz, hc.1, hc.2⟩
  ·cases h
 ·cases h
theorem run_zero {t : TypeId} {i : TypeInfo} {zv : Value} (hi : P.info? t = some i) (hz : i.zero = some zv) (w : World) : (zeroValue t).run P w = .ok zv w := by
 simp [zeroValue, run_typeInfo w hi, hz]
theorem notUndef {v : VV} (h : (vcells v).all oneCell = true) : v ≠ .undef := fun e => by subst e; simp [vcells, oneCell] at h
theorem parts_rel {e : Env} {a : Act} (parts : Array (Nat × Operand)) (h : ∀ x ∈ (parts.toList.map (·.2)), RelV ρ (ev e x) (a.eval x)) :
  ∀ (i : Nat) p q, (parts.toList.map fun (i, x) => (i, ev e x))[i]? = some p → (parts.map fun (i, x) => (i, a.eval x)).toList[i]? = some q → p.1 = q.1 ∧ RelV ρ p.2 q.2 := by
 intro i p q hp hq
 simp only [Array.toList_map, List.getElem?_map, Option.map_eq_some_iff] at hp hq
 obtain ⟨x, hx, rfl⟩ := hp
 obtain ⟨y, hy, rfl⟩ := hq
 rw [hx] at hy
 simp only [Option.some.injEq] at hy; subst hy
 exact ⟨rfl, h x.2 (List.mem_map.2 ⟨x, List.mem_of_getElem? hx, rfl⟩)⟩
theorem places_some : ∀ (fs : List Field), (∀ f ∈ fs, (P.info? f.type).isSome = true) →
  fs.mapM (fun f => (P.info? f.type).map fun i => (f.offset, i.size)) = some (fs.map fun f => (f.offset, P.cellsOf f.type))
 | [], _ => rfl
 | f :: fs, h => by
  obtain ⟨i, hi⟩ := Option.isSome_iff_exists.1 (h f (by simp))
  have hc : P.cellsOf f.type = i.size := by simp [Program.cellsOf, hi]
  simp only [List.mapM_cons, hi, Option.map_some, Option.bind_eq_bind, Option.bind_some, places_some fs (fun g hg => h g (by simp [hg])), Option.pure_def, List.map_cons, hc]
theorem build_sound {t : TypeId} {parts : List (Nat × VV)} {mparts : Array (Nat × Value)} {v : VV} (h : vbuild P t parts = some v) (hl : parts.length = mparts.size)
  (hp : ∀ (i : Nat) p q, parts[i]? = some p → mparts.toList[i]? = some q → p.1 = q.1 ∧ RelV ρ p.2 q.2) : ∃ mv, (Instr.build t mparts).run P w = .ok mv w ∧ RelV ρ v mv := by
 unfold vbuild at h
 cases hz : vzero P t with
 | none => rw [hz] at h; cases h
 | some z =>
  rw [hz] at h
  simp only at h
  obtain ⟨i, zv, hi, hzv, hrz, hzc, _⟩ := zero_sound (ρ := ρ) hz
  have hcells := hrz.cells (notUndef hzc)
  split at h
  ·rename_i fs hu
   split at h
   ·rename_i hall
    simp only [Option.map_eq_some_iff] at h
    obtain ⟨out, hout, rfl⟩ := h
    obtain ⟨mout, hm, ho⟩ := fill_sound _ parts mparts.toList (vcells z) out zv.cells hout (by simpa using hl) hp hcells
    refine ⟨_, ?_, RelV.of_agg ho⟩
    have hplace : (fun (x : Nat) => ((fs.toList.map fun (f : Field) => (f.offset, P.cellsOf f.type)).toArray)[x]?) = fun (i : Nat) => (fs[i]?).map fun (f : Field) => (f.offset, P.cellsOf f.type) := by
     funext x; simp
    have hb : P.built t mparts.toList = some mout := by
     simp only [Program.built, hi, hu, hzv, places_some fs.toList (fun f hf => List.all_eq_true.1 hall f hf), hplace, hm]
    exact run_build w t mparts mout hb
   ·cases h
  ·rename_i n e hu
   split at h
   ·cases h
   ·rename_i he
    simp only [Option.map_eq_some_iff] at h
    obtain ⟨out, hout, rfl⟩ := h
    obtain ⟨ie, hie⟩ := info_of_cells he
    obtain ⟨mout, hm, ho⟩ := fill_sound _ parts mparts.toList (vcells z) out zv.cells hout (by simpa using hl) hp hcells
    refine ⟨_, ?_, RelV.of_agg ho⟩
    simp only [Instr.build, Sem.run_bind, run_zero hi hzv, Result.andThen_ok, run_underlying hu, run_sizeOf w hie, hm, Sem.run_pure]
  ·cases h
theorem field_sound {s : TypeId} {fs : Array Field} {k : Nat} {fd : Field} {b i f : Nat} {mv : Value} (hu : P.underlying s = some (.struct fs)) (hf : fs[k]? = some fd) (h0 : P.cellsOf fd.type ≠ 0)
  (hx : RelV ρ (.ptr b i f) mv) : ∃ mv', (Instr.fieldAt s mv k).run P w = .ok mv' w ∧ RelV ρ (.ptr b i (f + fd.offset)) mv' := by
 cases hx with
 | ptr _ _ _ l hb =>
  obtain ⟨inf, hinf⟩ := info_of_cells h0
  refine ⟨_, ?_, .ptr b i _ l hb⟩
  simp only [Instr.fieldAt, Sem.run_bind, run_underlying hu, Result.andThen_ok, hf, Instr.sureAddr, Sem.run_pure, fieldPlace, run_sizeOf w hinf, Sem.run_ite, h0, if_false, addrAt_add]
theorem indexAt_slice {t el : TypeId} {b i n z j : Nat} {c : Option Nat} {x : VV} {mv mx : Value} (hu : P.underlying t = some (.slice el)) (hz : P.cellsOf el = z) (hj : natOf x = some j) (hlt : j < n)
  (hv : RelV ρ (.slice b i n c z) mv) (hx : RelV ρ x mx) (h0 : z ≠ 0) : ∃ mv', (Instr.indexAt t mv mx).run P w = .ok mv' w ∧ RelV ρ (.ptr b (i + j) 0) mv' := by
 obtain ⟨k, q, rfl, hq, rfl⟩ := natOf_rel hj hx
 cases hv with
 | slice _ _ _ _ _ l a mcap hb hlz hn hm hc ho ha =>
  obtain ⟨inf, hinf⟩ := info_of_cells (P := P) (t := el) (by omega)
  have ha' : a = addrAt l i 0 := by
   rcases ha with ha | ⟨h0, _⟩
   ·exact ha
   ·omega
  refine ⟨_, ?_, .ptr b _ 0 l hb⟩
  have hcond : 0 ≤ q ∧ q < (n : Int) := ⟨hq, by omega⟩
  simp only [Instr.indexAt, asIntOf, Sem.run_bind, Sem.run_pure, run_underlying hu, Result.andThen_ok, Sem.run_ite, hcond, and_self, if_true, run_sizeOf w hinf]
  rw [ha', hz, ← hlz, addrAt_row]
theorem indexAt_array {t el : TypeId} {m b i f j : Nat} {x : VV} {mv mx : Value} (hu : P.underlying t = some (.array m el)) (hz : P.cellsOf el ≠ 0) (hj : natOf x = some j) (hlt : j < m)
  (hv : RelV ρ (.ptr b i f) mv) (hx : RelV ρ x mx) : ∃ mv', (Instr.indexAt t mv mx).run P w = .ok mv' w ∧ RelV ρ (.ptr b i (f + j * P.cellsOf el)) mv' := by
 obtain ⟨k, q, rfl, hq, rfl⟩ := natOf_rel hj hx
 cases hv with
 | ptr _ _ _ l hb =>
  obtain ⟨inf, hinf⟩ := info_of_cells hz
  refine ⟨_, ?_, .ptr b i _ l hb⟩
  have hcond : 0 ≤ q ∧ q < (m : Int) := ⟨hq, by omega⟩
  simp only [Instr.indexAt, asIntOf, Sem.run_bind, Sem.run_pure, run_underlying hu, Result.andThen_ok, Instr.sureAddr, Sem.run_ite, hcond, and_self, if_true, run_sizeOf w hinf, addrAt_add]
theorem index_array {t el : TypeId} {m j : Nat} {cs : List VV} {x v : VV} {mv mx : Value} (hu : P.underlying t = some (.array m el)) (hj : natOf x = some j) (hlt : j < m) (h : vpart P el cs (j * P.cellsOf el) = some v)
  (hv : RelV ρ (.agg cs) mv) (hx : RelV ρ x mx) : ∃ mv', (Instr.index t mv mx).run P w = .ok mv' w ∧ RelV ρ v mv' := by
 obtain ⟨k, q, rfl, hq, rfl⟩ := natOf_rel hj hx
 obtain ⟨ms, rfl, hms⟩ := hv.agg_iff
 obtain ⟨mv', hr, hrel⟩ := vpart_sound h hms w
 refine ⟨mv', ?_, hrel⟩
 have hel : ∃ inf, P.info? el = some inf := by
  unfold vpart at h
  split at h
  ·rcases fromCells_agg h with ⟨d, hd, _⟩ | ⟨d, hd, _⟩ <;> exact info_of_underlying hd
  ·cases h
 obtain ⟨inf, hinf⟩ := hel
 have hcond : 0 ≤ q ∧ q < (m : Int) := ⟨hq, by omega⟩
 simp only [Instr.index, asIntOf, Sem.run_bind, Sem.run_pure, run_underlying hu, Result.andThen_ok, Sem.run_ite, hcond, and_self, if_true, run_sizeOf w hinf, hr]
theorem index_string {t : TypeId} {j : Nat} {s : ByteArray} {u : UInt8} {x : VV} {mx : Value} (hu : P.underlying t = some .string) (hj : natOf x = some j) (h : s.data.toList[j]? = some u)
  (hx : RelV ρ x mx) : (Instr.index t (.string s) mx).run P w = .ok (.int .u8 u.toNat) w := by
 obtain ⟨k, q, rfl, hq, rfl⟩ := natOf_rel hj hx
 have hlt : q.toNat < s.size := by
  have := (List.getElem?_eq_some_iff.1 h).1
  show q.toNat < s.data.size
  rwa [Array.length_toList] at this
 have hget : s[q.toNat]? = some u := by
  rw [getElem?_pos s q.toNat hlt]
  have h2 := (List.getElem?_eq_some_iff.1 h).2
  rw [← h2]; rfl
 simp only [Instr.index, asIntOf, Sem.run_bind, Sem.run_pure, run_underlying hu, Result.andThen_ok, hq, if_true, hget]
theorem run_getMap {r : Nat} {ents : Array MapEntry} {clock : Nat} (h : w.heap[r]? = some (.map ents clock)) : (getObj r).run P w = .ok (.map ents clock) w := by
 simp only [getObj, Sem.run, h]
theorem checkKey_sound {kt : TypeId} {key : VV} {mk : Value} (h : keyOK P kt key = true) (hk : RelV ρ key mk) (b : Bool) : (Instr.checkKey b 10000 kt mk).run P w = .ok () w := by
 unfold keyOK at h
 split at h
 ·rename_i hu; cases hk; unfold Instr.checkKey; simp only [Sem.run_bind, run_underlying hu, Result.andThen_ok]; rfl
 ·rename_i hu; cases hk; unfold Instr.checkKey; simp only [Sem.run_bind, run_underlying hu, Result.andThen_ok]; rfl
 ·cases h
theorem findNow_sound {kt : TypeId} {key : VV} {mk : Value} (h : keyOK P kt key = true) (hk : RelV ρ key mk) (d : TypeDesc) (hd : P.underlying kt = some d) :
  ∀ (es : List (VV × VV)) (ents : List MapEntry) (r : Option VV) (i0 : Nat), findMap key es = some r → es.length = ents.length →
   (∀ (i : Nat) p m, es[i]? = some p → ents[i]? = some m → RelV ρ p.1 m.key ∧ RelV ρ p.2 m.val) →
   (r = none ∧ Instr.findNow d mk ents i0 = some none) ∨ ∃ i v p mv, r = some v ∧ Instr.findNow d mk ents i0 = some (some (i0 + i, mv)) ∧ RelV ρ v mv ∧ es[i]? = some p ∧ p.2 = v
 | [], ents, r, i0, hf, hl, _ => by
  have : ents = [] := List.eq_nil_of_length_eq_zero hl.symm
  subst this
  simp [findMap] at hf; subst hf
  exact .inl ⟨rfl, rfl⟩
 | (k, v) :: es, [], r, i0, hf, hl, _ => by simp at hl
 | (k, v) :: es, m :: ents, r, i0, hf, hl, hrel => by
  obtain ⟨hkm, hvm⟩ := hrel 0 _ _ rfl rfl
  simp only at hkm hvm
  have ih := findNow_sound h hk d hd es ents r (i0 + 1)
  have step : (∀ b, Instr.sameNow d mk m.key = some b → findMap key ((k, v) :: es) = (if b then some (some v) else findMap key es)) → (∃ b, Instr.sameNow d mk m.key = some b) →
    (r = none ∧ Instr.findNow d mk (m :: ents) i0 = some none) ∨ ∃ i v' p mv, r = some v' ∧ Instr.findNow d mk (m :: ents) i0 = some (some (i0 + i, mv)) ∧ RelV ρ v' mv ∧ ((k, v) :: es)[i]? = some p ∧ p.2 = v' := by
   intro h1 ⟨b, hb⟩
   have h2 := h1 b hb
   rw [h2] at hf
   cases b with
   | true =>
    simp only [if_true, Option.some.injEq] at hf; subst hf
    exact .inr ⟨0, v, (k, v), m.val, rfl, by simp [Instr.findNow, hb], hvm, rfl, rfl⟩
   | false =>
    simp only [Bool.false_eq_true, if_false] at hf
    rcases ih hf (by simpa using hl) (fun i p q a b => hrel (i + 1) p q (by simpa using a) (by simpa using b)) with ⟨h3, h4⟩ | ⟨i, v', p, mv, h3, h4, h5, h6, h7⟩
    ·exact .inl ⟨h3, by simp [Instr.findNow, hb, h4]⟩
    ·exact .inr ⟨i + 1, v', p, mv, h3, by simp [Instr.findNow, hb, h4]; omega, h5, by simpa using h6, h7⟩
  unfold keyOK at h
  rw [hd] at h
  split at h
  ·rename_i k' kk n hkt
   simp only [Option.some.injEq] at hkt; subst hkt
   cases hk
   cases k <;> first | (simp only [findMap] at hf; cases hf; done) | skip
   rename_i kb y
   have hk2 : m.key = .int kb y := by generalize m.key = q at hkm; cases hkm; rfl
   by_cases hkk : kk = kb
   ·subst hkk
    refine step (fun c hc => ?_) ⟨n == y, by rw [hk2]; simp [Instr.sameNow]⟩
    rw [hk2] at hc
    simp only [Instr.sameNow, if_true, Option.some.injEq] at hc; subst hc
    simp only [findMap, if_true]
    by_cases e2 : n = y <;> simp [e2]
   ·simp only [findMap, hkk, if_false] at hf
    cases hf
  ·rename_i s hkt
   simp only [Option.some.injEq] at hkt; subst hkt
   cases hk
   cases k <;> first | (simp only [findMap] at hf; cases hf; done) | skip
   rename_i y
   have hk2 : m.key = .string y := by generalize m.key = q at hkm; cases hkm; rfl
   refine step (fun c hc => ?_) ⟨s == y, by rw [hk2]; simp [Instr.sameNow]⟩
   rw [hk2] at hc
   simp only [Instr.sameNow, Option.some.injEq] at hc; subst hc
   simp only [findMap, beq_toListBytes]
   by_cases e2 : s.toList = y.toList <;> simp [e2]
  ·cases h
end
end Go.Proofs.Ythlbahcggmbfaaa.V

namespace Go.Proofs.Ythlbahcggmbfaaa.V
open Go.RowKit
section
variable {P : Program} {ρ : Ren} (w : World)
theorem bytes_sound : ∀ (es : List (List VV)) (l : List UInt8) (ms : List Value), bytesOfCells es = some l → RelL ρ es.flatten ms →
  ∃ ns : List Int, ms = ns.map (fun n => Value.int .u8 n) ∧ l = ns.map fun n => UInt8.ofNat n.toNat
 | [], l, ms, h, hr => by
  simp [bytesOfCells] at h; subst h
  exact ⟨[], by simpa using hr.of_nil, rfl⟩
 | [] :: es, l, ms, h, _ => by simp [bytesOfCells] at h
 | (c :: d :: r) :: es, l, ms, h, _ => by cases c <;> (try (rename_i k n; cases k)) <;> simp [bytesOfCells] at h
 | [c] :: es, l, ms, h, hr => by
  cases c <;> (try (simp [bytesOfCells] at h; done))
  rename_i k n
  cases k <;> (try (simp [bytesOfCells] at h; done))
  simp only [bytesOfCells, Option.map_eq_some_iff] at h
  obtain ⟨l', hl', rfl⟩ := h
  simp only [List.flatten_cons, List.singleton_append] at hr
  obtain ⟨v', x', rfl, hv, hx⟩ := hr.of_cons
  cases hv
  obtain ⟨ns, h1, h2⟩ := bytes_sound es l' x' hl' hx
  exact ⟨n :: ns, by simp [h1], by simp [h2]⟩
theorem elems_slice {z : Nat} {h : VHeap} {g : Nat → Option VObj} {b i n z' : Nat} {c : Option Nat} {es : List (List VV)} {mv : Value} (he : elemsOf z h (.slice b i n c z') = some es)
  (hv : RelV ρ (.slice b i n c z') mv) (hR : Rel ρ g w) (hgh : ∀ b ob, ρ b ≠ none → h.get b = some ob → g b = some ob) :
  ∃ a mcap ms, mv = .slice (some a) n mcap ∧ RelL ρ es.flatten ms ∧ ms.length = n * z ∧ es.length = n ∧ (∀ cs ∈ es, cs.length = z ∧ cs.all oneCell = true) ∧
   ∀ (j : Nat) v, ms[j]? = some v → w.cell? (a.add j) = some v := by
 unfold elemsOf at he
 cases hv with
 | slice _ _ _ _ _ l a mcap hb hlz hn hm hc ho ha =>
 simp only at he
 split at he
 ·rename_i k hg
  split at he
  ·rename_i hcond
   obtain ⟨hz, hlen⟩ := hcond
   subst hz
   simp only [Option.some.injEq] at he; subst he
   obtain ⟨o, ho', hro⟩ := hR.obj b l hb
   rw [hgh b _ (by rw [hb]; simp) hg] at ho'
   simp only [Option.some.injEq] at ho'; subst ho'
   generalize hw : w.heap[l.mb]? = mo at hro
   cases hro with
   | cells k mc t fr hr0 hs he h0 hin hfr hcl =>
   have hel : ∀ (j : Nat) cs, ((k.es.drop i).take n)[j]? = some cs → cs.length = z' ∧ cs.all oneCell = true ∧ ∀ (q : Nat) v, cs[q]? = some v → ∃ mv, mc[l.coff + (i + j) * l.esz + q]? = some mv ∧ RelV ρ v mv := by
    intro j cs hj
    rw [List.getElem?_take] at hj
    split at hj
    ·rw [List.getElem?_drop] at hj
     obtain ⟨a1, a2, a3⟩ := hcl _ cs hj
     exact ⟨a1.trans hlz, a2, a3⟩
    ·cases hj
   have hn' : ((k.es.drop i).take n).length = n := by simp; omega
   
   have flat : ∀ (L : List (List VV)) (j0 : Nat), (∀ (j : Nat) cs, L[j]? = some cs → cs.length = z' ∧ ∀ (q : Nat) v, cs[q]? = some v → ∃ mv, mc[l.coff + (i + (j0 + j)) * l.esz + q]? = some mv ∧ RelV ρ v mv) →
     ∃ ms : List Value, RelL ρ L.flatten ms ∧ ms.length = L.length * z' ∧ ∀ (q : Nat) v, ms[q]? = some v → mc[l.coff + (i + j0) * l.esz + q]? = some v := by
    intro L
    induction L with
    | nil => intro j0 _; exact ⟨[], RelL.nil ρ, by simp, by simp⟩
    | cons cs L ih =>
     intro j0 hL
     obtain ⟨ms, h1, h2, h3⟩ := ih (j0 + 1) (fun j cs' hj => by
      have := hL (j + 1) cs' (by simpa using hj)
      rwa [show j0 + (j + 1) = j0 + 1 + j by omega] at this)
     obtain ⟨hl0, hc0⟩ := hL 0 cs rfl
     have hhead : ∃ hs : List Value, RelL ρ cs hs ∧ ∀ (q : Nat) v, hs[q]? = some v → mc[l.coff + (i + j0) * l.esz + q]? = some v := by
      refine ⟨(List.range cs.length).map fun q => (mc[l.coff + (i + j0) * l.esz + q]?).getD undef, ⟨by simp, ?_⟩, ?_⟩
      ·intro q v v' hv hv'
       obtain ⟨mv, e1, e2⟩ := hc0 q v hv
       have hq : q < cs.length := (List.getElem?_eq_some_iff.1 hv).1
       rw [Nat.add_zero] at e1
       simp [hq, e1] at hv'
       subst hv'; exact e2
      ·intro q v hv
       have hq : q < cs.length := by have := (List.getElem?_eq_some_iff.1 hv).1; simpa using this
       obtain ⟨mv, e1, e2⟩ := hc0 q _ (List.getElem?_eq_getElem hq)
       rw [Nat.add_zero] at e1
       simp [hq, e1] at hv
       subst hv; exact e1
     obtain ⟨hs, k1, k2⟩ := hhead
     have hlen2 : hs.length = z' := k1.1.symm.trans hl0
     refine ⟨hs ++ ms, by simpa using k1.append h1, by simp [hlen2, h2, Nat.add_mul, Nat.add_comm], ?_⟩
     intro q v hv
     by_cases hq : q < hs.length
     ·rw [List.getElem?_append_left hq] at hv; exact k2 q v hv
     ·rw [List.getElem?_append_right (by omega)] at hv
      have := h3 _ v hv
      rw [← this]
      congr 1
      rw [hlen2]
      have e : (i + (j0 + 1)) * l.esz = (i + j0) * l.esz + z' := by rw [show i + (j0 + 1) = (i + j0) + 1 by omega, Nat.add_mul, Nat.one_mul, hlz]
      omega
   obtain ⟨ms, h1, h2, h3⟩ := flat _ 0 (fun j cs hj => by
    obtain ⟨a1, _, a3⟩ := hel j cs hj
    exact ⟨a1, by simpa using a3⟩)
   refine ⟨a, mcap, ms, rfl, h1, by rw [h2, hn'], hn', fun cs hcs => ?_, fun j v hj => ?_⟩
   ·obtain ⟨j, hj⟩ := List.getElem?_of_mem hcs
    obtain ⟨a1, a2, _⟩ := hel j cs hj
    exact ⟨a1, a2⟩
   ·have hlt : j < ms.length := (List.getElem?_eq_some_iff.1 hj).1
    have ha' : a = addrAt l i 0 := by
     rcases ha with ha | ⟨h0', _⟩
     ·exact ha
     ·rw [h2, hn', h0'] at hlt; simp at hlt
    have := h3 j v hj
    rw [ha', addrAt_add]
    unfold addrAt
    rw [cell_of_row w l.mb _ mc t fr hw]
    rw [← this]
    simp
  ·cases he
 ·cases he
theorem mapAt_sound {h : VHeap} {g : Nat → Option VObj} {m : VV} {mm : Value} {es : List (VV × VV)} (hm : mapAt h m = some es) (hr : RelV ρ m mm) (hR : Rel ρ g w)
  (hgh : ∀ b ob, ρ b ≠ none → h.get b = some ob → g b = some ob) :
  (m = .nilmap ∧ mm = .map none ∧ es = []) ∨ ∃ b l ents clock, m = .map b ∧ ρ b = some l ∧ mm = .map (some l.mb) ∧ w.heap[l.mb]? = some (.map ents clock) ∧ es.length = ents.size ∧
   ∀ (i : Nat) p q, es[i]? = some p → ents[i]? = some q → RelV ρ p.1 q.key ∧ RelV ρ p.2 q.val := by
 unfold mapAt at hm
 split at hm
 ·cases hr; simp only [Option.some.injEq] at hm; exact .inl ⟨rfl, rfl, hm.symm⟩
 ·rename_i b
  split at hm
  ·rename_i es' hg
   simp only [Option.some.injEq] at hm; subst hm
   cases hr with
   | map _ l hb =>
    obtain ⟨o, ho, hro⟩ := hR.obj b l hb
    rw [hgh b _ (by rw [hb]; simp) hg] at ho
    simp only [Option.some.injEq] at ho; subst ho
    generalize hw : w.heap[l.mb]? = mo at hro
    cases hro with
    | map es ents clock hl _ hrel => exact .inr ⟨b, l, ents, clock, rfl, hb, rfl, hw, hl, hrel⟩
  ·cases hm
 ·cases hm
theorem lookup_sound {h : VHeap} {g : Nat → Option VObj} {t : TypeId} {m key v : VV} {ok : Bool} {mm mk : Value} (hv : vlookup P t m key ok h = some v) (hm : RelV ρ m mm) (hk : RelV ρ key mk) (hR : Rel ρ g w)
  (hgh : ∀ b ob, ρ b ≠ none → h.get b = some ob → g b = some ob) : ∃ mv, (Instr.lookup t mm mk ok).run P w = .ok mv w ∧ RelV ρ v mv := by
 unfold vlookup at hv
 split at hv
 ·rename_i kt et hu
  split at hv
  ·rename_i hkey
   cases hma : mapAt h m with
   | none => rw [hma] at hv; cases hv
   | some es =>
    rw [hma] at hv
    simp only [Option.bind_some] at hv
    cases hf : findMap key es with
    | none => rw [hf] at hv; cases hv
    | some r =>
     rw [hf] at hv
     simp only at hv
     cases hz : vzero P et with
     | none => rw [hz] at hv; cases hv
     | some z =>
      rw [hz] at hv
      simp only [Option.some.injEq] at hv
      obtain ⟨inf, zv, hi, hzv, hrz, _, _⟩ := zero_sound (ρ := ρ) hz
      obtain ⟨kd, hkd⟩ : ∃ d, P.underlying kt = some d := by
       unfold keyOK at hkey
       split at hkey
       ·exact ⟨_, ‹_›⟩
       ·exact ⟨_, ‹_›⟩
       ·cases hkey
      have fin : ∀ ents : Array MapEntry, (Instr.findNow kd mk ents.toList 0 = some none ∧ r = none ∨ ∃ i u mv, Instr.findNow kd mk ents.toList 0 = some (some (i, mv)) ∧ r = some u ∧ RelV ρ u mv) →
        (mm = .map none ∧ ents = #[] ∨ ∃ b clock, mm = .map (some b) ∧ w.heap[b]? = some (.map ents clock)) → ∃ mv, (Instr.lookup t mm mk ok).run P w = .ok mv w ∧ RelV ρ v mv := by
       intro ents hfind hmap
       rcases hfind with ⟨hfn, rfl⟩ | ⟨i, u, mv, hfn, rfl, hu'⟩
       ·refine ⟨if ok then .tuple #[zv, .bool false] else zv, ?_, ?_⟩
        ·rcases hmap with ⟨rfl, rfl⟩ | ⟨b, clock, rfl, hb⟩
         ·simp only [Instr.lookup, Sem.run_bind, run_underlying hu, Result.andThen_ok, Sem.run_pure, checkKey_sound w hkey hk, Instr.findKey, run_underlying hkd, hfn, run_zero hi hzv]
         ·simp only [Instr.lookup, Sem.run_bind, run_underlying hu, Result.andThen_ok, run_getMap w hb, Sem.run_pure, checkKey_sound w hkey hk, Instr.findKey, run_underlying hkd, hfn, run_zero hi hzv]
        ·subst hv
         cases ok with
         | true => exact RelV.of_tuple (RelL.cons hrz (RelL.cons (.bool false) (RelL.nil ρ)))
         | false => exact hrz
       ·refine ⟨if ok then .tuple #[mv, .bool true] else mv, ?_, ?_⟩
        ·rcases hmap with ⟨rfl, rfl⟩ | ⟨b, clock, rfl, hb⟩
         ·simp only [Instr.lookup, Sem.run_bind, run_underlying hu, Result.andThen_ok, Sem.run_pure, checkKey_sound w hkey hk, Instr.findKey, run_underlying hkd, hfn]
         ·simp only [Instr.lookup, Sem.run_bind, run_underlying hu, Result.andThen_ok, run_getMap w hb, Sem.run_pure, checkKey_sound w hkey hk, Instr.findKey, run_underlying hkd, hfn]
        ·subst hv
         cases ok with
         | true => exact RelV.of_tuple (RelL.cons hu' (RelL.cons (.bool true) (RelL.nil ρ)))
         | false => exact hu'
      rcases mapAt_sound w hma hm hR hgh with ⟨_, rfl, rfl⟩ | ⟨b, l, ents, clock, _, hb, rfl, hw, hl, hrel⟩
      ·simp [findMap] at hf; subst hf
       exact fin #[] (.inl ⟨by simp [Instr.findNow], rfl⟩) (.inl ⟨rfl, rfl⟩)
      ·refine fin ents ?_ (.inr ⟨l.mb, clock, rfl, hw⟩)
       rcases findNow_sound hkey hk kd hkd es ents.toList r 0 hf (by simpa using hl) (fun i p q a b => hrel i p q a (by simpa using b)) with ⟨h1, h2⟩ | ⟨i, u, p, mv, h1, h2, h3, _, _⟩
       ·exact .inl ⟨h2, h1⟩
       ·exact .inr ⟨0 + i, u, mv, h2, h1, h3⟩
  ·cases hv
 ·cases hv
end
end Go.Proofs.Ythlbahcggmbfaaa.V

namespace Go.Proofs.Ythlbahcggmbfaaa.V
open Go.RowKit
section
variable {P : Program} {ρ : Ren} (w : World)
theorem foldl_push (ns : List Int) : ∀ s : ByteArray, ns.foldl (fun r n => r.push (UInt8.ofNat n.toNat)) s = ⟨(s.data.toList ++ ns.map fun n => UInt8.ofNat n.toNat).toArray⟩ := by
 induction ns with
 | nil => intro s; simp
 | cons n ns ih =>
  intro s
  rw [List.foldl_cons, ih]
  simp [ByteArray.push]
theorem convRead_sound {h : VHeap} {g : Nat → Option VObj} {src dst : TypeId} {x v : VV} {mx : Value} (hv : vconvRead P src dst x h = some v) (hx : RelV ρ x mx) (hR : Rel ρ g w)
  (hgh : ∀ b ob, ρ b ≠ none → h.get b = some ob → g b = some ob) : ∃ mv, (convert src dst mx).run P w = .ok mv w ∧ RelV ρ v mv := by
 unfold vconvRead at hv
 split at hv
 ·rename_i e hs hd
  split at hv
  ·rename_i he
   cases hx
   simp only [Option.some.injEq] at hv; subst hv
   refine ⟨_, ?_, .str _⟩
   rw [run_convert_bytes_string w src dst e _ _ _ hs he hd]
   simp [Conv.bytesToString]
  ·rename_i b i n c z he
   cases hes : elemsOf 1 h (.slice b i n c z) with
   | none => rw [hes] at hv; cases hv
   | some es =>
    rw [hes] at hv
    simp only [Option.bind_some, Option.map_eq_some_iff] at hv
    obtain ⟨l, hl, rfl⟩ := hv
    obtain ⟨a, mcap, ms, rfl, hrel, hlen, _, _, hcell⟩ := elems_slice w hes hx hR hgh
    obtain ⟨ns, rfl, rfl⟩ := bytes_sound es l ms hl hrel
    refine ⟨_, ?_, .str _⟩
    rw [run_convert_bytes_string w src dst e _ _ _ hs he hd]
    have hload := run_loadCells_list (P := P) w a _ hcell
    rw [hlen, Nat.mul_one] at hload
    rw [run_bytesToString w a n mcap ns hload, foldl_push]
    simp
  ·cases hv
 ·cases hv
theorem quiet_sound {o : Oper} {e : Env} {h h' : VHeap} {g : Nat → Option VObj} {call : Caller} {v : VV} (hk : kindOf P o = .pure ∨ kindOf P o = .read) (hop : vop P call o e h = some (v, h')) (a : Act)
  (ho : ∀ x ∈ o.op.operands, RelV ρ (ev e x) (a.eval x)) (hR : Rel ρ g w) (hgh : kindOf P o = .read → ∀ b ob, ρ b ≠ none → h.get b = some ob → g b = some ob) :
  h' = h ∧ ∃ mv, (execOp a.eval o).run P w = .ok (.value mv) w ∧ RelV ρ v mv := by
 have pureV : ∀ {x : Option VV}, x.map (fun v => (v, h)) = some (v, h') → h' = h ∧ x = some v := by
  intro x hx
  simp only [Option.map_eq_some_iff, Prod.mk.injEq] at hx
  obtain ⟨u, hu, rfl, rfl⟩ := hx
  exact ⟨rfl, hu⟩
 have lift : ∀ {s : Sem Value}, (∃ mv, s.run P w = .ok mv w ∧ RelV ρ v mv) → ∃ mv, ((do pure (.value (← s)) : Sem Next)).run P w = .ok (.value mv) w ∧ RelV ρ v mv := by
  rintro s ⟨mv, h1, h2⟩
  exact ⟨mv, by simp only [Sem.run_bind, h1, Result.andThen_ok, Sem.run_pure], h2⟩
 obtain ⟨dst, op, type, pos, after, guard⟩ := o
 cases op <;> simp only [vop, kindOf] at hop hk <;> (try (rcases hk with hk | hk <;> cases hk; done)) <;> (try (cases hop; done)) <;> simp only [Op.operands] at ho <;> simp only [execOp]
 case move x =>
  simp only [Option.some.injEq, Prod.mk.injEq] at hop
  obtain ⟨rfl, rfl⟩ := hop
  exact ⟨rfl, _, rfl, ho x (by simp)⟩
 case assign x =>
  simp only [Option.some.injEq, Prod.mk.injEq] at hop
  obtain ⟨rfl, rfl⟩ := hop
  exact ⟨rfl, _, rfl, ho x (by simp)⟩
 case pick c x y =>
  have hc := ho c (by simp)
  split at hop
  ·rename_i e1
   rw [e1] at hc
   generalize a.eval c = mc at hc
   cases hc
   simp only [Option.some.injEq, Prod.mk.injEq] at hop
   obtain ⟨rfl, rfl⟩ := hop
   exact ⟨rfl, _, by simp [asBool], ho x (by simp)⟩
  ·rename_i e1
   rw [e1] at hc
   generalize a.eval c = mc at hc
   cases hc
   simp only [Option.some.injEq, Prod.mk.injEq] at hop
   obtain ⟨rfl, rfl⟩ := hop
   exact ⟨rfl, _, by simp [asBool], ho y (by simp)⟩
  ·cases hop
 case build t parts =>
  obtain ⟨rfl, hv⟩ := pureV hop
  refine ⟨rfl, lift (build_sound w hv (by simp) (parts_rel parts ?_))⟩
  intro x hx
  exact ho x (by simpa using hx)
 case load t x =>
  obtain ⟨rfl, hv⟩ := pureV hop
  exact ⟨rfl, lift (vload_sound hv (ho x (by simp)) hR (hgh rfl))⟩
 case nilCheck x =>
  have hx := ho x (by simp)
  split at hop
  ·rename_i e1
   rw [e1] at hx
   generalize a.eval x = mx at hx
   simp only [Option.some.injEq, Prod.mk.injEq] at hop
   obtain ⟨rfl, rfl⟩ := hop
   refine ⟨rfl, mx, ?_, hx⟩
   cases hx; rfl
  ·rename_i e1
   rw [e1] at hx
   generalize a.eval x = mx at hx
   simp only [Option.some.injEq, Prod.mk.injEq] at hop
   obtain ⟨rfl, rfl⟩ := hop
   refine ⟨rfl, mx, ?_, hx⟩
   cases hx; rfl
  ·rename_i e1
   rw [e1] at hx
   generalize a.eval x = mx at hx
   simp only [Option.some.injEq, Prod.mk.injEq] at hop
   obtain ⟨rfl, rfl⟩ := hop
   refine ⟨rfl, mx, ?_, hx⟩
   cases hx; rfl
  ·cases hop
 case binOp op t x y u =>
  obtain ⟨rfl, hv⟩ := pureV hop
  exact ⟨rfl, lift (vbin_sound w hv (ho x (by simp)) (ho y (by simp)))⟩
 case unOp op t x =>
  obtain ⟨rfl, hv⟩ := pureV hop
  exact ⟨rfl, lift (vun_sound w hv (ho x (by simp)))⟩
 case convert src dst x =>
  split at hop
  ·obtain ⟨rfl, hv⟩ := pureV hop
   rename_i e1 e2
   exact ⟨rfl, lift (convRead_sound w hv (ho x (by simp)) hR (hgh (by simp only [kindOf, e1, e2])))⟩
  ·rename_i e1 e2
   simp only [e1, e2] at hk
   rcases hk with hk | hk <;> cases hk
  ·obtain ⟨rfl, hv⟩ := pureV hop
   exact ⟨rfl, lift (vconv_sound w hv (ho x (by simp)))⟩
 case makeInterface t x =>
  split at hop
  ·cases hop
  ·rename_i d hn hu
   simp only [Option.some.injEq, Prod.mk.injEq] at hop
   obtain ⟨rfl, rfl⟩ := hop
   refine ⟨rfl, lift ⟨.iface t (a.eval x), ?_, .iface t _ _ (ho x (by simp))⟩⟩
   simp only [Instr.makeInterface, Sem.run_bind, run_underlying hu, Result.andThen_ok]
   cases d <;> first | rfl | exact absurd rfl (hn _)
  ·cases hop
 case makeFunc fn first caps =>
  simp only [Option.some.injEq, Prod.mk.injEq] at hop
  obtain ⟨rfl, rfl⟩ := hop
  refine ⟨rfl, lift ⟨_, rfl, ?_⟩⟩
  have rel : ∀ xs : Array Operand, (∀ x ∈ xs, RelV ρ (ev e x) (a.eval x)) → RelL ρ (argsOf e xs) (xs.map a.eval).toList := by
   intro xs hxs
   refine ⟨by simp [argsOf], fun i u mu hu hmu => ?_⟩
   simp only [argsOf, List.getElem?_map, Option.map_eq_some_iff, Array.toList_map] at hu hmu
   obtain ⟨x, hx, rfl⟩ := hu
   obtain ⟨y, hy, rfl⟩ := hmu
   rw [hx] at hy; simp only [Option.some.injEq] at hy; subst hy
   exact hxs x (by simpa using List.mem_of_getElem? hx)
  have r1 := rel first (fun x hx => ho x (by simp [hx]))
  have r2 := rel caps (fun x hx => ho x (by simp [hx]))
  exact .func fn _ _ _ _ (by simpa using r1.1) (by simpa using r2.1) (fun i u mu hu hmu => r1.2 i u mu hu (by simpa using hmu)) (fun i u mu hu hmu => r2.2 i u mu hu (by simpa using hmu))
 case slice t x lo hi mx =>
  have hx := ho x (by simp)
  have r1 : RelOpt ρ (lo.map (ev e)) (lo.map a.eval) := RelOpt.map lo (fun o h => ho o (by simp [h]))
  have r2 : RelOpt ρ (hi.map (ev e)) (hi.map a.eval) := RelOpt.map hi (fun o h => ho o (by simp [h]))
  have r3 : RelOpt ρ (mx.map (ev e)) (mx.map a.eval) := RelOpt.map mx (fun o h => ho o (by simp [h]))
  split at hop
  ·rename_i hu e1
   rw [e1] at hx
   generalize a.eval x = mv at hx
   obtain ⟨rfl, hv⟩ := pureV hop
   cases hx
   exact ⟨rfl, lift (vslice_str w hv hu r1 r2 r3)⟩
  ·rename_i hu e1
   rw [e1] at hx
   split at hop
   ·cases hop
   ·rename_i he
    obtain ⟨rfl, hv⟩ := pureV hop
    exact ⟨rfl, lift (vslice_row w hv hu he rfl hx r1 r2 r3)⟩
  ·rename_i hu e1
   rw [e1] at hx
   generalize a.eval x = mv at hx
   split at hop
   ·cases hop
   ·rename_i he
    obtain ⟨rfl, hv⟩ := pureV hop
    cases hx
    exact ⟨rfl, lift (vslice_nil w hv hu he r1 r2 r3)⟩
  ·cases hop
 case fieldAddr s x f =>
  have hx := ho x (by simp)
  split at hop
  ·rename_i fs b i f0 hu e1
   rw [e1] at hx
   split at hop
   ·rename_i fd hf
    split at hop
    ·cases hop
    ·rename_i h0
     simp only [Option.some.injEq, Prod.mk.injEq] at hop
     obtain ⟨rfl, rfl⟩ := hop
     exact ⟨rfl, lift (field_sound w hu hf h0 hx)⟩
   ·cases hop
  ·cases hop
 case field t x f =>
  have hx := ho x (by simp)
  split at hop
  ·rename_i fs cs hu e1
   rw [e1] at hx
   split at hop
   ·rename_i fd hf
    obtain ⟨rfl, hv⟩ := pureV hop
    obtain ⟨ms, e2, hms⟩ := hx.agg_iff
    obtain ⟨mv, hr, hrel⟩ := vpart_sound hv hms w
    refine ⟨rfl, lift ⟨mv, ?_, hrel⟩⟩
    simp only [Instr.field, Sem.run_bind, run_underlying hu, Result.andThen_ok, hf, e2, asAgg, Sem.run_pure, hr]
   ·cases hop
  ·cases hop
 case indexAddr t x ix =>
  have hx := ho x (by simp)
  have hi := ho ix (by simp)
  split at hop
  ·rename_i hu e1 hj
   rw [e1] at hx
   split at hop
   ·rename_i hc
    simp only [Option.some.injEq, Prod.mk.injEq] at hop
    obtain ⟨rfl, rfl⟩ := hop
    exact ⟨rfl, lift (indexAt_slice w hu hc.2.1 hj hc.1 hx hi hc.2.2)⟩
   ·cases hop
  ·rename_i hu e1 hj
   rw [e1] at hx
   split at hop
   ·rename_i hc
    simp only [Option.some.injEq, Prod.mk.injEq] at hop
    obtain ⟨rfl, rfl⟩ := hop
    exact ⟨rfl, lift (indexAt_array w hu hc.2 hj hc.1 hx hi)⟩
   ·cases hop
  ·cases hop
 case index t x ix =>
  have hx := ho x (by simp)
  have hi := ho ix (by simp)
  split at hop
  ·rename_i hu e1 hj
   rw [e1] at hx
   split at hop
   ·rename_i hc
    obtain ⟨rfl, hv⟩ := pureV hop
    exact ⟨rfl, lift (index_array w hu hj hc hv hx hi)⟩
   ·cases hop
  ·rename_i hu e1 hj
   rw [e1] at hx
   generalize a.eval x = mv at hx
   split at hop
   ·rename_i u hs
    simp only [Option.some.injEq, Prod.mk.injEq] at hop
    obtain ⟨rfl, rfl⟩ := hop
    cases hx
    exact ⟨rfl, lift ⟨_, index_string w hu hj hs hi, .int _ _⟩⟩
   ·cases hop
  ·cases hop
 case lookup t m k ok =>
  obtain ⟨rfl, hv⟩ := pureV hop
  exact ⟨rfl, lift (lookup_sound w hv (ho m (by simp)) (ho k (by simp)) hR (hgh rfl))⟩
 case typeAssert x xt t ok =>
  have hx := ho x (by simp)
  split at hop
  ·cases hop
  ·rename_i d t' u hn hu e1
   rw [e1] at hx
   generalize a.eval x = mx at hx
   cases hx with
   | iface _ _ mu hmu =>
   split at hop
   ·rename_i he
    subst he
    simp only [Option.some.injEq, Prod.mk.injEq] at hop
    obtain ⟨rfl, rfl⟩ := hop
    refine ⟨rfl, lift ⟨if ok then .tuple #[mu, .bool true] else mu, ?_, ?_⟩⟩
    ·simp only [Instr.typeAssert, Sem.run_bind, run_underlying hu, Result.andThen_ok]
     cases d <;> first | (exact absurd rfl (hn _)) | simp
    ·cases ok with
     | true => exact RelV.of_tuple (RelL.cons hmu (RelL.cons (.bool true) (RelL.nil ρ)))
     | false => exact hmu
   ·rename_i he
    split at hop
    ·rename_i hok
     subst hok
     simp only [Option.map_eq_some_iff, Prod.mk.injEq] at hop
     obtain ⟨z, hz, rfl, rfl⟩ := hop
     obtain ⟨inf, zv, hi, hzv, hrz, _, _⟩ := zero_sound (ρ := ρ) hz
     refine ⟨rfl, lift ⟨.tuple #[zv, .bool false], ?_, RelV.of_tuple (RelL.cons hrz (RelL.cons (.bool false) (RelL.nil ρ)))⟩⟩
     simp only [Instr.typeAssert, Sem.run_bind, run_underlying hu, Result.andThen_ok]
     cases d <;> first | (exact absurd rfl (hn _)) | simp [he, run_zero hi hzv]
    ·cases hop
  ·rename_i d hn hu e1
   rw [e1] at hx
   generalize a.eval x = mx at hx
   cases hx
   split at hop
   ·rename_i hok
    subst hok
    simp only [Option.map_eq_some_iff, Prod.mk.injEq] at hop
    obtain ⟨z, hz, rfl, rfl⟩ := hop
    obtain ⟨inf, zv, hi, hzv, hrz, _, _⟩ := zero_sound (ρ := ρ) hz
    refine ⟨rfl, lift ⟨.tuple #[zv, .bool false], ?_, RelV.of_tuple (RelL.cons hrz (RelL.cons (.bool false) (RelL.nil ρ)))⟩⟩
    simp only [Instr.typeAssert, Sem.run_bind, run_underlying hu, Result.andThen_ok]
    cases d <;> first | (exact absurd rfl (hn _)) | simp [run_zero hi hzv]
   ·cases hop
  ·cases hop
 case extract x i =>
  have hx := ho x (by simp)
  split at hop
  ·rename_i vs e1
   rw [e1] at hx
   split at hop
   ·rename_i u hu
    simp only [Option.some.injEq, Prod.mk.injEq] at hop
    obtain ⟨rfl, rfl⟩ := hop
    by_cases hnil : vs = []
    ·subst hnil; simp at hu
    ·obtain ⟨ms, e2, hms⟩ := hx.tuple_iff
     obtain ⟨mu, hmu, hrel⟩ := hms.at hu
     refine ⟨rfl, lift ⟨mu, ?_, hrel⟩⟩
     have : ms[i]? = some mu := by simpa using hmu
     simp only [Instr.extract, e2, this, Sem.run_pure]
   ·cases hop
  ·cases hop
 case call c =>
  obtain ⟨callee, args, argTypes⟩ := c
  have hargs : RelL ρ (argsOf e args) (args.map a.eval).toList := by
   refine ⟨by simp [argsOf], fun i u mu hu hmu => ?_⟩
   simp only [argsOf, List.getElem?_map, Option.map_eq_some_iff, Array.toList_map] at hu hmu
   obtain ⟨x, hx, rfl⟩ := hu
   obtain ⟨y, hy, rfl⟩ := hmu
   rw [hx] at hy; simp only [Option.some.injEq] at hy; subst hy
   exact ho x (by simp [Call.operands]; right; simpa using List.mem_of_getElem? hx)
  cases callee with
  | value f => rcases hk with hk | hk <;> cases hk
  | invoke r m => rcases hk with hk | hk <;> cases hk
  | builtin b =>
   have hex : (do let d ← resolve a.eval { callee := .builtin b, args, argTypes } type; invoke d.target d.args : Sem Next) =
     builtin b argTypes type (args.map fun | .const _ => true | _ => false) (args.map a.eval) := rfl
   rw [hex]
   cases b <;> (try (rcases hk with hk | hk <;> cases hk; done)) <;> simp only [vcall] at hop
   case len =>
    simp only [builtin]
    generalize argsOf e args = L at hop hargs
    rcases L with _ | ⟨x, _ | ⟨y, L⟩⟩ <;> (try dsimp only at hop) <;> (try (cases hop; done))
    obtain ⟨mx, rest, hms, hx, hnil⟩ := hargs.of_cons
    have hrest := hnil.of_nil
    subst hrest
    have hms' : args.map a.eval = #[mx] := by
     apply Array.ext'; simpa using hms
    rw [hms']
    split at hop
    ·rename_i ht
     simp only [Option.some.injEq, Prod.mk.injEq] at hop
     obtain ⟨rfl, rfl⟩ := hop
     cases hx
     obtain ⟨t, ht1, ht2⟩ := Option.bind_eq_some_iff.1 ht
     refine ⟨rfl, lift ⟨_, ?_, .int _ _⟩⟩
     simp [Builtin.len_, ht1, run_underlying ht2, goInt]
    ·rename_i ht
     simp only [Option.some.injEq, Prod.mk.injEq] at hop
     obtain ⟨rfl, rfl⟩ := hop
     cases hx
     obtain ⟨t, ht1, ht2⟩ := Option.bind_eq_some_iff.1 ht
     refine ⟨rfl, lift ⟨_, ?_, .int _ _⟩⟩
     simp [Builtin.len_, ht1, run_underlying ht2, goInt]
    ·rename_i ht
     simp only [Option.some.injEq, Prod.mk.injEq] at hop
     obtain ⟨rfl, rfl⟩ := hop
     cases hx
     obtain ⟨t, ht1, ht2⟩ := Option.bind_eq_some_iff.1 ht
     refine ⟨rfl, lift ⟨_, ?_, .int _ _⟩⟩
     simp [Builtin.len_, ht1, run_underlying ht2, goInt]
    ·rename_i ht
     simp only [Option.map_eq_some_iff, Prod.mk.injEq] at hop
     obtain ⟨es, hes, rfl, rfl⟩ := hop
     obtain ⟨t, ht1, ht2⟩ := Option.bind_eq_some_iff.1 ht
     refine ⟨rfl, lift ⟨_, ?_, .int _ _⟩⟩
     rcases mapAt_sound w hes hx hR (hgh (by simp only [kindOf, ht])) with ⟨rfl, rfl, rfl⟩ | ⟨b, l, ents, clock, rfl, hb, rfl, hw, hl, _⟩
     ·simp [Builtin.len_, ht1, run_underlying ht2, goInt]
     ·simp [Builtin.len_, ht1, run_underlying ht2, goInt, run_getMap w hw, hl]
    ·rename_i ht
     simp only [Option.some.injEq, Prod.mk.injEq] at hop
     obtain ⟨rfl, rfl⟩ := hop
     obtain ⟨t, ht1, ht2⟩ := Option.bind_eq_some_iff.1 ht
     refine ⟨rfl, lift ⟨_, ?_, .int _ _⟩⟩
     simp [Builtin.len_, ht1, run_underlying ht2, goInt]
    ·cases hop
   case max =>
    rw [show builtin .max argTypes type (args.map fun | .const _ => true | _ => false) (args.map a.eval) = (do pure (.value (← Builtin.max_ argTypes type (args.map a.eval))) : Sem Next) from rfl]
    generalize argsOf e args = L at hop hargs
    rcases L with _ | ⟨x, _ | ⟨y, _ | ⟨z, L⟩⟩⟩ <;> (try dsimp only at hop) <;> (try (cases hop; done)) <;> cases x <;> (try dsimp only at hop) <;> (try (cases hop; done)) <;> cases y <;> (try dsimp only at hop) <;> (try (cases hop; done))
    obtain ⟨mx, rest, hms, hx, hrest⟩ := hargs.of_cons
    obtain ⟨my, rest2, rfl, hy, hnil⟩ := hrest.of_cons
    have hr2 := hnil.of_nil
    subst hr2
    have hms' : args.map a.eval = #[mx, my] := by
     apply Array.ext'; simpa using hms
    rw [hms']
    cases hx; cases hy
    simp only [Option.some.injEq, Prod.mk.injEq] at hop
    obtain ⟨rfl, rfl⟩ := hop
    exact ⟨rfl, lift ⟨_, run_max_int2 w _ _ _ _ _ _, .int _ _⟩⟩
   case min =>
    rw [show builtin .min argTypes type (args.map fun | .const _ => true | _ => false) (args.map a.eval) = (do pure (.value (← Builtin.min_ argTypes type (args.map a.eval))) : Sem Next) from rfl]
    generalize argsOf e args = L at hop hargs
    rcases L with _ | ⟨x, _ | ⟨y, _ | ⟨z, L⟩⟩⟩ <;> (try dsimp only at hop) <;> (try (cases hop; done)) <;> cases x <;> (try dsimp only at hop) <;> (try (cases hop; done)) <;> cases y <;> (try dsimp only at hop) <;> (try (cases hop; done))
    obtain ⟨mx, rest, hms, hx, hrest⟩ := hargs.of_cons
    obtain ⟨my, rest2, rfl, hy, hnil⟩ := hrest.of_cons
    have hr2 := hnil.of_nil
    subst hr2
    have hms' : args.map a.eval = #[mx, my] := by
     apply Array.ext'; simpa using hms
    rw [hms']
    cases hx; cases hy
    simp only [Option.some.injEq, Prod.mk.injEq] at hop
    obtain ⟨rfl, rfl⟩ := hop
    exact ⟨rfl, lift ⟨_, run_min_int2 w _ _ _ _ _ _, .int _ _⟩⟩
end
end Go.Proofs.Ythlbahcggmbfaaa.V

namespace Go.Proofs.Ythlbahcggmbfaaa.V
open Go.RowKit
section
variable {P : Program} {ρ : Ren} (w : World)
theorem chunks_get (z : Nat) : ∀ (k : Nat) (l : List VV) (i : Nat) (c : List VV), (chunks z k l)[i]? = some c → k * z ≤ l.length → c.length = z ∧ ∀ (j : Nat) v, c[j]? = some v → l[i * z + j]? = some v
 | 0, l, i, c, h, _ => by simp [chunks] at h
 | k + 1, l, i, c, h, hl => by
  rw [Nat.add_mul, Nat.one_mul] at hl
  cases i with
  | zero =>
   simp only [chunks, List.getElem?_cons_zero, Option.some.injEq] at h
   subst h
   refine ⟨by simp; omega, fun j v hv => ?_⟩
   rw [List.getElem?_take] at hv
   split at hv
   ·simpa using hv
   ·cases hv
  | succ i =>
   simp only [chunks, List.getElem?_cons_succ] at h
   obtain ⟨h1, h2⟩ := chunks_get z k (l.drop z) i c h (by simp; omega)
   refine ⟨h1, fun j v hv => ?_⟩
   have := h2 j v hv
   rw [List.getElem?_drop] at this
   rw [← this]
   congr 1
   rw [Nat.add_mul, Nat.one_mul]
   omega
theorem chunks_length (z : Nat) : ∀ (k : Nat) (l : List VV), (chunks z k l).length = k
 | 0, _ => rfl
 | k + 1, l => by simp [chunks, chunks_length z k]
theorem relO_one {l : Loc} {cs : List VV} {c : Array Value} {t : TypeId} {fam : Nat} (h : RelL ρ cs c.toList) (hone : cs.all oneCell = true) (h0 : cs.length ≠ 0) (hc : l.coff = 0) (he : l.esz = cs.length) (hm : l.msz = c.size) (hr : l.ro = false) :
  RelO ρ l (.cells { es := [cs], esz := cs.length, fam, org := 0, solo := true, last := true, ro := false }) (some (.cells c t (0, 0))) := by
 have hsz : c.size = cs.length := by have := h.1; simpa using this.symm
 refine .cells _ c t (0, 0) (fun _ => hr) hm.symm he.symm (by omega) (by simp [hc, he, hm, hsz]) (fun _ x _ => by simp) ?_
 intro i cs' hcs
 cases i with
 | zero =>
  simp only [List.getElem?_cons_zero, Option.some.injEq] at hcs
  subst hcs
  refine ⟨he.symm, hone, fun j v hv => ?_⟩
  obtain ⟨mv, h1, h2⟩ := h.at hv
  exact ⟨mv, by simpa [hc] using h1, h2⟩
 | succ i => simp at hcs
theorem convNew_sound {h h' : VHeap} {src dst : TypeId} {x v : VV} {mx : Value} (hop : vconvNew P src dst x h = some (v, h')) (hx : RelV ρ x mx) :
  ∃ obj m w' mv l, h' = h.push obj ∧ (convert src dst mx).run P w = .ok mv w' ∧ NewBlk w w' m ∧ l.mb = w.heap.size ∧ RelO ρ l obj (some m) ∧ (∀ k, obj = .cells k → k.fam = h.next ∧ k.ro = false) ∧
   ∀ ρ' : Ren, ρ' h.next = some l → RelV ρ' v mv := by
 unfold vconvNew at hop
 split at hop
 ·rename_i el s e1 e2
  cases hx
  split at hop
  ·rename_i he
   split at hop
   ·cases hop
   ·rename_i hcond
    simp only [not_or, Decidable.not_not, Nat.not_lt] at hcond
    obtain ⟨hc1, hmax⟩ := hcond
    simp only [Option.some.injEq, Prod.mk.injEq] at hop
    obtain ⟨rfl, rfl⟩ := hop
    have hrun := Lib.run_convert_string_bytes (P := P) w src dst el s e1 e2 he
    have hge := grownCap_ge w s.size 0 el
    have hle := grownCap_le_maxLen w s.size 0 el (by unfold maxBytes at hmax; unfold maxLen; omega)
    have hsz : (Lib.bytesCells w el s).size = grownCap w s.size 0 el := by
     have : s.data.size = s.size := rfl
     simp only [Lib.bytesCells, Array.size_append, Array.size_map, Array.size_replicate]
     omega
    refine ⟨_, _, _, _, ⟨w.heap.size, 0, 1, (Lib.bytesCells w el s).size, false⟩, rfl, hrun, ⟨Lib.bytesWorld_size w el s, Lib.bytesWorld_at_new w el s, fun k hk => Lib.bytesWorld_at_old w el s k hk, rfl, rfl, rfl⟩, rfl, ?_, (fun k hk => by cases hk; exact ⟨rfl, rfl⟩), fun ρ' hρ => ?_⟩
    ·refine .cells _ _ el _ (fun _ => rfl) rfl rfl (Nat.one_pos) ?_ (fun _ x hx hx' => by simp only at hx; omega) ?_
     ·simp only [List.length_map, Array.length_toList, Nat.zero_add, Nat.mul_one, hsz]
      exact hge
     ·intro i cs hcs
      simp only [List.getElem?_map, Option.map_eq_some_iff] at hcs
      obtain ⟨u, hu, rfl⟩ := hcs
      refine ⟨rfl, rfl, fun j q hq => ?_⟩
      cases j with
      | zero =>
       simp only [List.getElem?_cons_zero, Option.some.injEq] at hq
       subst hq
       refine ⟨.int .u8 u.toNat, ?_, .int _ _⟩
       have hlt : i < s.data.size := by
        have := (List.getElem?_eq_some_iff.1 hu).1
        simpa using this
       simp only [Nat.zero_add, Nat.mul_one, Nat.add_zero, Lib.bytesCells]
       rw [Array.getElem?_append_left (by simpa using hlt), Array.getElem?_map]
       rw [Array.getElem?_toList] at hu
       rw [hu]; rfl
      | succ j => simp at hq
    ·refine RelV.slice h.next 0 s.size none 1 _ _ _ hρ rfl hge hle (fun k hk => by cases hk) (fun _ _ => ?_) (.inl (by simp [addrAt]))
     simp only [Nat.zero_add, Nat.mul_one, hsz]
  ·cases hop
 ·cases hop
theorem alloc_sound {o : Oper} {e : Env} {h h' : VHeap} {call : Caller} {v : VV} (hk : kindOf P o = .alloc) (hop : vop P call o e h = some (v, h')) (a : Act)
  (ho : ∀ x ∈ o.op.operands, RelV ρ (ev e x) (a.eval x)) :
  ∃ obj m w' mv l, h' = h.push obj ∧ (execOp a.eval o).run P w = .ok (.value mv) w' ∧ NewBlk w w' m ∧ l.mb = w.heap.size ∧ RelO ρ l obj (some m) ∧ (∀ k, obj = .cells k → k.fam = h.next ∧ k.ro = false) ∧
   ∀ ρ' : Ren, ρ' h.next = some l → RelV ρ' v mv := by
 have lift : ∀ {s : Sem Value} {mv : Value} {w' : World}, s.run P w = .ok mv w' → ((do pure (.value (← s)) : Sem Next)).run P w = .ok (.value mv) w' := by
  intro s mv w' h1
  simp only [Sem.run_bind, h1, Result.andThen_ok, Sem.run_pure]
 obtain ⟨dst, op, type, pos, after, guard⟩ := o
 cases op <;> simp only [vop, kindOf] at hop hk <;> (try (cases hk; done)) <;> (try (cases hop; done)) <;> simp only [Op.operands] at ho <;> simp only [execOp]
 case alloc t =>
  split at hop
  ·rename_i z hz
   split at hop
   ·cases hop
   ·rename_i h0
    simp only [Option.some.injEq, Prod.mk.injEq] at hop
    obtain ⟨rfl, rfl⟩ := hop
    obtain ⟨inf, zv, hi, hzv, hrz, hone, hlen⟩ := zero_sound (ρ := ρ) hz
    have hcells := hrz.cells (notUndef hone)
    refine ⟨_, .cells zv.cells t, w.alloc (.cells zv.cells t), .pointer (some ⟨w.heap.size, 0, none⟩), ⟨w.heap.size, 0, (vcells z).length, zv.cells.size, false⟩, by rw [← hlen]; rfl,
     lift ?_, newBlk_alloc _ _, rfl, relO_one hcells hone (by omega) rfl rfl rfl rfl, fun k hk => by cases hk; exact ⟨rfl, rfl⟩, fun ρ' hρ => ?_⟩
    ·simp [Instr.alloc, run_zero hi hzv, newVar, newRow]
    ·have := RelV.ptr (ρ := ρ') h.next 0 0 _ hρ
     simpa [addrAt] using this
  ·cases hop
 case box t x =>
  split at hop
  ·rename_i hc
   obtain ⟨hlen, h0, hone⟩ := hc
   simp only [Option.some.injEq, Prod.mk.injEq] at hop
   obtain ⟨rfl, rfl⟩ := hop
   have hx := ho x (by simp)
   have hcells := hx.cells (notUndef hone)
   refine ⟨_, .cells (a.eval x).cells t, w.alloc (.cells (a.eval x).cells t), .pointer (some ⟨w.heap.size, 0, none⟩), ⟨w.heap.size, 0, (vcells (ev e x)).length, (a.eval x).cells.size, false⟩, by rw [← hlen]; rfl,
    lift ?_, newBlk_alloc _ _, rfl, relO_one hcells hone (by omega) rfl rfl rfl rfl, fun k hk => by cases hk; exact ⟨rfl, rfl⟩, fun ρ' hρ => ?_⟩
   ·simp [Instr.box, newVar, newRow]
   ·have := RelV.ptr (ρ := ρ') h.next 0 0 _ hρ
    simpa [addrAt] using this
  ·cases hop
 case buildSlice t len parts =>
  unfold vbuildSlice at hop
  split at hop
  ·rename_i el hu
   split at hop
   ·rename_i z hz
    simp only at hop
    split at hop
    ·cases hop
    ·rename_i hc
     simp only [not_or, Nat.not_lt, gt_iff_lt] at hc
     obtain ⟨h0, hbig⟩ := hc
     split at hop
     ·rename_i cs hfill
      split at hop
      ·rename_i hone
       simp only [Option.some.injEq, Prod.mk.injEq] at hop
       obtain ⟨rfl, rfl⟩ := hop
       obtain ⟨inf, zv, hi, hzv, hrz, hzone, hzlen⟩ := zero_sound (ρ := ρ) hz
       have hcells := hrz.cells (notUndef hzone)
       have hzsz : zv.cells.size = P.cellsOf el := by have := hcells.1; simp at this; omega
       
       have hrow : RelL ρ (List.flatten (List.replicate len (vcells z))) ((Array.range (len * P.cellsOf el)).map (fun i => zv.cells[i % zv.cells.size]!)).toList := by
        refine ⟨by simp [List.length_flatten, hzlen], fun i x mx hx hmx => ?_⟩
        have hi' : i < len * P.cellsOf el := by
         have := (List.getElem?_eq_some_iff.1 hmx).1
         simpa using this
        have e1 : ∀ (n i : Nat), i < n * P.cellsOf el → (List.flatten (List.replicate n (vcells z)))[i]? = (vcells z)[i % P.cellsOf el]? := by
         intro n
         induction n with
         | zero => intro i hi; simp at hi
         | succ n ih =>
          intro i hi
          rw [List.replicate_succ, List.flatten_cons]
          by_cases hlt : i < P.cellsOf el
          ·rw [List.getElem?_append_left (by omega), Nat.mod_eq_of_lt hlt]
          ·rw [List.getElem?_append_right (by omega), hzlen, ih _ (by rw [Nat.add_mul, Nat.one_mul] at hi; omega), ← Nat.mod_eq_sub_mod (by omega)]
        rw [e1 len i hi'] at hx
        simp [hi'] at hmx
        have hmod : i % P.cellsOf el < zv.cells.size := by rw [hzsz]; exact Nat.mod_lt _ (by omega)
        rw [hzsz, getElem!_pos zv.cells _ hmod] at hmx
        refine hcells.2 _ x mx hx ?_
        rw [← hmx]
        simp [Array.getElem?_eq_getElem hmod]
       obtain ⟨mout, hm, hrel⟩ := fill_sound (fun i => some (i * P.cellsOf el, P.cellsOf el)) _ ((parts.map fun (i, x) => (i, a.eval x)).toList) _ cs _ hfill (by simp) (parts_rel parts (fun x hx => ho x (by simpa using hx))) hrow
       have hclen : ∀ (pl : Nat → Option (Nat × Nat)) (ps : List (Nat × VV)) (c o : List VV), fillV pl c ps = some o → o.length = c.length := by
        intro pl ps
        induction ps with
        | nil => intro c o h; simp [fillV] at h; rw [h]
        | cons p ps ih =>
         intro c o h
         obtain ⟨i, u⟩ := p
         simp only [fillV] at h
         split at h
         ·cases h
         ·split at h
          ·cases h
          ·rename_i hcc
           simp only [not_or, Nat.not_lt, gt_iff_lt, Decidable.not_not] at hcc
           rw [ih _ _ h]
           simp
           omega
       have hcs : cs.length = len * P.cellsOf el := by rw [hclen _ _ _ _ hfill]; simp [List.length_flatten, hzlen]
       have hmsz : mout.size = len * P.cellsOf el := by have := hrel.1; simp at this; omega
       refine ⟨_, .cells mout el, w.alloc (.cells mout el), .slice (some ⟨w.heap.size, 0, none⟩) len len, ⟨w.heap.size, 0, P.cellsOf el, mout.size, false⟩, rfl,
        lift ?_, newBlk_alloc _ _, rfl, ?_, fun k hk => by cases hk; exact ⟨rfl, rfl⟩, fun ρ' hρ => ?_⟩
       ·simp only [Instr.buildSlice, Sem.run_bind, run_underlying hu, Result.andThen_ok, run_sizeOf w hi]
        rw [if_neg (by omega)]
        by_cases hl0 : len * P.cellsOf el = 0
        ·simp only [hl0, if_true, Sem.run_bind, Sem.run_pure, Result.andThen_ok]
         have hl1 : len = 0 := by
          rcases Nat.mul_eq_zero.1 hl0 with h | h
          ·exact h
          ·omega
         subst hl1
         have hz0 : (Array.range (0 * P.cellsOf el)).map (fun i => zv.cells[i % zv.cells.size]!) = (Array.range (0 * P.cellsOf el)).map (fun i => (#[] : Array Value)[i % (#[] : Array Value).size]!) := by
          rw [Array.eq_empty_of_size_eq_zero (xs := (Array.range (0 * P.cellsOf el)).map (fun i => zv.cells[i % zv.cells.size]!)) (by simp),
           Array.eq_empty_of_size_eq_zero (xs := (Array.range (0 * P.cellsOf el)).map (fun i => (#[] : Array Value)[i % (#[] : Array Value).size]!)) (by simp)]
         rw [hz0] at hm
         simp only [Nat.zero_mul] at hm
         simp only [hm, newRow, Sem.run_bind, run_newObj, Result.andThen_ok, Sem.run_pure]
         rfl
        ·simp only [hl0, if_false, Sem.run_bind, run_zero hi hzv, Result.andThen_ok, Sem.run_pure]
         simp only [hm, newRow, Sem.run_bind, run_newObj, Result.andThen_ok, Sem.run_pure]
         rfl
       ·refine .cells _ mout el (0, 0) (fun _ => rfl) rfl rfl (by simp; omega) (by simp [chunks_length, hmsz]) (fun _ x _ => by simp) ?_
        intro i c hcc
        obtain ⟨k1, k2⟩ := chunks_get (P.cellsOf el) len cs i c hcc (by omega)
        refine ⟨k1, List.all_eq_true.2 fun u hu' => ?_, fun j u hu' => ?_⟩
        ·obtain ⟨j, hj⟩ := List.getElem?_of_mem hu'
         exact List.all_eq_true.1 hone u (List.mem_of_getElem? (k2 j u hj))
        ·obtain ⟨mv, q1, q2⟩ := hrel.at (k2 j u hu')
         exact ⟨mv, by simpa using q1, q2⟩
       ·have hb : len ≤ maxLen := by
         have : len ≤ len * P.cellsOf el := Nat.le_mul_of_pos_right _ (by omega)
         unfold maxLen; omega
        refine .slice h.next 0 len (some len) _ _ _ len hρ rfl (Nat.le_refl _) hb (fun k hk => by simp only [Option.some.injEq] at hk; exact hk) (fun e => by cases e) (.inl ?_)
        simp [addrAt]
      ·cases hop
     ·cases hop
   ·cases hop
  ·cases hop
 case makeMap t r =>
  cases r with
  | some x => cases hop
  | none =>
   simp only [Option.some.injEq, Prod.mk.injEq] at hop
   obtain ⟨rfl, rfl⟩ := hop
   refine ⟨_, .map #[] 0, w.alloc (.map #[] 0), .map (some w.heap.size), ⟨w.heap.size, 0, 0, 0, false⟩, rfl, lift ?_, newBlk_alloc _ _, rfl, RelO.map [] #[] 0 rfl (MapKept.stamped_empty 0) (by simp), (fun k hk => by cases hk), fun ρ' hρ => RelV.map h.next _ hρ⟩
   simp [Instr.makeMap]
 case makeSlice t x y =>
  split at hop
  ·rename_i el l c hu hl hc
   split at hop
   ·rename_i z hz
    split at hop
    ·rename_i hcond
     obtain ⟨hlc, hby, hcm, h0⟩ := hcond
     simp only [Option.some.injEq, Prod.mk.injEq] at hop
     obtain ⟨rfl, rfl⟩ := hop
     obtain ⟨inf, zv, hi, hzv, hrz, hone, hlen⟩ := zero_sound (ρ := ρ) hz
     have hcells := hrz.cells (notUndef hone)
     have hzsz : zv.cells.size = P.cellsOf el := by have := hcells.1; simp at this; omega
     have hsize : inf.size = P.cellsOf el := by simp [Program.cellsOf, hi]
     have hbytes : inf.bytes = P.bytesOf el := by simp [Program.bytesOf, hi]
     obtain ⟨kx, ix, e1, hx0, hlx⟩ := natOf_rel hl (ho x (by simp))
     obtain ⟨ky, iy, e2, hy0, hcy⟩ := natOf_rel hc (ho y (by simp))
     have hb1 : (inf.bytes : Int) * iy ≤ 281474976710656 := by
      rw [hbytes, show iy = (c : Int) by omega, Int.mul_comm]
      have : (c : Int) * (P.bytesOf el : Int) = ((c * P.bytesOf el : Nat) : Int) := by simp
      rw [this]
      unfold maxBytes at hby
      omega
     have hrun := run_make (P := P) w t el inf zv hu hi hzv kx ky ix iy hx0 (by omega) hb1 (by unfold maxBytes at hcm; omega)
     have hms : (madeCells zv.cells (iy.toNat * inf.size)).size = c * P.cellsOf el := by simp [madeCells, hsize, hcy]
     refine ⟨_, .cells (madeCells zv.cells (iy.toNat * inf.size)) el, w.alloc (.cells (madeCells zv.cells (iy.toNat * inf.size)) el), .slice (some ⟨w.heap.size, 0, none⟩) ix.toNat iy.toNat,
      ⟨w.heap.size, 0, P.cellsOf el, (madeCells zv.cells (iy.toNat * inf.size)).size, false⟩, rfl, lift (by rw [e1, e2]; exact hrun), newBlk_alloc _ _, rfl, ?_, (fun k hk => by cases hk; exact ⟨rfl, rfl⟩), fun ρ' hρ => ?_⟩
     ·refine .cells _ _ el (0, 0) (fun _ => rfl) rfl rfl (by simp; omega) (by simp [hms]) (fun _ x _ => by simp) ?_
      intro i cs hcs
      simp only [List.getElem?_replicate] at hcs
      split at hcs
      ·rename_i hi'
       simp only [Option.some.injEq] at hcs; subst hcs
       refine ⟨hlen, hone, fun j u hu' => ?_⟩
       obtain ⟨mv, q1, q2⟩ := hcells.at hu'
       have hj : j < P.cellsOf el := by rw [← hlen]; exact (List.getElem?_eq_some_iff.1 hu').1
       refine ⟨mv, ?_, q2⟩
       have hlt : i * P.cellsOf el + j < c * P.cellsOf el := by
        have : (i + 1) * P.cellsOf el ≤ c * P.cellsOf el := Nat.mul_le_mul_right _ hi'
        rw [Nat.add_mul, Nat.one_mul] at this
        omega
       have hmod : (i * P.cellsOf el + j) % P.cellsOf el = j := by rw [Nat.mul_comm, Nat.mul_add_mod, Nat.mod_eq_of_lt hj]
       have hj' : j < zv.cells.size := by omega
       have q3 : zv.cells[j] = mv := by
        have : zv.cells.toList[j]? = some mv := q1
        rw [Array.getElem?_toList, Array.getElem?_eq_getElem hj'] at this
        exact Option.some.inj this
       simp only [madeCells, Nat.zero_add, hsize, ← hcy]
       rw [Array.getElem?_map, Array.getElem?_range, if_pos (by simpa using hlt)]
       simp only [Option.map_some, hzsz, hmod]
       rw [getElem!_pos zv.cells j hj', q3]
      ·cases hcs
     ·rw [← hlx, ← hcy]
      exact RelV.slice h.next 0 l (some c) _ _ _ c hρ rfl hlc (by unfold maxBytes at hcm; unfold maxLen; omega) (fun k hk => by simp only [Option.some.injEq] at hk; exact hk) (fun e => by cases e) (.inl (by simp [addrAt]))
    ·cases hop
   ·cases hop
  ·cases hop
 case convert src dst x =>
  split at hop
  ·rename_i e1 e2
   simp only [e1, e2] at hk
   cases hk
  ·rename_i e1 e2
   obtain ⟨obj, m, w', mv, l, h1, h2, h3⟩ := convNew_sound w hop (ho x (by simp))
   exact ⟨obj, m, w', mv, l, h1, lift h2, h3⟩
  ·rename_i h1 h2
   exfalso
   split at hk
   ·exact h1 _ ‹_› ‹_›
   ·exact h2 _ ‹_› ‹_›
   ·cases hk
 case call c =>
  obtain ⟨callee, args, argTypes⟩ := c
  exfalso
  cases callee with
  | value f => cases hk
  | invoke r m => cases hk
  | builtin b =>
   cases b <;> first | (cases hk; done) | skip
   simp only at hk
   split at hk <;> cases hk
end
end Go.Proofs.Ythlbahcggmbfaaa.V

namespace Go.Proofs.Ythlbahcggmbfaaa.V
open Go.RowKit
section
variable {P : Program} {ρ : Ren} {w : World}
theorem flatten_get (z : Nat) : ∀ (xs : List (List VV)) (p r : Nat) (c : List VV) (v : VV), (∀ cs ∈ xs, cs.length = z) → xs[p]? = some c → c[r]? = some v → xs.flatten[p * z + r]? = some v
 | [], p, r, c, v, _, h, _ => by simp at h
 | x :: xs, p, r, c, v, hz, h, hv => by
  have hx : x.length = z := hz x (by simp)
  rw [List.flatten_cons]
  cases p with
  | zero =>
   simp only [List.getElem?_cons_zero, Option.some.injEq] at h
   subst h
   rw [List.getElem?_append_left (by have := (List.getElem?_eq_some_iff.1 hv).1; omega)]
   simpa using hv
  | succ p =>
   simp only [List.getElem?_cons_succ] at h
   have ih := flatten_get z xs p r c v (fun cs hcs => hz cs (by simp [hcs])) h hv
   rw [List.getElem?_append_right (by rw [hx, Nat.add_mul, Nat.one_mul]; omega), ← ih]
   congr 1
   rw [hx, Nat.add_mul, Nat.one_mul]
   omega
theorem flatten_length (z : Nat) : ∀ (xs : List (List VV)), (∀ cs ∈ xs, cs.length = z) → xs.flatten.length = xs.length * z
 | [], _ => by simp
 | x :: xs, h => by
  rw [List.flatten_cons, List.length_append, h x (by simp), flatten_length z xs (fun cs hcs => h cs (by simp [hcs])), List.length_cons, Nat.add_mul, Nat.one_mul, Nat.add_comm]
theorem flatten_one {xs : List (List VV)} (h : ∀ cs ∈ xs, cs.all oneCell = true) : xs.flatten.all oneCell = true :=
 List.all_eq_true.2 fun v hv => by
  obtain ⟨cs, hcs, hv'⟩ := List.mem_flatten.1 hv
  exact List.all_eq_true.1 (h cs hcs) v hv'
theorem step_splice {h : VHeap} (hR : Rel ρ h.get w) (hw : WF h.get h.next) {b : Nat} {k : Blk} {l : Loc} (hb : ρ b = some l) (hg : h.get b = some (.cells k)) (hro : k.ro = false)
  (q : Nat) (xs : List (List VV)) (hq : q + xs.length ≤ k.es.length) (hx : ∀ cs ∈ xs, cs.length = k.esz ∧ cs.all oneCell = true) (ms : List Value) (hms : RelL ρ xs.flatten ms) :
  ∃ w', (storeCells (addrAt l q 0) ms).run P w = .ok () w' ∧
   Step ρ h.get h.next w ρ ((match k.solo with | true => h | false => h.kill k.fam (k.org + q)).put b (.cells { k with es := k.es.take q ++ xs ++ k.es.drop (q + xs.length) })).get
    ((match k.solo with | true => h | false => h.kill k.fam (k.org + q)).put b (.cells { k with es := k.es.take q ++ xs ++ k.es.drop (q + xs.length) })).next w' := by
 obtain ⟨o, ho, hr⟩ := hR.obj b l hb
 rw [hg] at ho
 simp only [Option.some.injEq] at ho; subst ho
 generalize hm : w.heap[l.mb]? = mo at hr
 cases hr with
 | cells k c t fr hr0 hs he h0 hin hfr hc =>
 have hlen : ms.length = xs.length * l.esz := by rw [← hms.1, flatten_length l.esz xs (fun cs hcs => (hx cs hcs).1.trans he)]
 have hmul : (q + xs.length) * l.esz ≤ k.es.length * l.esz := Nat.mul_le_mul_right _ hq
 rw [Nat.add_mul] at hmul
 obtain ⟨w', c', hrun, honly, hh, hsz, hlo, hhi, hmid⟩ := run_storeCells P l.mb (l.coff + q * l.esz) t fr ms 0 c w hm (by rw [hlen, hs]; omega) (by rw [hs]; exact hfr hro) (hms.one (flatten_one fun cs hcs => (hx cs hcs).2))
 simp only [Nat.add_zero] at hlo hhi hmid
 refine ⟨w', hrun, ?_⟩
 refine step_write hR hw hb hg hro q _ (by simp; omega) hm hsz (fun x hxl => hlo x hxl) ?_ hh honly
 intro j cs hcs
 rw [List.append_assoc] at hcs
 simp only at hcs
 by_cases h1 : j < q
 ·rw [List.getElem?_append_left (by simp; omega), List.getElem?_take, if_pos h1] at hcs
  obtain ⟨a1, a2, a3⟩ := hc j cs hcs
  refine ⟨a1, a2, fun r v hv => ?_⟩
  obtain ⟨mv, e1, e2⟩ := a3 r v hv
  refine ⟨mv, ?_, e2⟩
  have hrlt : r < l.esz := by rw [← a1]; exact (List.getElem?_eq_some_iff.1 hv).1
  have : (j + 1) * l.esz ≤ q * l.esz := Nat.mul_le_mul_right _ h1
  rw [Nat.add_mul, Nat.one_mul] at this
  rw [hlo _ (by omega)]
  exact e1
 ·rw [List.getElem?_append_right (by simp; omega)] at hcs
  have hmin : (List.take q k.es).length = q := by simp; omega
  rw [hmin] at hcs
  by_cases h2 : j < q + xs.length
  ·rw [List.getElem?_append_left (by omega)] at hcs
   obtain ⟨a1, a2⟩ := hx cs (List.mem_of_getElem? hcs)
   refine ⟨a1.trans he, a2, fun r v hv => ?_⟩
   have hfl := flatten_get l.esz xs (j - q) r cs v (fun cs hcs => (hx cs hcs).1.trans he) hcs hv
   obtain ⟨mv, e1, e2⟩ := hms.at hfl
   refine ⟨mv, ?_, e2⟩
   have := hmid _ mv e1
   rw [← this]
   congr 1
   have : j * l.esz = q * l.esz + (j - q) * l.esz := by rw [← Nat.add_mul]; congr 1; omega
   omega
  ·rw [List.getElem?_append_right (by omega), List.getElem?_drop] at hcs
   rw [show q + xs.length + (j - q - xs.length) = j by omega] at hcs
   obtain ⟨a1, a2, a3⟩ := hc j cs hcs
   refine ⟨a1, a2, fun r v hv => ?_⟩
   obtain ⟨mv, e1, e2⟩ := a3 r v hv
   refine ⟨mv, ?_, e2⟩
   have : (q + xs.length) * l.esz ≤ j * l.esz := Nat.mul_le_mul_right _ (by omega)
   rw [Nat.add_mul] at this
   rw [hhi _ (by rw [hlen]; omega)]
   exact e1
theorem wr_sound {h h' : VHeap} (hR : Rel ρ h.get w) (hw : WF h.get h.next) {b i f : Nat} {vs : List VV} {l : Loc} (hb : ρ b = some l) (hwr : wr h b i f vs = some h') (hone : vs.all oneCell = true)
  (ms : List Value) (hms : RelL ρ vs ms) : ∃ w', (storeCells (addrAt l i f) ms).run P w = .ok () w' ∧ Step ρ h.get h.next w ρ h'.get h'.next w' := by
 unfold wr at hwr
 split at hwr
 ·rename_i k hg
  split at hwr
  ·rename_i cs hi hro
   split at hwr
   ·rename_i hlen
    have hh' : h' = (match k.solo with | true => h | false => h.kill k.fam (k.org + i)).put b (.cells { k with es := k.es.set i (cs.take f ++ vs ++ cs.drop (f + vs.length)) }) := by
     revert hwr
     cases k.solo <;> simp only [Option.some.injEq] <;> exact fun e => e.symm
    subst hh'
    obtain ⟨o, ho, hr⟩ := hR.obj b l hb
    rw [hg] at ho
    simp only [Option.some.injEq] at ho; subst ho
    generalize hm : w.heap[l.mb]? = mo at hr
    cases hr with
    | cells k c t fr hr0 hs he h0 hin hfr hc =>
    have hilt : i < k.es.length := (List.getElem?_eq_some_iff.1 hi).1
    obtain ⟨b1, b2, b3⟩ := hc i cs hi
    have hmul : (i + 1) * l.esz ≤ k.es.length * l.esz := Nat.mul_le_mul_right _ hilt
    rw [Nat.add_mul, Nat.one_mul] at hmul
    have hlms : ms.length = vs.length := hms.1.symm
    obtain ⟨w', c', hrun, honly, hh, hsz, hlo, hhi, hmid⟩ := run_storeCells P l.mb (l.coff + i * l.esz + f) t fr ms 0 c w hm (by rw [hlms, hs]; omega) (by rw [hs]; exact hfr hro) (hms.one hone)
    simp only [Nat.add_zero] at hlo hhi hmid
    refine ⟨w', hrun, ?_⟩
    refine step_write hR hw hb hg hro i _ (by simp) hm hsz (fun x hxl => hlo x (by omega)) ?_ hh honly
    intro j cs' hcs
    simp only at hcs
    rw [List.getElem?_set] at hcs
    split at hcs
    ·rename_i hij
     subst hij
     simp only [Option.some.injEq] at hcs; subst hcs
     refine ⟨by simp; omega, ?_, fun r v hv => ?_⟩
     ·rw [List.all_append, List.all_append, hone]
      have t1 : (List.take f cs).all oneCell = true := List.all_eq_true.2 fun u hu => List.all_eq_true.1 b2 u (List.mem_of_mem_take hu)
      have t2 : (List.drop (f + vs.length) cs).all oneCell = true := List.all_eq_true.2 fun u hu => List.all_eq_true.1 b2 u (List.mem_of_mem_drop hu)
      rw [t1, t2]; rfl
     ·rw [List.append_assoc] at hv
      have hmin : (List.take f cs).length = f := by simp; omega
      by_cases h1 : r < f
      ·rw [List.getElem?_append_left (by omega), List.getElem?_take, if_pos h1] at hv
       obtain ⟨mv, e1, e2⟩ := b3 r v hv
       exact ⟨mv, by rw [hlo _ (by omega)]; exact e1, e2⟩
      ·rw [List.getElem?_append_right (by omega), hmin] at hv
       by_cases h2 : r < f + vs.length
       ·rw [List.getElem?_append_left (by omega)] at hv
        obtain ⟨mv, e1, e2⟩ := hms.at hv
        refine ⟨mv, ?_, e2⟩
        rw [← hmid _ mv e1]
        congr 1
        omega
       ·rw [List.getElem?_append_right (by omega), List.getElem?_drop, show f + vs.length + (r - f - vs.length) = r by omega] at hv
        obtain ⟨mv, e1, e2⟩ := b3 r v hv
        exact ⟨mv, by rw [hhi _ (by rw [hlms]; omega)]; exact e1, e2⟩
    ·rename_i hij
     obtain ⟨a1, a2, a3⟩ := hc j cs' hcs
     refine ⟨a1, a2, fun r v hv => ?_⟩
     obtain ⟨mv, e1, e2⟩ := a3 r v hv
     refine ⟨mv, ?_, e2⟩
     have hrlt : r < l.esz := by rw [← a1]; exact (List.getElem?_eq_some_iff.1 hv).1
     rcases Nat.lt_or_gt_of_ne hij with hlt | hgt
     ·have : (i + 1) * l.esz ≤ j * l.esz := Nat.mul_le_mul_right _ hlt
      rw [Nat.add_mul, Nat.one_mul] at this
      rw [hhi _ (by rw [hlms]; omega)]
      exact e1
     ·have : (j + 1) * l.esz ≤ i * l.esz := Nat.mul_le_mul_right _ hgt
      rw [Nat.add_mul, Nat.one_mul] at this
      rw [hlo _ (by omega)]
      exact e1
   ·cases hwr
  ·cases hwr
 ·cases hwr
theorem store_sound {h h' : VHeap} {t : TypeId} {av v : VV} {ma mv : Value} (hst : vstore P t h av v = some h') (ha : RelV ρ av ma) (hv : RelV ρ v mv) (hR : Rel ρ h.get w) (hw : WF h.get h.next) :
  ∃ w', (Instr.storeAt t ma mv).run P w = .ok () w' ∧ Step ρ h.get h.next w ρ h'.get h'.next w' := by
 unfold vstore at hst
 split at hst
 ·rename_i b i f
  split at hst
  ·rename_i hc
   obtain ⟨hlen, hone, h0⟩ := hc
   cases ha with
   | ptr _ _ _ l hb =>
   have hcells := hv.cells (notUndef hone)
   obtain ⟨w', hrun, hstep⟩ := wr_sound (P := P) hR hw hb hst hone _ hcells
   refine ⟨w', ?_, hstep⟩
   obtain ⟨inf, hinf⟩ := info_of_cells h0
   have hsz : mv.cells.size = P.cellsOf t := by have := hcells.1; simp at this; omega
   simp only [Instr.storeAt, Instr.sureAddr, Sem.run_bind, Sem.run_pure, Result.andThen_ok, storeVar, run_sizeOf w hinf, hsz, ne_eq, not_true_eq_false, if_false, hrun]
  ·cases hst
 ·cases hst
end
end Go.Proofs.Ythlbahcggmbfaaa.V

namespace Go.Proofs.Ythlbahcggmbfaaa.V
open Go.RowKit
section
variable {P : Program} {ρ : Ren}
theorem src_sound {w : World} {z : Nat} {h : VHeap} {g : Nat → Option VObj} {x : VV} {mx : Value} {xs : List (List VV)} (he : elemsOf z h x = some xs) (hx : RelV ρ x mx) (hR : Rel ρ g w)
  (hgh : ∀ b ob, ρ b ≠ none → h.get b = some ob → g b = some ob) :
  (Builtin.lenOf mx).run P w = .ok xs.length w ∧ (∀ cs ∈ xs, cs.length = z ∧ cs.all oneCell = true) ∧
  ∃ ms : List Value, RelL ρ xs.flatten ms ∧ (Builtin.firstCells z xs.length mx).run P w = .ok ms.toArray w ∧
   (∀ n, n ≤ xs.length → (Builtin.firstCells z n mx).run P w = .ok (ms.take (n * z)).toArray w) := by
 cases x <;> (try (simp [elemsOf] at he; done))
 case nilslice =>
  cases hx
  simp only [elemsOf, Option.some.injEq] at he; subst he
  exact ⟨rfl, by simp, [], RelL.nil ρ, rfl, fun n hn => by simp [Builtin.firstCells]⟩
 case slice b i n c z' =>
  obtain ⟨a, mcap, ms, rfl, h1, h2, h3, h4, h5⟩ := elems_slice w he hx hR hgh
  refine ⟨by simp [Builtin.lenOf, h3], h4, ms, h1, ?_, ?_⟩
  ·have := run_loadCells_list (P := P) w a ms h5
   rw [h2] at this
   rw [h3]
   exact this
  ·intro q hq
   rw [h3] at hq
   have := run_loadCells_list (P := P) w a (ms.take (q * z)) (fun j v hv => by
    rw [List.getElem?_take] at hv
    split at hv
    ·exact h5 j v hv
    ·cases hv)
   have hmul : q * z ≤ n * z := Nat.mul_le_mul_right _ hq
   rw [List.length_take, h2, Nat.min_eq_left hmul] at this
   exact this
 case str s =>
  cases hx
  simp only [elemsOf] at he
  split at he
  ·rename_i hz
   subst hz
   simp only [Option.some.injEq] at he; subst he
   have hl : (s.data.toList.map fun c => [VV.int .u8 (c.toNat : Int)]).length = s.size := by rw [List.length_map, Array.length_toList]; rfl
   have hcell : ∀ q, q ≤ s.size → ((s.extract 0 q).data.map fun b => Value.int .u8 (b.toNat : Int)) = ((s.data.toList.map fun c => Value.int .u8 (c.toNat : Int)).take (q * 1)).toArray := by
    intro q hq
    apply Array.ext'
    simp [List.extract]
   refine ⟨by rw [hl]; rfl, by simp [oneCell], s.data.toList.map fun c => .int .u8 (c.toNat : Int), ?_, ?_, ?_⟩
   ·generalize s.data.toList = l
    induction l with
    | nil => exact RelL.nil ρ
    | cons c l ih => exact RelL.cons (.int _ _) ih
   ·rw [hl]
    simp only [Builtin.firstCells, Sem.run_pure, hcell s.size (Nat.le_refl _)]
    congr 2
    rw [List.take_of_length_le (by rw [List.length_map, Array.length_toList, Nat.mul_one]; exact Nat.le_refl _)]
   ·intro q hq
    rw [hl] at hq
    simp only [Builtin.firstCells, Sem.run_pure, hcell q hq]
  ·cases he
theorem run_append_grows {w : World} {t u el ty : TypeId} {d : TypeDesc} {inf : TypeInfo} {zv : Value} {base : Option Addr} {sLen sCap m : Nat} {mx : Value} {old new : Array Value}
  (ht : P.underlying t = some (.slice el)) (hu : P.underlying u = some d) (hd : (∃ e', d = .slice e') ∨ d = .string) (hi : P.info? el = some inf) (hz : inf.zero = some zv)
  (hlen : (Builtin.lenOf mx).run P w = .ok m w) (hgrow : sCap < sLen + m) (hb : (sLen + m) * P.bytesOf el ≤ maxBytes) (hm : sLen + m ≤ maxBytes)
  (hold : (Builtin.firstCells (P.cellsOf el) sLen (.slice base sLen sCap)).run P w.drew = .ok old w.drew) (hnew : (Builtin.firstCells (P.cellsOf el) m mx).run P w.drew = .ok new w.drew) :
  (Builtin.append_ #[t, u] ty #[.slice base sLen sCap, mx]).run P w =
   .ok (.slice (some ⟨w.heap.size, 0, none⟩) (sLen + m) (grownCap w (sLen + m) sCap el)) (w.drew.alloc (.cells (old ++ new ++ Builtin.zeroCells zv.cells (grownCap w (sLen + m) sCap el - (sLen + m))) el)) := by
 have hby : P.bytesOf el = inf.bytes := by simp [Program.bytesOf, hi]
 have hcap := growslice_fits (need := sLen + m) (old := sCap) (bytes := inf.bytes) hgrow (by unfold maxBytes at hb; rw [hby] at hb; omega)
 have hsz : inf.size = P.cellsOf el := by simp [Program.cellsOf, hi]
 have hn : ¬ (sLen + m ≤ sCap) := by omega
 have h63' : ¬ (9223372036854775807 < ((sLen : Int) + (m : Int))) := by unfold maxBytes at hm; omega
 have h48' : ¬ (281474976710656 < Builtin.nextslicecap (sLen + m) sCap * inf.bytes) := by omega
 rcases hd with ⟨e', rfl⟩ | rfl
 all_goals
  simp [Builtin.append_, run_underlying ht, run_underlying hu, run_sizeOf _ hi, run_typeInfo _ hi, zeroValue, hz, hlen, hn, h63', h48', Question.forced, hold, hnew, newRow, grownCap]
theorem run_append_fits {w w' : World} {t u el ty : TypeId} {d : TypeDesc} {inf : TypeInfo} {a : Addr} {sLen sCap m : Nat} {mx : Value} {new : Array Value}
  (ht : P.underlying t = some (.slice el)) (hu : P.underlying u = some d) (hd : (∃ e', d = .slice e') ∨ d = .string) (hi : P.info? el = some inf)
  (hlen : (Builtin.lenOf mx).run P w = .ok m w) (hfit : sLen + m ≤ sCap) (hnew : (Builtin.firstCells (P.cellsOf el) m mx).run P w = .ok new w)
  (hst : (storeCells (a.add (sLen * P.cellsOf el)) new.toList).run P w = .ok () w') :
  (Builtin.append_ #[t, u] ty #[.slice (some a) sLen sCap, mx]).run P w = .ok (.slice (some a) (sLen + m) sCap) w' := by
 rcases hd with ⟨e', rfl⟩ | rfl
 all_goals
  simp [Builtin.append_, run_underlying ht, run_underlying hu, run_sizeOf _ hi, hlen, hfit, hnew, hst]
theorem run_append_none {w : World} {t u el ty : TypeId} {d : TypeDesc} {inf : TypeInfo} {mx : Value} {base : Option Addr} {sLen sCap : Nat} {new : Array Value}
  (ht : P.underlying t = some (.slice el)) (hu : P.underlying u = some d) (hd : (∃ e', d = .slice e') ∨ d = .string) (hi : P.info? el = some inf)
  (hlen : (Builtin.lenOf mx).run P w = .ok 0 w) (hfit : sLen ≤ sCap) (hnew : (Builtin.firstCells (P.cellsOf el) 0 mx).run P w = .ok new w) (h0 : new.toList = []) :
  (Builtin.append_ #[t, u] ty #[.slice base sLen sCap, mx]).run P w = .ok (.slice base sLen sCap) w := by
 have h0' : new = #[] := by apply Array.ext'; simpa using h0
 subst h0'
 rcases hd with ⟨e', rfl⟩ | rfl
 all_goals
  cases base <;> simp [Builtin.append_, run_underlying ht, run_underlying hu, run_sizeOf _ hi, hlen, hfit, hnew, storeCells]
end
end Go.Proofs.Ythlbahcggmbfaaa.V

namespace Go.Proofs.Ythlbahcggmbfaaa.V
open Go.RowKit
section
variable {P : Program} {ρ : Ren}
def Soft (g g' : Nat → Option VObj) : Prop :=
 ∀ b o, g b = some o → ∃ o', g' b = some o' ∧ (o' = o ∨ ∃ k k', o = .cells k ∧ o' = .cells k' ∧ k'.ro = k.ro ∧ k'.esz = k.esz ∧ k'.fam = k.fam ∧ k'.org = k.org ∧ (k'.es = k.es ∨ k'.es = []))
theorem Rel.soft {g g' : Nat → Option VObj} {w : World} (hR : Rel ρ g w) (hs : Soft g g') : Rel ρ g' w := by
 refine ⟨fun b l hb => ?_, fun b1 b2 l1 l2 o1 o2 h1 h2 g1 g2 hne hmb => ?_⟩
 ·obtain ⟨o, ho, hr⟩ := hR.obj b l hb
  obtain ⟨o', ho', h | ⟨k, k', rfl, rfl, e1, e2, _, _, e5⟩⟩ := hs b o ho
  ·subst h; exact ⟨o', ho', hr⟩
  ·refine ⟨_, ho', ?_⟩
   generalize w.heap[l.mb]? = m at hr
   cases hr with
   | cells k c t fr hr0 hs0 he h0 hin hfr hc =>
    refine .cells k' c t fr (fun h => hr0 (e1 ▸ h)) hs0 (e2.trans he) h0 ?_ (fun h => hfr (e1 ▸ h)) ?_
    ·rcases e5 with e | e <;> rw [e]
     ·exact hin
     ·simp only [List.length_nil, Nat.zero_mul]; omega
    ·intro i cs hcs
     rcases e5 with e | e <;> rw [e] at hcs
     ·exact hc i cs hcs
     ·simp at hcs
 ·obtain ⟨p1, q1, _⟩ := hR.obj b1 l1 h1
  obtain ⟨p2, q2, _⟩ := hR.obj b2 l2 h2
  obtain ⟨k1, k2, rfl, rfl, hto⟩ := hR.apart b1 b2 l1 l2 p1 p2 h1 h2 q1 q2 hne hmb
  have key : ∀ b k o, g b = some (.cells k) → g' b = some o → ∃ k', o = .cells k' ∧ k'.ro = k.ro ∧ k'.fam = k.fam ∧ k'.org = k.org := by
   intro b k o hg hg'
   obtain ⟨o', ho', h | ⟨k0, k', e0, rfl, e1, _, e3, e4, _⟩⟩ := hs b _ hg
   ·rw [hg'] at ho'; simp only [Option.some.injEq] at ho'; subst ho'
    exact ⟨k, h, rfl, rfl, rfl⟩
   ·rw [hg'] at ho'; simp only [Option.some.injEq] at ho'; subst ho'
    simp only [VObj.cells.injEq] at e0; subst e0
    exact ⟨k', rfl, e1, e3, e4⟩
  obtain ⟨k1', f1, a1, a2, a3⟩ := key b1 k1 o1 q1 g1
  obtain ⟨k2', f2, c1, c2, c3⟩ := key b2 k2 o2 q2 g2
  refine ⟨k1', k2', f1, f2, ?_⟩
  rw [a1, a2, a3, c1, c2, c3]
  exact hto
theorem Rel.beyond {g : Nat → Option VObj} {w w' : World} (hR : Rel ρ g w) {b : Nat} {l : Loc} {k : Blk} (hb : ρ b = some l) (hg : g b = some (.cells k)) (hro : k.ro = false) (p : Nat)
  (hend : ∀ b2 k2, g b2 = some (.cells k2) → k2.fam = k.fam → k2.es.length = 0 ∨ k2.org + k2.es.length ≤ k.org + p) {c c' : Array Value} {t : TypeId} {fr : Nat × Nat}
  (hm : w.heap[l.mb]? = some (.cells c t fr)) (hs : c'.size = c.size) (hlo : ∀ x, x < l.coff + p * l.esz → c'[x]? = c[x]?) (hw' : w'.heap[l.mb]? = some (.cells c' t fr)) (ho : Only w w' l.mb) : Rel ρ g w' := by
 refine ⟨fun b2 l2 h2 => ?_, hR.apart⟩
 obtain ⟨o, hgo, hr⟩ := hR.obj b2 l2 h2
 by_cases hmb : l2.mb = l.mb
 ·have al : ∃ k2, o = .cells k2 ∧ k2.fam = k.fam ∧ l2.esz = l.esz ∧ l2.coff + k.org * l2.esz = l.coff + k2.org * l2.esz := by
   by_cases hbb : b2 = b
   ·subst hbb
    rw [hb] at h2; simp only [Option.some.injEq] at h2; subst h2
    rw [hg] at hgo; simp only [Option.some.injEq] at hgo; subst hgo
    exact ⟨k, rfl, rfl, rfl, rfl⟩
   ·obtain ⟨k2, k1, rfl, e1, hto⟩ := hR.apart b2 b l2 l o _ h2 hb hgo hg hbb hmb
    cases e1
    rcases hto with ⟨_, h5⟩ | ⟨hf, hez, hal⟩
    ·rw [hro] at h5; cases h5
    ·exact ⟨k2, rfl, hf, hez, hal⟩
  obtain ⟨k2, rfl, hf, hez, hal⟩ := al
  refine ⟨_, hgo, ?_⟩
  rw [hmb, hw']
  rw [hmb, hm] at hr
  cases hr with
  | cells k2 c t fr hr0 hs0 he h0 hin hfr hc =>
   refine .cells k2 c' t fr hr0 (hs.trans hs0) he h0 hin hfr fun i cs hcs => ?_
   obtain ⟨a1, a2, a3⟩ := hc i cs hcs
   refine ⟨a1, a2, fun j v hv => ?_⟩
   obtain ⟨mv, hmv, hv'⟩ := a3 j v hv
   refine ⟨mv, ?_, hv'⟩
   rw [hlo _ ?_]
   ·exact hmv
   ·have hi : i < k2.es.length := (List.getElem?_eq_some_iff.1 hcs).1
    have hj : j < l2.esz := by rw [← a1]; exact (List.getElem?_eq_some_iff.1 hv).1
    rcases hend b2 k2 hgo hf with h5 | h5
    ·omega
    ·have m1 : (i + 1) * l2.esz ≤ k2.es.length * l2.esz := Nat.mul_le_mul_right _ hi
     have m2 : (k2.org + k2.es.length) * l2.esz ≤ (k.org + p) * l2.esz := Nat.mul_le_mul_right _ h5
     simp only [Nat.add_mul, Nat.one_mul] at m1 m2
     rw [← hez]
     omega
 ·exact ⟨o, hgo, by rw [ho.other l2.mb hmb]; exact hr⟩
theorem grown_cells {xs ys : List (List VV)} {z : Nat} {old new rest : Array Value} (hx : ∀ cs ∈ xs, cs.length = z ∧ cs.all oneCell = true) (hy : ∀ cs ∈ ys, cs.length = z ∧ cs.all oneCell = true)
  (ho : RelL ρ xs.flatten old.toList) (hn : RelL ρ ys.flatten new.toList) :
  ∀ (i : Nat) cs, (xs ++ ys)[i]? = some cs → cs.length = z ∧ cs.all oneCell = true ∧ ∀ (j : Nat) v, cs[j]? = some v → ∃ mv, (old ++ new ++ rest)[i * z + j]? = some mv ∧ RelV ρ v mv := by
 intro i cs hcs
 have hall : ∀ cs ∈ xs ++ ys, cs.length = z ∧ cs.all oneCell = true := fun cs hcs => by
  rcases List.mem_append.1 hcs with h | h
  ·exact hx cs h
  ·exact hy cs h
 obtain ⟨a1, a2⟩ := hall cs (List.mem_of_getElem? hcs)
 refine ⟨a1, a2, fun j v hv => ?_⟩
 have hfl := flatten_get z (xs ++ ys) i j cs v (fun cs hcs => (hall cs hcs).1) hcs hv
 have hrel : RelL ρ (xs ++ ys).flatten (old.toList ++ new.toList) := by rw [List.flatten_append]; exact ho.append hn
 obtain ⟨mv, e1, e2⟩ := hrel.at hfl
 refine ⟨mv, ?_, e2⟩
 have hlt : i * z + j < (old.toList ++ new.toList).length := (List.getElem?_eq_some_iff.1 e1).1
 have : (old ++ new ++ rest).toList[i * z + j]? = some mv := by
  rw [Array.toList_append, Array.toList_append, List.getElem?_append_left hlt]
  exact e1
 rw [← Array.getElem?_toList]; exact this
theorem open_back {h : VHeap} (hw : WF h.get h.next) {b i n : Nat} {k : Blk} (hg : h.get b = some (.cells k)) (h1 : VHeap)
  (hh1 : h1 = match k.last && Nat.beq (i + n) k.es.length with
   | true => h.put b (.cells { k with solo := false, last := false })
   | false => (h.put b (.cells { k with solo := false, last := false })).kill k.fam (k.org + (i + n))) :
  (∀ b2, h1.get b2 = if b2 = b then (some (.cells { k with solo := false, last := false }) : Option VObj).map (fun o => if k.last && Nat.beq (i + n) k.es.length then o else killObj k.fam (k.org + (i + n)) o)
   else (h.get b2).map (fun o => if k.last && Nat.beq (i + n) k.es.length then o else killObj k.fam (k.org + (i + n)) o)) ∧
  (∀ b2 k2, h1.get b2 = some (.cells k2) → ∃ k0, h.get b2 = some (.cells k0) ∧ k2.fam = k0.fam ∧ k2.org = k0.org ∧ k2.ro = k0.ro ∧ (k2.solo = true → k0.solo = true ∧ b2 ≠ b) ∧
   (k2.es.length = 0 ∨ (k2.es = k0.es)) ∧ (k2.last = true → k0.last = true ∧ k2.es = k0.es ∧ k2.fam ≠ k.fam) ∧ (k2.fam = k.fam → k2.es.length = 0 ∨ k2.org + k2.es.length ≤ k.org + (i + n))) ∧
  Soft h.get h1.get := by
 have hlt := VHeap.get_lt hg
 
 have g1 : ∀ b2, h1.get b2 = if b2 = b then (some (.cells { k with solo := false, last := false }) : Option VObj).map (fun o => if k.last && Nat.beq (i + n) k.es.length then o else killObj k.fam (k.org + (i + n)) o)
   else (h.get b2).map (fun o => if k.last && Nat.beq (i + n) k.es.length then o else killObj k.fam (k.org + (i + n)) o) := by
  intro b2
  rw [hh1]
  cases hc : (k.last && Nat.beq (i + n) k.es.length) with
  | true =>
   simp only [if_true]
   rw [VHeap.get_put _ _ _ hlt]
   split <;> simp
  | false =>
   simp only [Bool.false_eq_true, if_false]
   rw [VHeap.get_kill, VHeap.get_put _ _ _ hlt]
   split <;> rfl
 
 have back : ∀ b2 k2, h1.get b2 = some (.cells k2) → ∃ k0, h.get b2 = some (.cells k0) ∧ k2.fam = k0.fam ∧ k2.org = k0.org ∧ k2.ro = k0.ro ∧ (k2.solo = true → k0.solo = true ∧ b2 ≠ b) ∧
   (k2.es.length = 0 ∨ (k2.es = k0.es)) ∧ (k2.last = true → k0.last = true ∧ k2.es = k0.es ∧ k2.fam ≠ k.fam) ∧ (k2.fam = k.fam → k2.es.length = 0 ∨ k2.org + k2.es.length ≤ k.org + (i + n)) := by
  intro b2 k2 h2
  rw [g1] at h2
  cases hc : (k.last && Nat.beq (i + n) k.es.length) with
  | true =>
   rw [hc] at h2
   simp only [if_true, Option.map_id_fun', id_eq] at h2
   simp only [Bool.and_eq_true] at hc
   have hend : i + n = k.es.length := Nat.eq_of_beq_eq_true hc.2
   split at h2
   ·rename_i e; subst e
    simp only [Option.some.injEq, VObj.cells.injEq] at h2; subst h2
    exact ⟨k, hg, rfl, rfl, rfl, (fun e => by cases e), .inr rfl, (fun e => by cases e), fun _ => .inr (by simp only; omega)⟩
   ·rename_i hne
    refine ⟨k2, h2, rfl, rfl, rfl, fun e => ⟨e, hne⟩, .inr rfl, fun e => ⟨e, rfl, fun hf => hne (hw.last1 b k hg hc.1 b2 k2 h2 hf e)⟩, fun hf => ?_⟩
    rcases hw.last b k hg hc.1 b2 k2 h2 hf with h5 | h5
    ·exact .inl h5
    ·exact .inr (by omega)
  | false =>
   rw [hc] at h2
   simp only [Bool.false_eq_true, if_false] at h2
   split at h2
   ·rename_i e; subst e
    simp only [Option.map_some, Option.some.injEq, killObj, if_true] at h2
    split at h2
    ·simp only [VObj.cells.injEq] at h2; subst h2
     exact ⟨k, hg, rfl, rfl, rfl, (fun e => by cases e), .inl rfl, (fun e => by cases e), fun _ => .inl rfl⟩
    ·rename_i hk
     simp only [VObj.cells.injEq] at h2; subst h2
     exact ⟨k, hg, rfl, rfl, rfl, (fun e => by cases e), .inr rfl, (fun e => by cases e), fun _ => .inr (by simp only at hk ⊢; omega)⟩
   ·rename_i hne
    simp only [Option.map_eq_some_iff] at h2
    obtain ⟨o, ho2, hk2⟩ := h2
    cases o with
    | map es => simp [killObj] at hk2
    | cells k0 =>
     simp only [killObj] at hk2
     split at hk2
     ·split at hk2
      ·simp only [VObj.cells.injEq] at hk2; subst hk2
       exact ⟨k0, ho2, rfl, rfl, rfl, fun e => ⟨e, hne⟩, .inl rfl, (fun e => by cases e), fun _ => .inl rfl⟩
      ·rename_i hk
       simp only [VObj.cells.injEq] at hk2; subst hk2
       exact ⟨k0, ho2, rfl, rfl, rfl, fun e => ⟨e, hne⟩, .inr rfl, (fun e => by cases e), fun _ => .inr (by simp only; omega)⟩
     ·rename_i hk
      simp only [VObj.cells.injEq] at hk2; subst hk2
      exact ⟨k0, ho2, rfl, rfl, rfl, fun e => ⟨e, hne⟩, .inr rfl, fun e => ⟨e, rfl, hk⟩, fun hf => absurd hf hk⟩
 refine ⟨g1, back, fun b2 o h2 => ?_⟩
 rw [g1]
 have key : ∀ k2 : Blk, ∃ o', killObj k.fam (k.org + (i + n)) (.cells k2) = o' ∧ (o' = .cells k2 ∨ ∃ k0 k', VObj.cells k2 = .cells k0 ∧ o' = .cells k' ∧ k'.ro = k0.ro ∧ k'.esz = k0.esz ∧ k'.fam = k0.fam ∧ k'.org = k0.org ∧ (k'.es = k0.es ∨ k'.es = [])) := by
  intro k2
  simp only [killObj]
  split
  ·split
   ·exact ⟨_, rfl, .inr ⟨k2, _, rfl, rfl, rfl, rfl, rfl, rfl, .inr rfl⟩⟩
   ·exact ⟨_, rfl, .inr ⟨k2, _, rfl, rfl, rfl, rfl, rfl, rfl, .inl rfl⟩⟩
  ·exact ⟨_, rfl, .inl rfl⟩
 split
 ·rename_i e; subst e
  rw [hg] at h2; simp only [Option.some.injEq] at h2; subst h2
  simp only [Option.map_some]
  split
  ·exact ⟨_, rfl, .inr ⟨k, _, rfl, rfl, rfl, rfl, rfl, rfl, .inl rfl⟩⟩
  ·obtain ⟨o', ho', h5 | ⟨k0, k', e0, e1, e2, e3, e4, e5, e6⟩⟩ := key { k with solo := false, last := false }
   ·refine ⟨o', by rw [ho'], .inr ⟨k, _, rfl, h5, rfl, rfl, rfl, rfl, .inl rfl⟩⟩
   ·simp only [VObj.cells.injEq] at e0; subst e0
    exact ⟨o', by rw [ho'], .inr ⟨k, k', rfl, e1, e2, e3, e4, e5, e6⟩⟩
 ·rw [h2]
  simp only [Option.map_some]
  split
  ·exact ⟨o, rfl, .inl rfl⟩
  ·cases o with
   | map es => exact ⟨_, rfl, .inl rfl⟩
   | cells k2 =>
    obtain ⟨o', ho', h5⟩ := key k2
    exact ⟨o', by rw [ho'], h5⟩
theorem step_open {h : VHeap} {w w' : World} (hR : Rel ρ h.get w) (hw : WF h.get h.next) {b i n z : Nat} {k : Blk} {l : Loc} (hb : ρ b = some l) (hg : h.get b = some (.cells k)) (hro : k.ro = false)
  (hin : i + n ≤ k.es.length) (xs : List (List VV)) (h1 : VHeap)
  (hh1 : h1 = match k.last && Nat.beq (i + n) k.es.length with
   | true => h.put b (.cells { k with solo := false, last := false })
   | false => (h.put b (.cells { k with solo := false, last := false })).kill k.fam (k.org + (i + n)))
  (l' : Loc) (hR1 : Rel ρ h1.get w') (hcase : (w.heap.size ≤ l'.mb) ∨ (l'.mb = l.mb ∧ l'.esz = l.esz ∧ l'.coff = l.coff + i * l.esz))
  (hfresh : w.heap.size ≤ l'.mb → ∀ b2 l2, ρ b2 = some l2 → l2.mb ≠ l'.mb)
  (ho : RelO ρ l' (.cells { es := (k.es.drop i).take n ++ xs, esz := z, fam := k.fam, org := k.org + i, solo := false, last := true, ro := false }) w'.heap[l'.mb]?)
  (hsize : w.heap.size ≤ w'.heap.size) (hold : ∀ B, B < w.heap.size → B ≠ l.mb → w'.heap[B]? = w.heap[B]?) (hos : w'.os = w.os) (htape : w'.tape = w.tape) (hout : w'.output = w.output) :
  Step ρ h.get h.next w (ρ.add h.next l') (h1.push (.cells { es := (k.es.drop i).take n ++ xs, esz := z, fam := k.fam, org := k.org + i, solo := false, last := true, ro := false })).get (h.next + 1) w' := by
 have hlt := VHeap.get_lt hg
 have hnext : h1.next = h.next := by rw [hh1]; cases (k.last && Nat.beq (i + n) k.es.length) <;> rfl
 have hnone := hR.none hw (Nat.le_refl h.next)
 obtain ⟨g1, back, _⟩ := open_back hw hg h1 hh1
 
 have hR2 : Rel (ρ.add h.next l') (h1.push (.cells { es := (k.es.drop i).take n ++ xs, esz := z, fam := k.fam, org := k.org + i, solo := false, last := true, ro := false })).get w' := by
  refine hR1.insert (o := _) hnone (by rw [VHeap.get_push, hnext, if_pos rfl]) (fun b' hb' _ => by rw [VHeap.get_push, hnext, if_neg hb']) ho ?_
  intro b2 l2 o2 h2 hg2 hmb
  rcases hcase with hc | ⟨c1, c2, c3⟩
  ·exact absurd hmb (hfresh hc b2 l2 h2)
  ·have al : ∃ k2, o2 = .cells k2 ∧ k2.fam = k.fam ∧ l2.esz = l.esz ∧ l2.coff + k.org * l2.esz = l.coff + k2.org * l2.esz := by
    by_cases hbb : b2 = b
    ·subst hbb
     rw [hb] at h2; simp only [Option.some.injEq] at h2; subst h2
     obtain ⟨o, ho2, _⟩ := hR1.obj b2 l hb
     rw [ho2] at hg2; simp only [Option.some.injEq] at hg2; subst hg2
     cases o with
     | map es =>
      rw [g1, if_pos rfl] at ho2
      simp only [Option.map_some, Option.some.injEq] at ho2
      split at ho2
      ·cases ho2
      ·simp only [killObj, if_true] at ho2; split at ho2 <;> cases ho2
     | cells k2 =>
      obtain ⟨k0, e0, e1, e2, _⟩ := back b2 k2 ho2
      rw [hg] at e0; simp only [Option.some.injEq, VObj.cells.injEq] at e0; subst e0
      exact ⟨k2, rfl, e1, rfl, by rw [e2]⟩
    ·obtain ⟨ob, hob, _⟩ := hR1.obj b l hb
     obtain ⟨k2, k1, rfl, e1, hto⟩ := hR1.apart b2 b l2 l o2 ob h2 hb hg2 hob hbb (hmb.trans c1)
     subst e1
     obtain ⟨k0, e0, e1, e2, e3, _⟩ := back b k1 hob
     rw [hg] at e0; simp only [Option.some.injEq, VObj.cells.injEq] at e0; subst e0
     rcases hto with ⟨_, h5⟩ | ⟨hf, hez, hal⟩
     ·rw [e3, hro] at h5; cases h5
     ·exact ⟨k2, rfl, hf.trans e1, hez, by rw [e2] at hal; exact hal⟩
   obtain ⟨k2, rfl, hf, hez, hal⟩ := al
   refine ⟨_, k2, rfl, rfl, .inr ⟨hf.symm, c2.trans hez.symm, ?_⟩⟩
   simp only
   rw [c2, c3, Nat.add_mul]
   rw [hez] at hal
   omega
 have hWF : WF (h1.push (.cells { es := (k.es.drop i).take n ++ xs, esz := z, fam := k.fam, org := k.org + i, solo := false, last := true, ro := false })).get (h.next + 1) := by
  refine ⟨fun b2 o2 h2 => ?_, fun b2 k2 h2 => ?_, fun b2 k2 h2 hs b3 k3 h3 hne => ?_, fun b2 k2 h2 hl b3 k3 h3 hf => ?_, fun b2 k2 h2 hl b3 k3 h3 hf hl3 => ?_⟩
  ·have := VHeap.get_lt h2
   simpa [hnext] using this
  ·rw [VHeap.get_push, hnext] at h2
   split at h2
   ·simp only [Option.some.injEq, VObj.cells.injEq] at h2; subst h2
    have := hw.fam b k hg
    simp only; omega
   ·obtain ⟨k0, e0, e1, _⟩ := back b2 k2 h2
    have := hw.fam b2 k0 e0
    omega
  ·rw [VHeap.get_push, hnext] at h2 h3
   split at h2
   ·simp only [Option.some.injEq, VObj.cells.injEq] at h2; subst h2; cases hs
   ·obtain ⟨k0, e0, e1, _, _, e4, _⟩ := back b2 k2 h2
    obtain ⟨hs0, hnb⟩ := e4 hs
    split at h3
    ·simp only [Option.some.injEq, VObj.cells.injEq] at h3; subst h3
     simp only [e1]
     exact hw.solo b2 k0 e0 hs0 b k hg (Ne.symm hnb)
    ·obtain ⟨k1, f0, f1, _⟩ := back b3 k3 h3
     rw [e1, f1]
     exact hw.solo b2 k0 e0 hs0 b3 k1 f0 hne
  ·rw [VHeap.get_push, hnext] at h2 h3
   split at h2
   ·simp only [Option.some.injEq, VObj.cells.injEq] at h2; subst h2
    split at h3
    ·simp only [Option.some.injEq, VObj.cells.injEq] at h3; subst h3
     exact .inr (Nat.le_refl _)
    ·obtain ⟨k1, _, _, _, _, _, _, _, f7⟩ := back b3 k3 h3
     rcases f7 hf with h5 | h5
     ·exact .inl h5
     ·refine .inr ?_
      simp only [List.length_append, List.length_take, List.length_drop]
      omega
   ·obtain ⟨k0, e0, e1, e2, _, _, _, e6, _⟩ := back b2 k2 h2
    obtain ⟨hl0, hes, hnf⟩ := e6 hl
    split at h3
    ·rename_i e
     simp only [Option.some.injEq, VObj.cells.injEq] at h3; subst h3
     exact absurd hf.symm hnf
    ·obtain ⟨k1, f0, f1, f2, _, _, f5, _⟩ := back b3 k3 h3
     rcases hw.last b2 k0 e0 hl0 b3 k1 f0 (by rw [← e1, ← f1]; exact hf) with h5 | h5
     ·rcases f5 with f5 | f5
      ·exact .inl f5
      ·exact .inl (by rw [f5]; exact h5)
     ·rcases f5 with f5 | f5
      ·exact .inl f5
      ·exact .inr (by rw [f5, hes, e2, f2]; exact h5)
  ·rw [VHeap.get_push, hnext] at h2 h3
   split at h2
   ·rename_i e2
    split at h3
    ·rename_i e3; exact e3.trans e2.symm
    ·simp only [Option.some.injEq, VObj.cells.injEq] at h2; subst h2
     obtain ⟨k1, _, _, _, _, _, _, f6, _⟩ := back b3 k3 h3
     exact absurd hf (f6 hl3).2.2
   ·obtain ⟨k0, e0, e1, _, _, _, _, e6, _⟩ := back b2 k2 h2
    split at h3
    ·simp only [Option.some.injEq, VObj.cells.injEq] at h3; subst h3
     exact absurd hf.symm (e6 hl).2.2
    ·obtain ⟨k1, f0, f1, _, _, _, _, f6, _⟩ := back b3 k3 h3
     exact hw.last1 b2 k0 e0 (e6 hl).1 b3 k1 f0 (by rw [← e1, ← f1]; exact hf) (f6 hl3).1
 have hfwd : ∀ b2 k2, h.get b2 = some (.cells k2) → ∃ k3, h1.get b2 = some (.cells k3) ∧ k3.ro = k2.ro := by
  intro b2 k2 h2
  rw [g1]
  split
  ·rename_i e; subst e
   rw [hg] at h2; simp only [Option.some.injEq, VObj.cells.injEq] at h2; subst h2
   simp only [Option.map_some]
   split
   ·exact ⟨_, rfl, rfl⟩
   ·simp only [killObj, if_true]
    split
    ·exact ⟨_, rfl, rfl⟩
    ·exact ⟨_, rfl, rfl⟩
  ·rw [h2]
   simp only [Option.map_some]
   split
   ·exact ⟨_, rfl, rfl⟩
   ·simp only [killObj]
    split
    ·split
     ·exact ⟨_, rfl, rfl⟩
     ·exact ⟨_, rfl, rfl⟩
    ·exact ⟨_, rfl, rfl⟩
 refine ⟨hR, hR2, hWF, Ren.le_add hnone, Nat.le_succ _, hos, htape, hout, hsize, fun B hB hall => ?_, fun b2 l2 h2 => ?_, fun b2 k2 h2 => ?_, fun b2 es h2 => ?_⟩
 ·refine hold B hB fun e => ?_
  obtain ⟨k1, hk1, hr1⟩ := hall b l hb e.symm
  rw [hg] at hk1; simp only [Option.some.injEq, VObj.cells.injEq] at hk1; subst hk1
  rw [hro] at hr1; cases hr1
 ·unfold Ren.add at h2
  split at h2
  ·rename_i e; subst e
   simp only [Option.some.injEq] at h2; subst h2
   rcases hcase with hc | ⟨c1, _, _⟩
   ·exact .inr ⟨Nat.le_refl _, .inl hc⟩
   ·exact .inr ⟨Nat.le_refl _, .inr ⟨b, l, k, hb, c1.symm, hg, hro⟩⟩
  ·exact .inl h2
 ·obtain ⟨k3, h3, e3⟩ := hfwd b2 k2 h2
  refine ⟨k3, ?_, e3⟩
  rw [VHeap.get_push, hnext, if_neg (by have := VHeap.get_lt h2; omega)]
  exact h3
 ·refine ⟨es, ?_⟩
  rw [VHeap.get_push, hnext, if_neg (by have := VHeap.get_lt h2; omega), g1, if_neg (fun e => by subst e; rw [hg] at h2; cases h2), h2]
  simp only [Option.map_some]
  split <;> rfl
end
end Go.Proofs.Ythlbahcggmbfaaa.V

namespace Go.Proofs.Ythlbahcggmbfaaa.V
open Go.RowKit
section
variable {P : Program} {ρ : Ren} {w : World}
theorem rel_of_drew {g : Nat → Option VObj} (hR : Rel ρ g w) : Rel ρ g w.drew := ⟨hR.obj, hR.apart⟩
theorem step_row {h : VHeap} {w' : World} (hR : Rel ρ h.get w) (hw : WF h.get h.next) (es : List (List VV)) (z : Nat) (c : Array Value) (t : TypeId) (hN : NewBlk w w' (.cells c t (0, 0)))
  (h0 : 0 < z) (hin : es.length * z ≤ c.size)
  (hc : ∀ (i : Nat) cs, es[i]? = some cs → cs.length = z ∧ cs.all oneCell = true ∧ ∀ (j : Nat) v, cs[j]? = some v → ∃ mv, c[i * z + j]? = some mv ∧ RelV ρ v mv) :
  Step ρ h.get h.next w (ρ.add h.next ⟨w.heap.size, 0, z, c.size, false⟩) (fresh h es z).get (fresh h es z).next w' :=
 step_new hR hw _ _ hN ⟨w.heap.size, 0, z, c.size, false⟩ rfl
  (.cells _ c t (0, 0) (fun _ => rfl) rfl rfl h0 (by simpa using hin) (fun _ x _ => by simp) (fun i cs hcs => by
   obtain ⟨a, b, d⟩ := hc i cs hcs
   exact ⟨a, b, fun j v hv => by simpa using d j v hv⟩)) (fun k hk => by cases hk; rfl)
theorem append_sound {h h' : VHeap} {t u el ty : TypeId} {d : TypeDesc} {s x v : VV} {ms mx : Value} {xs : List (List VV)} (hop : vappend P t s xs h = some (v, h')) (he : elemsOf (P.cellsOf el) h x = some xs)
  (ht : P.underlying t = some (.slice el)) (hu : P.underlying u = some d) (hd : (∃ e', d = .slice e') ∨ d = .string) (hs : RelV ρ s ms) (hx : RelV ρ x mx) (hR : Rel ρ h.get w) (hw : WF h.get h.next) :
  ∃ mv ρ' w', (Builtin.append_ #[t, u] ty #[ms, mx]).run P w = .ok mv w' ∧ Step ρ h.get h.next w ρ' h'.get h'.next w' ∧ RelV ρ' v mv := by
 obtain ⟨hlen, hxs, news, hnews, hfirst, _⟩ := src_sound (P := P) he hx hR (fun _ _ _ h => h)
 obtain ⟨_, _, news2, hnews2, hfirst2, _⟩ := src_sound (P := P) he hx (rel_of_drew hR) (fun _ _ _ h => h)
 unfold vappend at hop
 rw [ht] at hop
 simp only at hop
 cases hz : vzero P el with
 | none => rw [hz] at hop; cases hop
 | some zz =>
 rw [hz] at hop
 simp only at hop
 obtain ⟨inf, zv, hi, hzv, hrz, hzone, hzlen⟩ := zero_sound (ρ := ρ) hz
 have hzsz : zv.cells.size = P.cellsOf el := by
  have := (hrz.cells (notUndef hzone)).1
  simp at this; omega
 split at hop
 ·cases hop
 rename_i h0
 have hnl : news.length = xs.length * P.cellsOf el := by rw [← hnews.1, flatten_length _ xs (fun cs hcs => (hxs cs hcs).1)]
 have hnl2 : news2.length = xs.length * P.cellsOf el := by rw [← hnews2.1, flatten_length _ xs (fun cs hcs => (hxs cs hcs).1)]
 have h0xs : xs.length = 0 → xs = [] := List.eq_nil_of_length_eq_zero
 split at hop
 · 
  cases hs
  split at hop
  ·rename_i hm
   simp only [Option.some.injEq, Prod.mk.injEq] at hop
   obtain ⟨rfl, rfl⟩ := hop
   have hxe := h0xs hm
   subst hxe
   have hne : news = [] := by simpa using hnl
   subst hne
   exact ⟨_, ρ, w, run_append_none ht hu hd hi hlen (Nat.le_refl _) hfirst rfl, Step.refl hR hw, .nilslice⟩
  ·rename_i hm
   have hpos : xs.length ≠ 0 := hm
   split at hop
   ·rename_i hb
    simp only [Option.some.injEq, Prod.mk.injEq] at hop
    obtain ⟨rfl, rfl⟩ := hop
    have hrun := run_append_grows (w := w) (ty := ty) (base := none) (sLen := 0) (sCap := 0) (old := #[]) ht hu hd hi hzv hlen (by omega) (by simpa using hb.1) (by simpa using hb.2) (by simp [Builtin.firstCells]) hfirst2
    rw [Nat.zero_add] at hrun
    have hge := grownCap_ge w xs.length 0 el
    have hle := grownCap_le_maxLen w xs.length 0 el (by have := hb.2; unfold maxBytes at this; unfold maxLen; omega)
    have hsz : (#[] ++ news2.toArray ++ Builtin.zeroCells zv.cells (grownCap w xs.length 0 el - xs.length)).size = grownCap w xs.length 0 el * P.cellsOf el := by
     simp only [Array.empty_append, Array.size_append, List.size_toArray, hnl2, size_zeroCells, hzsz, ← Nat.add_mul]
     congr 1; omega
    have hstep := step_row (w' := w.drew.alloc (.cells (#[] ++ news2.toArray ++ Builtin.zeroCells zv.cells (grownCap w xs.length 0 el - xs.length)) el)) hR hw xs (P.cellsOf el) _ el
     ⟨by simp, by rw [show w.heap.size = w.drew.heap.size from rfl, heap_alloc_new], fun k hk => Below.heap_alloc w.drew _ k hk, rfl, rfl, rfl⟩ (by omega) (by rw [hsz]; exact Nat.mul_le_mul_right _ hge)
     (by
      have := grown_cells (ρ := ρ) (xs := []) (ys := xs) (z := P.cellsOf el) (old := #[]) (new := news2.toArray) (rest := Builtin.zeroCells zv.cells (grownCap w xs.length 0 el - xs.length)) (by simp) hxs (RelL.nil ρ) (by simpa using hnews2)
      simpa using this)
    refine ⟨_, _, _, hrun, hstep, ?_⟩
    refine RelV.slice h.next 0 xs.length none _ ⟨w.heap.size, 0, P.cellsOf el, (#[] ++ news2.toArray ++ Builtin.zeroCells zv.cells (grownCap w xs.length 0 el - xs.length)).size, false⟩ _ _ (by simp [Ren.add]) rfl hge hle (fun k hk => by cases hk) (fun _ _ => ?_) (.inl (by simp [addrAt]))
    simp only [Nat.zero_add]
    exact hsz.symm
   ·cases hop
 · 
  rename_i b i n c z'
  cases hs with
  | slice _ _ _ _ _ l a mcap hb hlz hn hm hc ho ha =>
  split at hop
  ·rename_i hxl
   split at hop
   ·rename_i hz'
    subst hz'
    simp only [Option.some.injEq, Prod.mk.injEq] at hop
    obtain ⟨rfl, rfl⟩ := hop
    have hxe := h0xs hxl
    subst hxe
    have hne : news = [] := by simpa using hnl
    subst hne
    exact ⟨_, ρ, w, run_append_none ht hu hd hi hlen hn hfirst rfl, Step.refl hR hw, .slice b i n c _ l a mcap hb hlz hn hm hc ho ha⟩
   ·cases hop
  ·rename_i hxl
   have hpos : xs.length ≠ 0 := hxl
   split at hop
   ·rename_i k hg
    split at hop
    ·cases hop
    rename_i hcond
    simp only [not_or, Decidable.not_not, Nat.not_lt] at hcond
    obtain ⟨hz', hkz, hin⟩ := hcond
    subst hz'
    obtain ⟨o, hgo, hro⟩ := hR.obj b l hb
    rw [hg] at hgo; simp only [Option.some.injEq] at hgo; subst hgo
    have hro0 := hro
    generalize hmo : w.heap[l.mb]? = mo at hro0
    cases hro0 with
    | cells k mc mt fr hr0 hs0 hke hp0 hkin hfr hcl =>
    have hadd : ∀ q, a = addrAt l i 0 → a.add (q * P.cellsOf el) = addrAt l (i + q) 0 := fun q e => by rw [e, ← hlz, addrAt_row]
    
    have inplace : n + xs.length ≤ mcap → k.ro = false → i + n + xs.length ≤ k.es.length → (n + xs.length ≤ mcap → a = addrAt l i 0) → (∀ q, c = some q → n + xs.length ≤ q) →
      ∃ mv ρ' w', (Builtin.append_ #[t, u] ty #[.slice (some a) n mcap, mx]).run P w = .ok mv w' ∧
       Step ρ h.get h.next w ρ' ((match k.solo with | true => h | false => h.kill k.fam (k.org + (i + n))).put b (.cells { k with es := k.es.take (i + n) ++ xs ++ k.es.drop (i + n + xs.length) })).get
        ((match k.solo with | true => h | false => h.kill k.fam (k.org + (i + n))).put b (.cells { k with es := k.es.take (i + n) ++ xs ++ k.es.drop (i + n + xs.length) })).next w' ∧ RelV ρ' (.slice b i (n + xs.length) c (P.cellsOf el)) mv := by
     intro hfit hkro hroom haddr hcq
     have ha' := haddr hfit
     obtain ⟨w', hst, hstep⟩ := step_splice (P := P) hR hw hb hg hkro (i + n) xs hroom (fun cs hcs => ⟨(hxs cs hcs).1.trans hkz.symm, (hxs cs hcs).2⟩) news hnews
     refine ⟨_, ρ, w', run_append_fits ht hu hd hi hlen hfit hfirst (by rw [hadd n ha']; simpa using hst), hstep, ?_⟩
     exact .slice b i _ c _ l a mcap hb hlz hfit hm hc ho (.inl ha')
    
    have oldE : ((k.es.drop i).take n).length = n := by simp; omega
    have grow : mcap < n + xs.length → (n + xs.length) * P.bytesOf el ≤ maxBytes → n + xs.length ≤ maxBytes →
      ∃ mcap' C, (Builtin.append_ #[t, u] ty #[.slice (some a) n mcap, mx]).run P w = .ok (.slice (some ⟨w.heap.size, 0, none⟩) (n + xs.length) mcap') (w.drew.alloc (.cells C el)) ∧ n + xs.length ≤ mcap' ∧ mcap' ≤ maxLen ∧ C.size = mcap' * P.cellsOf el ∧
       ∀ (j : Nat) cs, ((k.es.drop i).take n ++ xs)[j]? = some cs → cs.length = P.cellsOf el ∧ cs.all oneCell = true ∧ ∀ (q : Nat) v, cs[q]? = some v → ∃ mv, C[j * P.cellsOf el + q]? = some mv ∧ RelV ρ v mv := by
     intro hgr hb1 hb2
     have hel : elemsOf (P.cellsOf el) h (.slice b i n c (P.cellsOf el)) = some ((k.es.drop i).take n) := by
      simp only [elemsOf, hg, true_and]
      rw [if_pos hin]
     obtain ⟨_, holds, olds, holdrel, holdfirst, _⟩ := src_sound (P := P) hel (.slice b i n c _ l a mcap hb hlz hn hm hc ho ha) (rel_of_drew hR) (fun _ _ _ h => h)
     rw [oldE] at holdfirst
     have hol : olds.length = n * P.cellsOf el := by rw [← holdrel.1, flatten_length _ _ (fun cs hcs => (holds cs hcs).1), oldE]
     have hrun := run_append_grows (w := w) (ty := ty) (base := some a) (sLen := n) (sCap := mcap) (old := olds.toArray) ht hu hd hi hzv hlen hgr hb1 hb2 holdfirst hfirst2
     refine ⟨_, _, hrun, grownCap_ge w _ _ el, grownCap_le_maxLen w _ _ el (by unfold maxBytes at hb2; unfold maxLen; omega), ?_, grown_cells holds hxs (by simpa using holdrel) (by simpa using hnews2)⟩
     have hge := grownCap_ge w (n + xs.length) mcap el
     simp only [Array.size_append, List.size_toArray, hol, hnl2, size_zeroCells, hzsz, ← Nat.add_mul]
     congr 1; omega
    have opencap : c = none → k.ro = false → l.coff + (i + mcap) * l.esz = l.msz := fun e1 e2 => ho e1 (hr0 e2)
    split at hop
    · 
     rename_i hroom
     split at hop
     ·cases hop
     rename_i hcond2
     simp only [not_or, Nat.not_lt, Bool.not_eq_true] at hcond2
     simp only [Option.some.injEq, Prod.mk.injEq] at hop
     obtain ⟨rfl, rfl⟩ := hop
     have hfit : n + xs.length ≤ mcap := by
      cases c with
      | some q => have := Nat.le_of_ble_eq_true hroom; rw [hc q rfl]; exact this
      | none =>
       have h1 := Nat.le_of_ble_eq_true hroom
       have h2 := opencap rfl hcond2.1
       have h3 : (i + n + xs.length) * l.esz ≤ k.es.length * l.esz := Nat.mul_le_mul_right _ h1
       have h4 : (i + n + xs.length) * l.esz ≤ (i + mcap) * l.esz := by omega
       have := Nat.le_of_mul_le_mul_right h4 hp0
       omega
     refine inplace hfit hcond2.1 hcond2.2 (fun _ => ?_) (fun q e => by subst e; exact Nat.le_of_ble_eq_true hroom)
     rcases ha with ha | ⟨e1, e2, _⟩
     ·exact ha
     ·omega
    ·rename_i hroom
     split at hop
     ·cases hop
     rename_i hcond2
     simp only [not_or, Nat.not_lt] at hcond2
     cases c with
     | some q =>
      simp only [Option.some.injEq, Prod.mk.injEq] at hop
      obtain ⟨rfl, rfl⟩ := hop
      have hgr : mcap < n + xs.length := by
       rw [hc q rfl]
       rcases Nat.lt_or_ge q (n + xs.length) with h5 | h5
       ·exact h5
       ·simp only [Nat.ble_eq_true_of_le h5] at hroom; cases hroom
      obtain ⟨mcap', C, hrun, k1, k2, k3, k4⟩ := grow hgr hcond2.1 hcond2.2
      have hstep := step_row (w' := w.drew.alloc (.cells C el)) hR hw ((k.es.drop i).take n ++ xs) (P.cellsOf el) C el
       ⟨by simp, by rw [show w.heap.size = w.drew.heap.size from rfl, heap_alloc_new], fun k hk => Below.heap_alloc w.drew _ k hk, rfl, rfl, rfl⟩ (by omega)
       (by rw [k3, List.length_append, oldE]; exact Nat.mul_le_mul_right _ k1) k4
      refine ⟨_, _, _, hrun, hstep, ?_⟩
      refine RelV.slice h.next 0 (n + xs.length) none _ ⟨w.heap.size, 0, P.cellsOf el, C.size, false⟩ _ _ (by simp [Ren.add]) rfl k1 k2 (fun k hk => by cases hk) (fun _ _ => ?_) (.inl (by simp [addrAt]))
      simp only [Nat.zero_add]
      exact k3.symm
     | none =>
      simp only at hop
      split at hop
      ·cases hop
      rename_i hkro
      have hkro : k.ro = false := by simpa using hkro
      simp only [Option.some.injEq, Prod.mk.injEq] at hop
      obtain ⟨rfl, hh'⟩ := hop
      obtain ⟨h1, hh1⟩ : ∃ h1 : VHeap, (match k.last && Nat.beq (i + n) k.es.length with
       | true => h.put b (.cells { k with solo := false, last := false })
       | false => (h.put b (.cells { k with solo := false, last := false })).kill k.fam (k.org + (i + n))) = h1 := ⟨_, rfl⟩
      have hh2 : h' = h1.push (.cells { es := (k.es.drop i).take n ++ xs, esz := P.cellsOf el, fam := k.fam, org := k.org + i, solo := false, last := true, ro := false }) := by
       rw [← hh1, ← hh']
       all_goals (cases (k.last && Nat.beq (i + n) k.es.length) <;> rfl)
      subst hh2
      clear hh'
      obtain ⟨g1, back, soft⟩ := open_back hw hg h1 hh1.symm
      have hnext : h1.next = h.next := by rw [← hh1]; cases (k.last && Nat.beq (i + n) k.es.length) <;> rfl
      have hR1 := hR.soft soft
      have hlro := hr0 hkro
      have hopen := opencap rfl hkro
      by_cases hfit : n + xs.length ≤ mcap
      ·have ha' : a = addrAt l i 0 := by
        rcases ha with ha | ⟨e1, e2, _⟩
        ·exact ha
        ·omega
       have hmul : (i + (n + xs.length)) * l.esz ≤ (i + mcap) * l.esz := Nat.mul_le_mul_right _ (by omega)
       have hmul2 : (i + n) * l.esz + xs.length * l.esz = (i + (n + xs.length)) * l.esz := by rw [← Nat.add_mul]; congr 1; omega
       have hnl' : news.length = xs.length * l.esz := by rw [hnl, hlz]
       obtain ⟨w', c', hst, honly, hh, hsz, hlo, hhi, hmid⟩ := run_storeCells P l.mb (l.coff + (i + n) * l.esz) mt fr news 0 mc w hmo (by rw [hnl', hs0]; omega) (by rw [hs0]; exact hfr hkro) (hnews.one (flatten_one fun cs hcs => (hxs cs hcs).2))
       simp only [Nat.add_zero] at hlo hhi hmid
       obtain ⟨ob, hob, _⟩ := hR1.obj b l hb
       obtain ⟨k1, hk1⟩ : ∃ k1, ob = .cells k1 := by
        obtain ⟨o', ho', h5 | ⟨_, k', _, e1, _⟩⟩ := soft b _ hg
        ·rw [hob] at ho'; simp only [Option.some.injEq] at ho'; exact ⟨k, ho'.trans h5⟩
        ·rw [hob] at ho'; simp only [Option.some.injEq] at ho'; exact ⟨k', ho'.trans e1⟩
       subst hk1
       obtain ⟨k0, e0, e1, e2, e3, _⟩ := back b k1 hob
       rw [hg] at e0; simp only [Option.some.injEq, VObj.cells.injEq] at e0; subst e0
       have hRw : Rel ρ h1.get w' := hR1.beyond hb hob (e3.trans hkro) (i + n) (fun b2 k2 h2 hf => by
        obtain ⟨_, _, _, _, _, _, _, _, f7⟩ := back b2 k2 h2
        rw [e2]
        exact f7 (hf.trans e1)) hmo hsz hlo hh honly
       have hstep := step_open (z := P.cellsOf el) hR hw hb hg hkro hin xs h1 hh1.symm ⟨l.mb, l.coff + i * l.esz, l.esz, l.msz, l.ro⟩ hRw (.inr ⟨rfl, rfl, rfl⟩)
        (fun hc => by have := hR.lt hb; simp only at hc; omega)
        (by
         rw [hh]
         refine .cells _ c' mt fr (fun _ => hlro) (hsz.trans hs0) hlz.symm hp0 ?_ (fun _ => hfr hkro) ?_
         ·simp only [List.length_append, oldE]
          rw [Nat.add_mul] at hmul
          omega
         ·intro j cs hcs
          by_cases hj : j < n
          ·rw [List.getElem?_append_left (by omega), List.getElem?_take, if_pos hj, List.getElem?_drop] at hcs
           obtain ⟨a1, a2, a3⟩ := hcl _ cs hcs
           refine ⟨a1, a2, fun q u hq => ?_⟩
           obtain ⟨mv, q1, q2⟩ := a3 q u hq
           refine ⟨mv, ?_, q2⟩
           have hq' : q < l.esz := by rw [← a1]; exact (List.getElem?_eq_some_iff.1 hq).1
           have hj2 : (i + j + 1) * l.esz ≤ (i + n) * l.esz := Nat.mul_le_mul_right _ (by omega)
           simp only [Nat.add_mul, Nat.one_mul] at hj2 q1 ⊢
           rw [hlo _ (by rw [Nat.add_mul]; omega), ← q1]
           congr 1
           omega
          ·rw [List.getElem?_append_right (by omega), oldE] at hcs
           obtain ⟨a1, a2⟩ := hxs cs (List.mem_of_getElem? hcs)
           refine ⟨a1.trans hlz.symm, a2, fun q u hq => ?_⟩
           have hfl := flatten_get (P.cellsOf el) xs (j - n) q cs u (fun cs hcs => (hxs cs hcs).1) hcs hq
           obtain ⟨mv, q1, q2⟩ := hnews.at hfl
           refine ⟨mv, ?_, q2⟩
           rw [← hmid _ mv q1]
           congr 1
           have hj2 : (i + j) * l.esz = (i + n) * l.esz + (j - n) * l.esz := by rw [← Nat.add_mul]; congr 1; omega
           rw [Nat.add_mul] at hj2
           simp only
           rw [← hlz]
           omega)
        (by rw [honly.size]; exact Nat.le_refl _) (fun B _ hne => honly.other B hne) honly.os honly.tape honly.output
       refine ⟨_, _, w', run_append_fits ht hu hd hi hlen hfit hfirst (by rw [hadd n ha']; simpa [addrAt] using hst), by simpa [hnext] using hstep, ?_⟩
       refine RelV.slice h.next 0 (n + xs.length) none _ ⟨l.mb, l.coff + i * l.esz, l.esz, l.msz, l.ro⟩ _ _ (by simp [Ren.add]) hlz hfit hm (fun k hk => by cases hk) (fun _ _ => ?_) (.inl ?_)
       ·simp only [Nat.zero_add]
        rw [Nat.add_mul] at hopen
        omega
       ·rw [ha']; simp [addrAt]
      ·obtain ⟨mcap', C, hrun, k1, k2, k3, k4⟩ := grow (by omega) hcond2.1 hcond2.2
       have hRw : Rel ρ h1.get (w.drew.alloc (.cells C el)) := hR1.world fun k hk => Below.heap_alloc w.drew _ k hk
       have hstep := step_open (z := P.cellsOf el) hR hw hb hg hkro hin xs h1 hh1.symm ⟨w.heap.size, 0, P.cellsOf el, C.size, false⟩ hRw (.inl (Nat.le_refl _))
        (fun _ b2 l2 h2 e => by have := hR.lt h2; simp only at e; omega)
        (by
         rw [show w.heap.size = w.drew.heap.size from rfl, heap_alloc_new]
         refine .cells _ C el (0, 0) (fun _ => rfl) rfl rfl (by simp only; omega) ?_ (fun _ x _ => by simp) ?_
         ·simp only [List.length_append, oldE, Nat.zero_add, k3]
          exact Nat.mul_le_mul_right _ k1
         ·intro j cs hcs
          obtain ⟨a1, a2, a3⟩ := k4 j cs hcs
          exact ⟨a1, a2, fun q u hq => by simpa using a3 q u hq⟩)
        (by simp) (fun B hB _ => Below.heap_alloc w.drew _ B hB) rfl rfl rfl
       refine ⟨_, _, _, hrun, by simpa [hnext] using hstep, ?_⟩
       refine RelV.slice h.next 0 (n + xs.length) none _ ⟨w.heap.size, 0, P.cellsOf el, C.size, false⟩ _ _ (by simp [Ren.add]) rfl k1 k2 (fun k hk => by cases hk) (fun _ _ => ?_) (.inl (by simp [addrAt]))
       simp only [Nat.zero_add]
       exact k3.symm
   ·cases hop
 ·cases hop
end
end Go.Proofs.Ythlbahcggmbfaaa.V

