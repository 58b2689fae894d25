import Derived.Orders
import Derived.Tactics
import Derived.Laws.World
import Derived.Laws.Rows
import Derived.Laws.Cells
import Derived.Below
import Derived.MapKept
import Derived.Laws.Slices
import Derived.Laws.Small
import Derived.Laws.StructEq
import Derived.Laws.Strings
import Derived.ChangeKeysEq
import Derived.Laws.IdiomMaps
import Derived.Laws.Build
import Derived.Laws.BytesString
import Derived.Lib.ConvBytes
import Derived.Laws.MakeOwn
set_option linter.unusedVariables false
set_option linter.unusedSimpArgs false

namespace Go.Proofs.Ythlbahcggmbfaaa
theorem U0.{u} {α : Type u} (a b : α) : (some a = some b) = (a = b) := Option.some.injEq a b
theorem B6 {n m : Nat} (h : Nat.beq n m = true) : n = m := Nat.eq_of_beq_eq_true h
end Go.Proofs.Ythlbahcggmbfaaa
namespace Go.Proofs.Ythlbahcggmbfaaa.V
inductive VV where
 | undef
 | bool (b : Bool)
 | int (k : IntKind) (n : Int)
 | str (s : ByteArray)
 | I2
 | ptr (b i f : Nat)
 | nilslice
 | slice (b i n : Nat) (c : Option Nat) (z : Nat)
 | A3
 | map (b : Nat)
 | D3
 | func (fn : Fn) (first Il : List VV)
 | I1
 | iface (t : TypeId) (v : VV)
 | agg (cs : List VV)
 | tuple (vs : List VV)
 deriving Inhabited
structure Es where
 es : List (List VV)
 L3 : Nat
 Q1 : Nat
 E5 : Nat
 Q2 : Bool
 last : Bool
 ro : Bool
inductive F2 where
 | cells (k : Es)
 | map (es : List (VV × VV))
inductive DC where
 | nil
 | node (l : DC) (v : Option F2) (r : DC)
def DC.find : DC -> Nat -> Option F2
 | .nil, _ => none
 | .node l v r, n =>
  match Nat.beq n 0 with
  | true => v
  | false => match Nat.beq (n % 2) 1 with
   | true => l.find (n / 2)
   | false => r.find (n / 2 - 1)
def DC.ins : Nat -> DC -> Nat -> F2 -> DC
 | 0, t, _, _ => t
 | k + 1, t, n, o =>
  let (l, v, r) := match t with
   | .nil => (DC.nil, none, DC.nil)
   | .node l v r => (l, v, r)
  match Nat.beq n 0 with
  | true => .node l (some o) r
  | false => match Nat.beq (n % 2) 1 with
   | true => .node (DC.ins k l (n / 2) o) v r
   | false => .node l v (DC.ins k r (n / 2 - 1) o)
def DC.map (f : F2 -> F2) : DC -> DC
 | .nil => .nil
 | .node l v r => .node (l.map f) (v.map f) (r.map f)
structure A0 where
 next : Nat
 X5 : DC
def A0.empty : A0 := ⟨0, .nil⟩
def A0.get (h : A0) (b : Nat) : Option F2 := match Nat.ble h.next b with | true => none | false => h.X5.find b
def A0.put (h : A0) (b : Nat) (o : F2) : A0 := ⟨h.next, h.X5.ins (b + 1) b o⟩
def A0.push (h : A0) (o : F2) : A0 := ⟨h.next + 1, h.X5.ins (h.next + 1) h.next o⟩
def D5 (Q1 lo : Nat) : F2 -> F2
 | .cells k => if k.Q1 = Q1 then (if lo < k.E5 + k.es.length then .cells { k with es := [], last := false } else .cells { k with last := false }) else .cells k
 | o => o
def A0.kill (h : A0) (Q1 lo : Nat) : A0 := ⟨h.next, h.X5.map (D5 Q1 lo)⟩
abbrev Env := List VV
def Env.get (e : Env) (t : Nat) : VV := e.getD t .undef
def Env.set : Env -> Nat -> VV -> Env
 | [], 0, v => [v]
 | [], n + 1, v => .undef :: Env.set [] n v
 | _ :: e, 0, v => v :: e
 | x :: e, n + 1, v => x :: Env.set e n v
def Env.put (e : Env) (d : Option Tmp) (v : VV) : Env := match d with | some t => Env.set e t v | none => e
def n5 : Nat -> Value -> Option VV
 | 0, _ => none
 | _ + 1, .bool b => some (.bool b)
 | _ + 1, .int k n => some (.int k n)
 | _ + 1, .string s => some (.str s)
 | _ + 1, .pointer none => some .I2
 | _ + 1, .slice none 0 0 => some .nilslice
 | _ + 1, .map none => some .A3
 | _ + 1, .nilFunc => some .D3
 | _ + 1, .nilIface => some .I1
 | d + 1, .agg cs => (cs.toList.mapM (n5 d)).map .agg
 | _, _ => none
def ev (e : Env) : Operand -> VV
 | .tmp t => e.get t
 | .const v => (n5 3 v).getD .undef
 | .global _ => .undef
 | .func f => .func (.func f) [] []
def C1 : VV -> List VV
 | .agg cs => cs
 | v => [v]
section types
variable (P : Program)
def H2 : VV -> Bool
 | .agg _ | .tuple _ | .undef => false
 | _ => true
def D6 (t : TypeId) : Option VV :=
 match ((P.info? t).bind (·.zero)).bind (n5 3) with
 | some z => if (C1 z).all H2 /\ (C1 z).length = P.cellsOf t then some z else none
 | none => none
def B5 (t : TypeId) (cs : List VV) : Option VV :=
 match P.underlying t with
 | some (.struct _) => some (.agg cs)
 | some (.array _ _) => some (.agg cs)
 | some _ => match cs with
  | [v] => some v
  | _ => none
 | none => none
def l9 (t : TypeId) (cs : List VV) (off : Nat) : Option VV :=
 if off + P.cellsOf t <= cs.length then B5 P t ((cs.drop off).take (P.cellsOf t)) else none
def rd (h : A0) (b i f n : Nat) : Option (List VV) :=
 match h.get b with
 | some (.cells k) => match k.es[i]? with
  | some c => if f + n <= c.length then some ((c.drop f).take n) else none
  | none => none
 | _ => none
def wr (h : A0) (b i f : Nat) (vs : List VV) : Option A0 :=
 match h.get b with
 | some (.cells k) => match k.es[i]?, k.ro with
  | some c, false =>
   if f + vs.length <= c.length then
    let o := F2.cells { k with es := k.es.set i (c.take f ++ vs ++ c.drop (f + vs.length)) }
    match k.Q2 with
    | true => some (h.put b o)
    | false => some ((h.kill k.Q1 (k.E5 + i)).put b o)
   else none
  | _, _ => none
 | _ => none
def AY (t : TypeId) (h : A0) : VV -> Option VV
 | .ptr b i f => (rd h b i f (P.cellsOf t)).bind (B5 P t)
 | _ => none
def CE (t : TypeId) (h : A0) (a v : VV) : Option A0 :=
 match a with
 | .ptr b i f => if (C1 v).length = P.cellsOf t /\ (C1 v).all H2 /\ P.cellsOf t ≠ 0 then wr h b i f (C1 v) else none
 | _ => none
def fresh (h : A0) (es : List (List VV)) (L3 : Nat) : A0 :=
 h.push (.cells { es, L3, Q1 := h.next, E5 := 0, Q2 := true, last := true, ro := false })
def DA (place : Nat -> Option (Nat × Nat)) (cells : List VV) : List (Nat × VV) -> Option (List VV)
 | [] => some cells
 | (i, v) :: rest =>
  match place i with
  | none => none
  | some (off, size) =>
   if (C1 v).length ≠ size \/ off + size > cells.length \/ (C1 v).all H2 = false then none
   else DA place (cells.take off ++ C1 v ++ cells.drop (off + size)) rest
def fieldsOf (t : TypeId) : Option (Array Field) := match P.underlying t with | some (.struct fs) => some fs | _ => none
def Ix (t : TypeId) (parts : List (Nat × VV)) : Option VV :=
 match D6 P t with
 | some z => match P.underlying t with
  | some (.struct fs) => if fs.toList.all (fun f => (P.info? f.type).isSome) then (DA (fun i => (fs[i]?).map fun f => (f.offset, P.cellsOf f.type)) (C1 z) parts).map .agg else none
  | some (.array _ e) => if P.cellsOf e = 0 then none else (DA (fun i => some (i * P.cellsOf e, P.cellsOf e)) (C1 z) parts).map .agg
  | _ => none
 | none => none
def chunks (n : Nat) : Nat -> List VV -> List (List VV)
 | 0, _ => []
 | k + 1, l => l.take n :: chunks n k (l.drop n)
def u6 (t : TypeId) (len : Nat) (parts : List (Nat × VV)) (h : A0) : Option (VV × A0) :=
 match P.underlying t with
 | some (.slice e) => match D6 P e with
  | some z =>
   let s := P.cellsOf e
   if s = 0 \/ len * s > 2 ^ 24 then none else
   match DA (fun i => some (i * s, s)) (List.flatten (List.replicate len (C1 z))) parts with
   | some cs => if cs.all H2 then some (.slice h.next 0 len (some len) s, fresh h (chunks s len cs) s) else none
   | none => none
  | none => none
 | _ => none
def R2 : Nat := 2 ^ 47
def C5 (t : TypeId) (s : VV) (xs : List (List VV)) (h : A0) : Option (VV × A0) :=
 match P.underlying t with
 | some (.slice e) =>
  let z := P.cellsOf e
  let m := xs.length
  match D6 P e with
  | none => none
  | some _ =>
  if z = 0 then none else
  match s with
  | .nilslice =>
   match m with
   | 0 => some (.nilslice, h)
   | _ => if m * P.bytesOf e <= R2 /\ m <= R2 then some (.slice h.next 0 m none z, fresh h xs z) else none
  | .slice b i n c z' =>
   match m with
   | 0 => if z' = z then some (.slice b i n c z', h) else none
   | _ =>
   match h.get b with
   | some (.cells k) =>
    if z' ≠ z \/ k.L3 ≠ z \/ k.es.length < i + n then none else
    let room : Bool := match c with | some cap => Nat.ble (n + m) cap | none => Nat.ble (i + n + m) k.es.length
    match room with
    | true =>
     if k.ro = true \/ k.es.length < i + n + m then none else
     some (.slice b i (n + m) c z, (match k.Q2 with | true => h | false => h.kill k.Q1 (k.E5 + (i + n))).put b (.cells { k with es := k.es.take (i + n) ++ xs ++ k.es.drop (i + n + m) }))
    | false =>
     if R2 < (n + m) * P.bytesOf e \/ R2 < n + m then none else
     match c with
     | some _ => some (.slice h.next 0 (n + m) none z, fresh h ((k.es.drop i).take n ++ xs) z)
     | none =>
      if k.ro = true then none else
      let h0 := h.put b (.cells { k with Q2 := false, last := false })
      let h1 := match k.last && Nat.beq (i + n) k.es.length with
       | true => h0
       | false => h0.kill k.Q1 (k.E5 + (i + n))
      some (.slice h.next 0 (n + m) none z,
       h1.push (.cells { es := (k.es.drop i).take n ++ xs, L3 := z, Q1 := k.Q1, E5 := k.E5 + i, Q2 := false, last := true, ro := false }))
   | _ => none
  | _ => none
 | _ => none
def U5 (z : Nat) (h : A0) : VV -> Option (List (List VV))
 | .nilslice => some []
 | .slice b i n _ z' => match h.get b with
  | some (.cells k) => if z' = z /\ i + n <= k.es.length then some ((k.es.drop i).take n) else none
  | _ => none
 | .str s => if z = 1 then some (s.data.toList.map fun c => [.int .u8 c.toNat]) else none
 | _ => none
def overwrite (h : A0) (b i : Nat) (xs : List (List VV)) : Option A0 :=
 match h.get b with
 | some (.cells k) =>
  if k.ro = true \/ k.es.length < i + xs.length then none else
  some ((match k.Q2 with | true => h | false => h.kill k.Q1 (k.E5 + i)).put b (.cells { k with es := k.es.take i ++ xs ++ k.es.drop (i + xs.length) }))
 | _ => none
def Y4 : VV -> Option Nat
 | .int _ n => if 0 <= n then some n.toNat else none
 | _ => none
def R4 (L3 : Nat) (x : VV) (lo hi mx : Option VV) : Option VV :=
 match (lo.map Y4).getD (some 0) with
 | none => none
 | some l =>
  match x with
  | .str s =>
   match (hi.map Y4).getD (some s.size), mx with
   | some g, none => if l <= g /\ g <= s.size then some (.str (s.extract l g)) else none
   | _, _ => none
  | .nilslice =>
   match (hi.map Y4).getD (some 0), (mx.map Y4).getD (some 0) with
   | some 0, some 0 => if l = 0 /\ (hi.isSome \/ mx.isNone) then some .nilslice else none
   | _, _ => none
  | .slice b i n (some c) z =>
   match (hi.map Y4).getD (some n), (mx.map Y4).getD (some c) with
   | some g, some m =>
    if z = L3 /\ l <= g /\ g <= m /\ m <= c /\ (hi.isSome \/ mx.isNone) then some (.slice b (if m = l then i else i + l) (g - l) (some (m - l)) z) else none
   | _, _ => none
  | .slice b i n none z =>
   match (hi.map Y4).getD (some n), mx with
   | some g, none => if z = L3 /\ l <= g /\ g <= n then some (.slice b (i + l) (g - l) none z) else none
   | some g, some m => match Y4 m with
    | some m => if z = L3 /\ l <= g /\ g <= m /\ m <= n /\ hi.isSome then some (.slice b (if m = l then i else i + l) (g - l) (some (m - l)) z) else none
    | none => none
   | none, _ => none
  | _ => none
def Xj (op : BinOp) (k : IntKind) (x y : Int) : Option VV :=
 match op with
 | .add => some (.int k (k.wrap (x + y)))
 | .sub => some (.int k (k.wrap (x - y)))
 | .mul => some (.int k (k.wrap (x * y)))
 | .quo => if y = 0 then none else some (.int k (k.wrap (x.tdiv y)))
 | .rem => if y = 0 then none else some (.int k (x.tmod y))
 | .and => some (.int k (k.wrap (BitVec.ofInt k.bits x &&& BitVec.ofInt k.bits y).toNat))
 | .or => some (.int k (k.wrap (BitVec.ofInt k.bits x ||| BitVec.ofInt k.bits y).toNat))
 | .xor => some (.int k (k.wrap (BitVec.ofInt k.bits x ^^^ BitVec.ofInt k.bits y).toNat))
 | .andNot => some (.int k (k.wrap (BitVec.ofInt k.bits x &&& ~~~ (BitVec.ofInt k.bits y)).toNat))
 | .eql => some (.bool (x == y))
 | .neq => some (.bool (x != y))
 | .lss => some (.bool (x < y))
 | .leq => some (.bool (x <= y))
 | .gtr => some (.bool (x > y))
 | .geq => some (.bool (x ≥ y))
 | _ => none
def Ln (op : BinOp) (k : IntKind) (x y : Int) : Option VV :=
 if y < 0 then none else
 match op with
 | .shl => some (.int k (k.wrap (x * 2 ^ (min y.toNat k.bits))))
 | .shr => some (.int k (x.fdiv (2 ^ (min y.toNat k.bits))))
 | _ => none
def gC (op : BinOp) (x y : ByteArray) : Option VV :=
 match op with
 | .add => if ((x.size + y.size : Nat) : Int) > IntKind.i64.max then none else some (.str (x ++ y))
 | .eql => some (.bool (x.toList == y.toList))
 | .neq => some (.bool !(x.toList == y.toList))
 | .lss => some (.bool (Op.bytesLess x.toList y.toList))
 | .leq => some (.bool (Op.bytesLess x.toList y.toList || x.toList == y.toList))
 | .gtr => some (.bool !(Op.bytesLess x.toList y.toList || x.toList == y.toList))
 | .geq => some (.bool !(Op.bytesLess x.toList y.toList))
 | _ => none
def Ee : (depth : Nat) -> TypeId -> VV -> VV -> Option Bool
 | 0, _, _, _ => none
 | d + 1, t, x, y =>
  match P.underlying t, x, y with
  | some .bool, .bool a, .bool b => some (a == b)
  | some (.int _), .int k a, .int k' b => if k = k' then some (a == b) else none
  | some .string, .str a, .str b => some (a == b)
  | some (.pointer _), .I2, .I2 => some true
  | some (.pointer _), .I2, .ptr _ _ _ => some false
  | some (.pointer _), .ptr _ _ _, .I2 => some false
  | some (.interface _), .I1, .I1 => some true
  | some (.interface _), .I1, .iface _ _ => some false
  | some (.interface _), .iface _ _, .I1 => some false
  | some (.interface _), .iface tx vx, .iface ty vy =>
   if tx ≠ ty then some false else
   match P.info? tx with
   | some i => if i.comparable then Ee d tx vx vy else none
   | none => none
  | some (.struct fs), .agg xs, .agg ys =>
   if P.stoodInHeld t then none else
   fs.toList.foldr (fun f r =>
    if f.name = "_" then r else
    match l9 P f.type xs f.offset, l9 P f.type ys f.offset with
    | some a, some b => match Ee d f.type a b with
     | some true => r
     | some false => some false
     | none => none
    | _, _ => none) (some true)
  | some (.slice _), .nilslice, .nilslice => some true
  | some (.slice _), .nilslice, .slice _ _ _ _ _ => some false
  | some (.slice _), .slice _ _ _ _ _, .nilslice => some false
  | some (.map _ _), .A3, .A3 => some true
  | some (.map _ _), .A3, .map _ => some false
  | some (.map _ _), .map _, .A3 => some false
  | some (.func _ _ _), .D3, .D3 => some true
  | some (.func _ _ _), .D3, .func _ _ _ => some false
  | some (.func _ _ _), .func _ _ _, .D3 => some false
  | _, _, _ => none
def Fb : Operand -> Bool
 | .const _ => true
 | _ => false
def LF (t : TypeId) (x y : Operand) : VV -> VV -> Bool
 | .I1, .I1 => Fb x || Fb y
 | .agg _, .agg _ => !(P.eqGuardType P.depth t)
 | .undef, _ => false
 | _, .undef => false
 | _, _ => true
def Kt (op : BinOp) (t : TypeId) (ox oy : Operand) (x y : VV) : Option VV :=
 match x, y with
 | .int k a, .int k' b =>
  match op with
  | .shl | .shr => Ln op k a b
  | _ => if k = k' then Xj op k a b else none
 | .str a, .str b => gC op a b
 | x, y =>
  match op, LF P t ox oy x y with
  | .eql, true => (Ee P 100 t x y).map .bool
  | .neq, true => (Ee P 100 t x y).map fun b => .bool !b
  | _, _ => none
def pI (op : UnOp) (x : VV) : Option VV :=
 match op, x with
 | .neg, .int k n => some (.int k (k.wrap (0 - n)))
 | .xor, .int k n => some (.int k (k.wrap (BitVec.ofInt k.bits (if k.signed then -1 else k.max) ^^^ BitVec.ofInt k.bits n).toNat))
 | .not, .bool b => some (.bool !b)
 | _, _ => none
def N5 : List (List VV) -> Option (List UInt8)
 | [] => some []
 | [.int .u8 n] :: r => (N5 r).map (UInt8.ofNat n.toNat :: ·)
 | _ => none
def Ey (src dst : TypeId) (x : VV) : Option VV :=
 match P.underlying src, P.underlying dst, x with
 | some _, some (.int k), .int _ n => some (.int k (k.wrap n))
 | some _, some .string, .str s => some (.str s)
 | some (.int _), some .string, .int _ n => some (.str (Utf8.encode n))
 | _, _, _ => none
def Q9 (src dst : TypeId) (x : VV) (h : A0) : Option VV :=
 match P.underlying src, P.underlying dst with
 | some (.slice e), some .string => match P.underlying e, x with
  | some (.int .u8), .nilslice => some (.str .empty)
  | some (.int .u8), .slice b i n c z => ((U5 1 h (.slice b i n c z)).bind N5).map fun l => .str ⟨l.toArray⟩
  | _, _ => none
 | _, _ => none
def CJ (src dst : TypeId) (x : VV) (h : A0) : Option (VV × A0) :=
 match P.underlying src, P.underlying dst, x with
 | some .string, some (.slice e), .str s => match P.underlying e with
  | some (.int .u8) =>
   if P.cellsOf e ≠ 1 \/ R2 < s.size then none else
   some (.slice h.next 0 s.size none 1, fresh h (s.data.toList.map fun c => [.int .u8 c.toNat]) 1)
  | _ => none
 | _, _, _ => none
def X2 (key : VV) : List (VV × VV) -> Option (Option VV)
 | [] => some none
 | (k, v) :: r =>
  match key, k with
  | .int a x, .int b y => if a = b then (if x = y then some (some v) else X2 key r) else none
  | .str x, .str y => if x.toList = y.toList then some (some v) else X2 key r
  | _, _ => none
def H8 (key val : VV) : List (VV × VV) -> List (VV × VV)
 | [] => [(key, val)]
 | (k, v) :: r =>
  match key, k with
  | .int _ x, .int _ y => if x = y then (key, val) :: r else (k, v) :: H8 key val r
  | .str x, .str y => if x.toList = y.toList then (key, val) :: r else (k, v) :: H8 key val r
  | _, _ => (k, v) :: H8 key val r
def l7 (key : VV) : List (VV × VV) -> List (VV × VV)
 | [] => []
 | (k, v) :: r =>
  match key, k with
  | .int _ x, .int _ y => if x = y then r else (k, v) :: l7 key r
  | .str x, .str y => if x.toList = y.toList then r else (k, v) :: l7 key r
  | _, _ => (k, v) :: l7 key r
def IV (h : A0) : VV -> Option (List (VV × VV))
 | .A3 => some []
 | .map b => match h.get b with | some (.map es) => some es | _ => none
 | _ => none
def Ab (t : TypeId) (k : VV) : Bool :=
 match P.underlying t, k with
 | some (.int k'), .int k _ => k == k'
 | some .string, .str _ => true
 | _, _ => false
def Hr (t : TypeId) (m key : VV) (ok : Bool) (h : A0) : Option VV :=
 match P.underlying t with
 | some (.map kt et) =>
  if Ab P kt key then
   match (IV h m).bind (X2 key) with
   | some r => match D6 P et with
    | some z =>
     let v := r.getD z
     some (if ok then .tuple [v, .bool r.isSome] else v)
    | none => none
   | none => none
  else none
 | _ => none
def CH (t : TypeId) (m key val : VV) (h : A0) : Option A0 :=
 match P.underlying t, m with
 | some (.map kt _), .map b =>
  if Ab P kt key then
   match h.get b with
   | some (.map es) => match X2 key es with
    | some _ => some (h.put b (.map (H8 key val es)))
    | none => none
   | _ => none
  else none
 | _, _ => none
def Cp (t : TypeId) (name : String) : Option FuncId :=
 match (P.info? t).bind fun i => i.methods.find? (·.name == name) with
 | some m => match m.path.isEmpty, m.func with
  | true, some (f, p) => match P.underlying t, p with
   | some (.pointer _), true => some f
   | some (.pointer _), false => none
   | some _, false => some f
   | _, _ => none
  | _, _ => none
 | none => none
abbrev O5 := FuncId -> List VV -> A0 -> Option (VV × A0)
def I4 (e : Env) (xs : Array Operand) : List VV := xs.toList.map (ev e)
def plainFunc (f : FuncId) : Bool :=
 match P.funcs[f]? with
 | some fn => fn.body.isSome && !(fn.name == "runtime.NumGoroutine")
 | none => false
def F8 (call : O5) (c : Call) (e : Env) (h : A0) : Option (VV × A0) :=
 match c.callee with
 | .value f => match ev e f with
  | .func (.func g) first Il => if plainFunc P g then call g (first ++ I4 e c.args ++ Il) h else none
  | _ => none
 | .invoke r name => match ev e r with
  | .iface t v => match Cp P t name with
   | some g => if plainFunc P g then call g (v :: I4 e c.args) h else none
   | none => none
  | _ => none
 | .builtin b =>
  match b, I4 e c.args with
  | .append, [s, x] => match c.argTypes[0]?, c.argTypes[1]? with
   | some t, some u => match P.underlying t, P.underlying u with
    | some (.slice el), some (.slice _) => (U5 (P.cellsOf el) h x).bind fun xs => C5 P t s xs h
    | some (.slice el), some .string => (U5 (P.cellsOf el) h x).bind fun xs => C5 P t s xs h
    | _, _ => none
   | _, _ => none
  | .len, [x] => match (c.argTypes[0]?).bind P.underlying, x with
   | some .string, .str s => some (.int .i64 s.size, h)
   | some (.slice _), .nilslice => some (.int .i64 0, h)
   | some (.slice _), .slice _ _ n _ _ => some (.int .i64 n, h)
   | some (.map _ _), m => (IV h m).map fun es => (.int .i64 es.length, h)
   | some (.array n _), _ => some (.int .i64 n, h)
   | _, _ => none
  | .copy, [d, x] => match (c.argTypes[0]?).bind P.underlying with
   | some (.slice el) => if P.cellsOf el = 0 then none else match U5 (P.cellsOf el) h x, d with
    | some xs, .slice b i n _ z => if z = P.cellsOf el then (overwrite h b i (xs.take n)).map fun h' => (.int .i64 (Nat.min xs.length n : Nat), h') else none
    | some _, .nilslice => some (.int .i64 0, h)
    | _, _ => none
   | _ => none
  | .clear, [x] => match (c.argTypes[0]?).bind P.underlying, x with
   | some (.slice _), .nilslice => some (.tuple [], h)
   | some (.slice el), .slice b i n _ z =>
    match n with
    | 0 => some (.tuple [], h)
    | _ => match D6 P el with
     | some zv => if P.cellsOf el = z then (overwrite h b i (List.replicate n (C1 zv))).map fun h' => (.tuple [], h') else none
     | none => none
   | _, _ => none
  | .delete, [m, k] => match (c.argTypes[0]?).bind P.underlying, m with
   | some (.map kt _), .map b =>
    if Ab P kt k then match h.get b with
     | some (.map es) => match X2 k es with
      | some _ => some (.tuple [], h.put b (.map (l7 k es)))
      | none => none
     | _ => none
    else none
   | _, _ => none
  | .max, [.int k x, .int _ y] => some (.int k (if y > x then y else x), h)
  | .min, [.int k x, .int _ y] => some (.int k (if y < x then y else x), h)
  | _, _ => none
def CG (call : O5) (o : Oper) (e : Env) (h : A0) : Option (VV × A0) :=
 let pure (v : Option VV) : Option (VV × A0) := v.map fun v => (v, h)
 match o.op with
 | .move x | .assign x => some (ev e x, h)
 | .pick c a b => match ev e c with
  | .bool true => some (ev e a, h)
  | .bool false => some (ev e b, h)
  | _ => none
 | .alloc t => match D6 P t with
  | some z => if P.cellsOf t = 0 then none else some (.ptr h.next 0 0, fresh h [C1 z] (P.cellsOf t))
  | none => none
 | .box t x =>
  let cs := C1 (ev e x)
  if cs.length = P.cellsOf t /\ P.cellsOf t ≠ 0 /\ cs.all H2 then some (.ptr h.next 0 0, fresh h [cs] (P.cellsOf t)) else none
 | .build t parts => pure (Ix P t (parts.toList.map fun (i, x) => (i, ev e x)))
 | .buildSlice t len parts => u6 P t len (parts.toList.map fun (i, x) => (i, ev e x)) h
 | .load t a => pure (AY P t h (ev e a))
 | .store t a x => (CE P t h (ev e a) (ev e x)).map fun h' => (.undef, h')
 | .nilCheck x => match ev e x with
  | .ptr b i f => some (.ptr b i f, h)
  | .iface t v => some (.iface t v, h)
  | .func (.func g) first Il => some (.func (.func g) first Il, h)
  | _ => none
 | .binOp op t x y _ => pure (Kt P op t x y (ev e x) (ev e y))
 | .unOp op _ x => pure (pI op (ev e x))
 | .convert src dst x => match P.underlying src, P.underlying dst with
  | some (.slice _), some .string => pure (Q9 P src dst (ev e x) h)
  | some .string, some (.slice _) => CJ P src dst (ev e x) h
  | _, _ => pure (Ey P src dst (ev e x))
 | .makeInterface t x => match P.underlying t with
  | some (.interface _) => none
  | some _ => some (.iface t (ev e x), h)
  | none => none
 | .makeFunc fn first Il => some (.func fn (I4 e first) (I4 e Il), h)
 | .makeMap _ none => some (.map h.next, h.push (.map []))
 | .makeSlice t l c => match P.underlying t, Y4 (ev e l), Y4 (ev e c) with
  | some (.slice el), some l, some c => match D6 P el with
   | some z =>
    if l <= c /\ c * P.bytesOf el <= R2 /\ c <= R2 /\ P.cellsOf el ≠ 0 then
     some (.slice h.next 0 l (some c) (P.cellsOf el), fresh h (List.replicate c (C1 z)) (P.cellsOf el))
    else none
   | none => none
  | _, _, _ => none
 | .slice t x lo hi mx => match P.underlying t, ev e x with
  | some .string, .str s => pure (R4 0 (.str s) (lo.map (ev e)) (hi.map (ev e)) (mx.map (ev e)))
  | some (.slice el), .slice b i n c z => if P.cellsOf el = 0 then none else pure (R4 (P.cellsOf el) (.slice b i n c z) (lo.map (ev e)) (hi.map (ev e)) (mx.map (ev e)))
  | some (.slice el), .nilslice => if P.cellsOf el = 0 then none else pure (R4 0 .nilslice (lo.map (ev e)) (hi.map (ev e)) (mx.map (ev e)))
  | _, _ => none
 | .fieldAddr s x f => match P.underlying s, ev e x with
  | some (.struct fs), .ptr b i g => match fs[f]? with
   | some fd => if P.cellsOf fd.type = 0 then none else some (.ptr b i (g + fd.offset), h)
   | none => none
  | _, _ => none
 | .field s x f => match P.underlying s, ev e x with
  | some (.struct fs), .agg cs => match fs[f]? with
   | some fd => pure (l9 P fd.type cs fd.offset)
   | none => none
  | _, _ => none
 | .indexAddr t x ix => match P.underlying t, ev e x, Y4 (ev e ix) with
  | some (.slice el), .slice b i n _ z, some j => if j < n /\ P.cellsOf el = z /\ z ≠ 0 then some (.ptr b (i + j) 0, h) else none
  | some (.array n el), .ptr b i f, some j => if j < n /\ P.cellsOf el ≠ 0 then some (.ptr b i (f + j * P.cellsOf el), h) else none
  | _, _, _ => none
 | .index t x ix => match P.underlying t, ev e x, Y4 (ev e ix) with
  | some (.array n el), .agg cs, some j => if j < n then pure (l9 P el cs (j * P.cellsOf el)) else none
  | some .string, .str s, some j => match s.data.toList[j]? with
   | some c => some (.int .u8 c.toNat, h)
   | none => none
  | _, _, _ => none
 | .lookup t m k ok => pure (Hr P t (ev e m) (ev e k) ok h)
 | .mapUpdate t m k x | .insert t m k x => (CH P t (ev e m) (ev e k) (ev e x) h).map fun h' => (.undef, h')
 | .typeAssert x _ t ok => match P.underlying t, ev e x with
  | some (.interface _), _ => none
  | some _, .iface t' v =>
   if t' = t then some (if ok then .tuple [v, .bool true] else v, h)
   else if ok then (D6 P t).map fun z => (.tuple [z, .bool false], h) else none
  | some _, .I1 => if ok then (D6 P t).map fun z => (.tuple [z, .bool false], h) else none
  | _, _ => none
 | .extract x i => match ev e x with
  | .tuple vs => match vs[i]? with
   | some v => some (v, h)
   | none => none
  | _ => none
 | .call c => F8 P call c e h
 | _ => none
inductive Kind where
 | pure | read | alloc | EV
 deriving DecidableEq
def Y1 (o : Oper) : Kind :=
 match o.op with
 | .alloc _ | .box _ _ | .buildSlice _ _ _ | .makeMap _ _ | .makeSlice _ _ _ => .alloc
 | .load _ _ | .lookup _ _ _ _ => .read
 | .convert src dst _ => match P.underlying src, P.underlying dst with
  | some (.slice _), some .string => .read
  | some .string, some (.slice _) => .alloc
  | _, _ => .pure
 | .store _ _ _ | .mapUpdate _ _ _ _ | .insert _ _ _ _ => .EV
 | .call { callee := .builtin .len, argTypes, .. } => match (argTypes[0]?).bind P.underlying with
  | some (.map _ _) => .read
  | _ => .pure
 | .call { callee := .builtin .max, .. } | .call { callee := .builtin .min, .. } => .pure
 | .call _ => .EV
 | _ => .pure
def Bk : VV := .tuple []
def Hp (ops : Array Oper) (e : Env) (j : Nat) : Option (Option Bool) :=
 match (ops[j]?).bind (·.dst) with
 | some t => match e.get t with
  | .bool b => some (some b)
  | .tuple [] => some none
  | _ => none
 | none => none
def l5 (ops : Array Oper) (o : Oper) (e : Env) : Option Bool :=
 match o.guard with
 | none => some true
 | some (j, want) => match Hp ops e j with
  | some (some b) => some (b == want)
  | some none => some false
  | none => none
def Eu (call : O5) (ops : Array Oper) : List Oper -> Env -> A0 -> Option (Env × A0)
 | [], e, h => some (e, h)
 | o :: rest, e, h =>
  match l5 ops o e with
  | some true => match CG P call o e h with
   | some (v, h') => Eu call ops rest (e.put o.dst v) h'
   | none => none
  | some false => Eu call ops rest (e.put o.dst Bk) h
  | none => none
end types
mutual
def VV.same : VV -> VV -> Bool
 | .undef, .undef => true
 | .bool a, .bool b => a == b
 | .int j a, .int k b => decide (j = k) && decide (a = b)
 | .str a, .str b => decide (a.data.toList = b.data.toList)
 | .I2, .I2 => true
 | .ptr a b c, .ptr x y z => Nat.beq a x && Nat.beq b y && Nat.beq c z
 | .nilslice, .nilslice => true
 | .slice a b c d e, .slice x y z u v => Nat.beq a x && Nat.beq b y && Nat.beq c z && decide (d = u) && Nat.beq e v
 | .A3, .A3 => true
 | .map a, .map b => Nat.beq a b
 | .D3, .D3 => true
 | .func (.func f) a b, .func (.func g) x y => Nat.beq f g && VV.F0 a x && VV.F0 b y
 | .I1, .I1 => true
 | .iface t a, .iface u b => Nat.beq t u && VV.same a b
 | .agg a, .agg b => VV.F0 a b
 | .tuple a, .tuple b => VV.F0 a b
 | _, _ => false
def VV.F0 : List VV -> List VV -> Bool
 | [], [] => true
 | a :: x, b :: y => VV.same a b && VV.F0 x y
 | _, _ => false
end
section
variable (P : Program)
def R6 (o : Oper) (e : Env) (v : VV) (h : A0) : Bool :=
 match CG P (fun _ _ _ => none) o e h with
 | some (u, _) => VV.same u v
 | none => false
def BI (call : O5) (ops : Array Oper) (Q7 : Array Nat) : (i : Nat) -> List Oper -> Env -> A0 ->
  List (Nat × Oper × Env × VV) -> List (Nat × A0) -> Option (Env × A0)
 | _, [], e, h, _, _ => some (e, h)
 | i, o :: rest, e, h, rs, es =>
  match l5 ops o e with
  | none => none
  | some false => BI call ops Q7 (i + 1) rest (e.put o.dst Bk) h rs es
  | some true =>
   match CG P call o e h with
   | none => none
   | some (v, h') =>
    match Y1 P o with
    | .read =>
     if es.all fun (j, hb) => (Q7.getD i 0).testBit j || R6 P o e v hb
     then BI call ops Q7 (i + 1) rest (e.put o.dst v) h' ((i, o, e, v) :: rs) es else none
    | .EV =>
     if rs.all fun (j, p, d, u) => (Q7.getD i 0).testBit j || R6 P p d u h'
     then BI call ops Q7 (i + 1) rest (e.put o.dst v) h' rs ((i, h) :: es) else none
    | _ => BI call ops Q7 (i + 1) rest (e.put o.dst v) h' rs es
def J7 (ops : Array Oper) (o : Oper) : List Tmp :=
 o.dst.toList ++ o.op.operands.toList.filterMap (fun x => match x with | .tmp t => some t | _ => none) ++
  (match o.guard with | some (j, _) => ((ops[j]?).bind (·.dst)).toList | none => [])
def M5 (o : Oper) : Bool := match Y1 P o with | .EV => true | .alloc => true | _ => false
def S9 (o : Oper) : Bool := match Y1 P o with | .EV => true | _ => false
def AM (ops : Array Oper) : Bool :=
 let Q7 := Region.before ops
 ops.toList.zipIdx.all fun (o, j) =>
  ((o.after.toList.all fun e => !Region.binds .any e || Nat.blt e.on j) &&
  ops.toList.zipIdx.all fun (p, i) => Nat.ble j i || (Q7.getD j 0).testBit i ||
   !((S9 P o && M5 P p) || (match p.dst with | some t => (J7 ops o).contains t | none => false) || (match o.dst with | some t => (J7 ops p).contains t | none => false))) &&
  (S9 P o || !M5 P o || ops.toList.zipIdx.all fun (p, i) => Nat.ble i j || !(match o.dst with | some t => (J7 ops p).contains t | none => false) ||
   ops.toList.zipIdx.all fun (q, k) => Nat.ble j k || !M5 P q || (Q7.getD i 0).testBit k)
def Cn (call : O5) (ops : Array Oper) (draw : Bool) (e : Env) (h : A0) : Option (Env × A0) :=
 match draw with
 | false => Eu P call ops ops.toList e h
 | true => match AM P ops with
  | true => BI P call ops (Region.before ops) 0 ops.toList e h [] []
  | false => none
inductive Y2 where
 | normal
 | exit (id : Nat)
 | ret
def Fy (e : Env) (h : A0) : ResultVar -> Option VV
 | .tmp t => some (e.get t)
 | .cell a t => AY P t h (e.get a)
def CF (fn : Func) (e : Env) (h : A0) : Option VV :=
 match fn.results.toList.mapM (Fy P e h) with
 | some [v] => some v
 | some vs => some (.tuple vs)
 | none => none
abbrev Ext := FuncId -> Option (List VV -> A0 -> Option (VV × A0))
def Ge (exec : Code -> Env -> A0 -> Option (Y2 × Env × A0)) (X : Ext) (f : FuncId) (args : List VV) (h : A0) : Option (VV × A0) :=
 match X f with
 | some g => g args h
 | none => match P.funcs[f]? with
  | some fn => match fn.body with
   | some c => if args.length <= fn.ntmps then
     match exec c args h with
     | some (.normal, e, h') => (CF P fn e h').map fun v => (v, h')
     | some (.ret, e, h') => (CF P fn e h').map fun v => (v, h')
     | _ => none
    else none
   | none => none
  | none => none
def B4 (X : Ext) : Nat -> Code -> Env -> A0 -> Option (Y2 × Env × A0)
 | 0, _, _, _ => none
 | k + 1, c, e, h =>
  match c with
  | .skip => some (.normal, e, h)
  | .label _ => some (.normal, e, h)
  | .region _ ops draw => match Cn P (Ge P (B4 X k) X) ops draw e h with
   | some (e, h) => some (.normal, e, h)
   | none => none
  | .seq a b => match B4 X k a e h with
   | some (.normal, e, h) => B4 X k b e h
   | r => r
  | .cond c a b => match ev e c with
   | .bool true => B4 X k a e h
   | .bool false => B4 X k b e h
   | _ => none
  | .block id c => match B4 X k c e h with
   | some (.exit jf, e, h) => match Nat.beq jf id with
    | true => some (.normal, e, h)
    | false => some (.exit jf, e, h)
   | r => r
  | .loop c => match B4 X k c e h with
   | some (.normal, e, h) => B4 X k (.loop c) e h
   | r => r
  | .exit id => some (.exit id, e, h)
  | .ret => some (.ret, e, h)
  | _ => none
def Zl (X : Ext) (k : Nat) (f : FuncId) (args : List VV) (h : A0) : Option (VV × A0) := Ge P (B4 P X k) X f args h
end
open Go.RowKit
structure Loc where
 mb : Nat
 l6 : Nat
 L3 : Nat
 iI : Nat
 ro : Bool := false
abbrev Ren := Nat -> Option Loc
def addrAt (l : Loc) (i f : Nat) : Addr := ⟨l.mb, l.l6 + i * l.L3 + f, none⟩
inductive Y0 (ρ : Ren) : VV -> Value -> Prop
 | undef (v : Value) : Y0 ρ .undef v
 | bool (b : Bool) : Y0 ρ (.bool b) (.bool b)
 | int (k : IntKind) (n : Int) : Y0 ρ (.int k n) (.int k n)
 | str (s : ByteArray) : Y0 ρ (.str s) (.string s)
 | I2 : Y0 ρ .I2 (.pointer none)
 | ptr (b i f : Nat) (l : Loc) (h : ρ b = some l) : Y0 ρ (.ptr b i f) (.pointer (some (addrAt l i f)))
 | nilslice : Y0 ρ .nilslice (.slice none 0 0)
 | slice (b i n : Nat) (c : Option Nat) (z : Nat) (l : Loc) (a : Addr) (o5 : Nat) (h : ρ b = some l) (hz : l.L3 = z) (hn : n <= o5) (hm : o5 <= maxLen)
   (hc : ∀ k, c = some k -> o5 = k) (ho : c = none -> l.ro = false -> l.l6 + (i + o5) * l.L3 = l.iI)
   (ha : a = addrAt l i 0 \/ (n = 0 /\ o5 = 0)) : Y0 ρ (.slice b i n c z) (.slice (some a) n o5)
 | A3 : Y0 ρ .A3 (.map none)
 | map (b : Nat) (l : Loc) (h : ρ b = some l) : Y0 ρ (.map b) (.map (some l.mb))
 | D3 : Y0 ρ .D3 .nilFunc
 | func (fn : Fn) (x y : List VV) (x' y' : Array Value) (hx : x.length = x'.size) (hy : y.length = y'.size)
   (h1 : ∀ (i : Nat) v v', x[i]? = some v -> x'[i]? = some v' -> Y0 ρ v v') (h2 : ∀ (i : Nat) v v', y[i]? = some v -> y'[i]? = some v' -> Y0 ρ v v') :
   Y0 ρ (.func fn x y) (.func fn x' y')
 | I1 : Y0 ρ .I1 .nilIface
 | iface (t : TypeId) (v : VV) (v' : Value) (h : Y0 ρ v v') : Y0 ρ (.iface t v) (.iface t v')
 | agg (x : List VV) (x' : Array Value) (hx : x.length = x'.size) (h : ∀ (i : Nat) v v', x[i]? = some v -> x'[i]? = some v' -> Y0 ρ v v') : Y0 ρ (.agg x) (.agg x')
 | tuple (x : List VV) (x' : Array Value) (hx : x.length = x'.size) (h : ∀ (i : Nat) v v', x[i]? = some v -> x'[i]? = some v' -> Y0 ρ v v') : Y0 ρ (.tuple x) (.tuple x')
def Ren.le (ρ ρ' : Ren) : Prop := ∀ b l, ρ b = some l -> ρ' b = some l
theorem Ren.le.refl (ρ : Ren) : Ren.le ρ ρ := fun _ _ h => h
theorem Ren.le.trans {ρ ρ' pF : Ren} (h : Ren.le ρ ρ') (k : Ren.le ρ' pF) : Ren.le ρ pF := fun b l e => k b l (h b l e)
theorem Y0.mono {ρ ρ' : Ren} (hle : Ren.le ρ ρ') {v : VV} {v' : Value} (h : Y0 ρ v v') : Y0 ρ' v v' := by
 induction h with
 | undef v => exact .undef v
 | bool b => exact .bool b
 | int k n => exact .int k n
 | str s => exact .str s
 | I2 => exact .I2
 | ptr b i f l h => exact .ptr b i f l (hle _ _ h)
 | nilslice => exact .nilslice
 | slice b i n c z l a o5 h hz hn hm hc ho ha => exact .slice b i n c z l a o5 (hle _ _ h) hz hn hm hc ho ha
 | A3 => exact .A3
 | map b l h => exact .map b l (hle _ _ h)
 | D3 => exact .D3
 | func fn x y x' y' hx hy h1 h2 wq ve => exact .func fn x y x' y' hx hy wq ve
 | I1 => exact .I1
 | iface t v v' h ih => exact .iface t v v' ih
 | agg x x' hx h ih => exact .agg x x' hx ih
 | tuple x x' hx h ih => exact .tuple x x' hx ih
def P2 (ρ : Ren) (x : List VV) (x' : List Value) : Prop := x.length = x'.length /\ ∀ (i : Nat) v v', x[i]? = some v -> x'[i]? = some v' -> Y0 ρ v v'
theorem P2.nil (ρ : Ren) : P2 ρ [] [] := ⟨rfl, by simp⟩
theorem P2.mono {ρ ρ' : Ren} (hle : Ren.le ρ ρ') {x : List VV} {x' : List Value} (h : P2 ρ x x') : P2 ρ' x x' := ⟨h.1, fun i v v' a b => (h.2 i v v' a b).mono hle⟩
theorem P2.cons {ρ : Ren} {v : VV} {v' : Value} {x : List VV} {x' : List Value} (h : Y0 ρ v v') (hx : P2 ρ x x') : P2 ρ (v :: x) (v' :: x') := by
 refine ⟨by simp [hx.1], fun i a b ha hb => ?_⟩
 cases i with
 | zero => simp at ha hb; subst ha; subst hb; exact h
 | succ i => simp at ha hb; exact hx.2 i a b ha hb
theorem P2.head {ρ : Ren} {v : VV} {v' : Value} {x : List VV} {x' : List Value} (h : P2 ρ (v :: x) (v' :: x')) : Y0 ρ v v' := h.2 0 v v' rfl rfl
theorem P2.tail {ρ : Ren} {v : VV} {v' : Value} {x : List VV} {x' : List Value} (h : P2 ρ (v :: x) (v' :: x')) : P2 ρ x x' :=
 ⟨by simpa using h.1, fun i a b ha hb => h.2 (i + 1) a b (by simpa using ha) (by simpa using hb)⟩
theorem P2.of_cons {ρ : Ren} {v : VV} {x : List VV} {y : List Value} (h : P2 ρ (v :: x) y) : ∃ v' x', y = v' :: x' /\ Y0 ρ v v' /\ P2 ρ x x' := by
 cases y with
 | nil => have := h.1; simp at this
 | cons v' x' => exact ⟨v', x', rfl, h.head, h.tail⟩
theorem P2.of_nil {ρ : Ren} {y : List Value} (h : P2 ρ [] y) : y = [] := by
 cases y with
 | nil => rfl
 | cons v' x' => have := h.1; simp at this
theorem P2.append {ρ : Ren} {x y : List VV} {x' y' : List Value} (h : P2 ρ x x') (k : P2 ρ y y') : P2 ρ (x ++ y) (x' ++ y') := by
 refine ⟨by simp [h.1, k.1], fun i a b ha hb => ?_⟩
 by_cases hi : i < x.length
 ·rw [List.getElem?_append_left hi] at ha
  rw [List.getElem?_append_left (by rw [<- h.1]; exact hi)] at hb
  exact h.2 i a b ha hb
 ·rw [List.getElem?_append_right (by omega)] at ha
  rw [List.getElem?_append_right (by rw [<- h.1]; omega)] at hb
  rw [<- h.1] at hb
  exact k.2 _ a b ha hb
theorem P2.take {ρ : Ren} {x : List VV} {x' : List Value} (h : P2 ρ x x') (n : Nat) : P2 ρ (x.take n) (x'.take n) := by
 refine ⟨by simp [h.1], fun i a b ha hb => ?_⟩
 rw [List.getElem?_take] at ha hb
 split at ha
 ·rename_i hi; rw [if_pos hi] at hb; exact h.2 i a b ha hb
 ·cases ha
theorem P2.drop {ρ : Ren} {x : List VV} {x' : List Value} (h : P2 ρ x x') (n : Nat) : P2 ρ (x.drop n) (x'.drop n) := by
 refine ⟨by simp [h.1], fun i a b ha hb => ?_⟩
 rw [List.getElem?_drop] at ha hb
 exact h.2 _ a b ha hb
theorem P2.at {ρ : Ren} {x : List VV} {x' : List Value} (h : P2 ρ x x') {i : Nat} {v : VV} (hv : x[i]? = some v) : ∃ v', x'[i]? = some v' /\ Y0 ρ v v' := by
 have hi : i < x.length := by
  rcases Nat.lt_or_ge i x.length with h' | h'
  ·exact h'
  ·rw [List.getElem?_eq_none h'] at hv; cases hv
 have Ri : i < x'.length := by rw [<- h.1]; exact hi
 exact ⟨x'[i], List.getElem?_eq_getElem Ri, h.2 i v _ hv (List.getElem?_eq_getElem Ri)⟩
theorem Y0.GV {ρ : Ren} {x : List VV} {v : Value} (h : Y0 ρ (.agg x) v) : ∃ x' : Array Value, v = .agg x' /\ P2 ρ x x'.toList := by
 cases h with
 | agg x x' hx h => exact ⟨x', rfl, by simpa using hx, fun i a b ha hb => h i a b ha (by simpa using hb)⟩
theorem Y0.JH {ρ : Ren} {x : List VV} {x' : Array Value} (h : P2 ρ x x'.toList) : Y0 ρ (.agg x) (.agg x') :=
 .agg x x' (by simpa using h.1) fun i a b ha hb => h.2 i a b ha (by simpa using hb)
theorem Y0.Oz {ρ : Ren} {x : List VV} {v : Value} (h : Y0 ρ (.tuple x) v) : ∃ x' : Array Value, v = .tuple x' /\ P2 ρ x x'.toList := by
 cases h with
 | tuple x x' hx h => exact ⟨x', rfl, by simpa using hx, fun i a b ha hb => h i a b ha (by simpa using hb)⟩
theorem Y0.K8 {ρ : Ren} {x : List VV} {x' : Array Value} (h : P2 ρ x x'.toList) : Y0 ρ (.tuple x) (.tuple x') :=
 .tuple x x' (by simpa using h.1) fun i a b ha hb => h.2 i a b ha (by simpa using hb)
theorem Y0.ck {ρ : Ren} {fn : Fn} {x y : List VV} {v : Value} (h : Y0 ρ (.func fn x y) v) : ∃ x' y' : Array Value, v = .func fn x' y' /\ P2 ρ x x'.toList /\ P2 ρ y y'.toList := by
 cases h with
 | func fn x y x' y' hx hy h1 h2 =>
  exact ⟨x', y', rfl, ⟨by simpa using hx, fun i a b ha hb => h1 i a b ha (by simpa using hb)⟩, ⟨by simpa using hy, fun i a b ha hb => h2 i a b ha (by simpa using hb)⟩⟩
theorem Y0.cells {ρ : Ren} {v : VV} {v' : Value} (h : Y0 ρ v v') (hu : v ≠ .undef) : P2 ρ (C1 v) v'.cells.toList := by
 have one : ∀ {v : VV} {v' : Value}, Y0 ρ v v' -> P2 ρ [v] [v'] := fun h => P2.cons h (P2.nil ρ)
 cases h with
 | undef v => exact absurd rfl hu
 | agg x x' hx h => exact ⟨by simpa [C1, Value.cells] using hx, fun i a b ha hb => h i a b ha (by simpa [Value.cells] using hb)⟩
 | bool b => exact one (.bool b)
 | int k n => exact one (.int k n)
 | str s => exact one (.str s)
 | I2 => exact one .I2
 | ptr b i f l h => exact one (.ptr b i f l h)
 | nilslice => exact one .nilslice
 | slice b i n c z l a o5 h hz hn hm hc ho ha => exact one (.slice b i n c z l a o5 h hz hn hm hc ho ha)
 | A3 => exact one .A3
 | map b l h => exact one (.map b l h)
 | D3 => exact one .D3
 | func fn x y x' y' hx hy h1 h2 => exact one (.func fn x y x' y' hx hy h1 h2)
 | I1 => exact one .I1
 | iface t v v' h => exact one (.iface t v v' h)
 | tuple x x' hx h => exact one (.tuple x x' hx h)
theorem Y0.one {ρ : Ren} {v : VV} {v' : Value} (h : Y0 ρ v v') (hv : H2 v = true) : v'.oneCell' = true := by
 cases h <;> simp_all [H2, Value.oneCell']
theorem P2.one {ρ : Ren} {x : List VV} {x' : List Value} (h : P2 ρ x x') (hv : x.all H2 = true) : ∀ v ∈ x', v.oneCell' = true := by
 intro v hm
 obtain ⟨i, hi⟩ := List.getElem?_of_mem hm
 have R3 : i < x.length := by rw [h.1]; exact (List.getElem?_eq_some_iff.1 hi).1
 have h0 := h.2 i x[i] v (List.getElem?_eq_getElem R3) hi
 exact h0.one (List.all_eq_true.1 hv _ (List.getElem_mem R3))
theorem GJ (ρ : Ren) : ∀ (d : Nat) (v : Value) (x : VV), n5 d v = some x -> Y0 ρ x v
 | 0, _, _, h => by simp [n5] at h
 | d + 1, v, x, h => by
  have agg : ∀ cs : Array Value, v = .agg cs -> Y0 ρ x v := by
   intro cs hv
   subst hv
   simp only [n5, Option.map_eq_some_iff] at h
   obtain ⟨xs, Dr, rfl⟩ := h
   refine Y0.JH ?_
   generalize cs.toList = l at Dr ⊢
   induction l generalizing xs with
   | nil => simp at Dr; subst Dr; exact P2.nil ρ
   | cons a l ih =>
    simp only [List.mapM_cons, Option.bind_eq_bind, Option.pure_def] at Dr
    cases ha : n5 d a with
    | none => simp [ha] at Dr
    | some a' =>
     cases hl : l.mapM (n5 d) with
     | none => simp [ha, hl] at Dr
     | some l' =>
      simp [ha, hl] at Dr
      subst Dr
      exact P2.cons (GJ ρ d a a' ha) (ih l' hl)
  cases v with
  | bool b => simp [n5] at h; subst h; exact .bool b
  | int k n => simp [n5] at h; subst h; exact .int k n
  | float k n => simp [n5] at h
  | complex k n m => simp [n5] at h
  | string s => simp [n5] at h; subst h; exact .str s
  | pointer a =>
   cases a with
   | none => simp [n5] at h; subst h; exact .I2
   | some a => simp [n5] at h
  | slice a n c =>
   cases a with
   | none =>
    cases n with
    | zero => cases c with
     | zero => simp [n5] at h; subst h; exact .nilslice
     | succ c => simp [n5] at h
    | succ n => simp [n5] at h
   | some a => simp [n5] at h
  | map r =>
   cases r with
   | none => simp [n5] at h; subst h; exact .A3
   | some r => simp [n5] at h
  | chan r => simp [n5] at h
  | func f x y => simp [n5] at h
  | nilFunc => simp [n5] at h; subst h; exact .D3
  | iface t v => simp [n5] at h
  | nilIface => simp [n5] at h; subst h; exact .I1
  | agg cs => exact agg cs rfl
  | tuple vs => simp [n5] at h
structure RW (ρ : Ren) (e : Env) (tmps : Array Value) : Prop where
 at_ : ∀ t, Y0 ρ (e.get t) (tmps.getD t undef)
theorem RW.mono {ρ ρ' : Ren} (hle : Ren.le ρ ρ') {e : Env} {tmps : Array Value} (h : RW ρ e tmps) : RW ρ' e tmps := ⟨fun t => (h.at_ t).mono hle⟩
theorem Env.ER (e : Env) (d t : Nat) (v : VV) : Env.get (Env.set e d v) t = if t = d then v else Env.get e t := by
 induction e generalizing d t with
 | nil =>
  induction d generalizing t with
  | zero => cases t <;> simp [Env.set, Env.get]
  | succ d ih =>
   cases t with
   | zero => simp [Env.set, Env.get]
   | succ t => have := ih t; simp [Env.set, Env.get] at this ⊢; exact this
 | cons x e ih =>
  cases d with
  | zero => cases t <;> simp [Env.set, Env.get]
  | succ d =>
   cases t with
   | zero => simp [Env.set, Env.get]
   | succ t => have := ih d t; simp [Env.set, Env.get] at this ⊢; exact this
theorem RW.put {ρ : Ren} {e : Env} {a : Act} (h : RW ρ e a.tmps) (d : Option Tmp) (hd : ∀ t, d = some t -> t < a.tmps.size) {v : VV} {mv : Value} (hv : Y0 ρ v mv) :
  RW ρ (e.put d v) (a.put d mv).tmps := by
 cases d with
 | none => exact h
 | some d =>
  have R3 := hd d rfl
  refine ⟨fun t => ?_⟩
  show Y0 ρ (Env.get (Env.set e d v) t) _
  rw [Env.ER]
  by_cases ht : t = d
  ·subst ht
   simp [Act.put, R3, hv]
  ·rw [if_neg ht]
   have : (a.put (some d) mv).tmps.getD t undef = a.tmps.getD t undef := by
    simp [Act.put, Array.getElem?_setIfInBounds_ne (Ne.symm ht)]
   rw [this]
   exact h.at_ t
theorem cy {ρ : Ren} {e : Env} {a : Act} (h : RW ρ e a.tmps) (x : Operand) : Y0 ρ (ev e x) (a.eval x) := by
 cases x with
 | tmp t => exact h.at_ t
 | const v =>
  show Y0 ρ ((n5 3 v).getD .undef) v
  cases hv : n5 3 v with
  | none => exact .undef v
  | some x => exact GJ ρ 3 v x hv
 | global g => exact .undef _
 | func f => exact .func _ [] [] #[] #[] rfl rfl (by simp) (by simp)
def UA (ρ : Ren) (l : Loc) (k : Es) (c : Array Value) : Prop :=
 ∀ (i : Nat) cs, k.es[i]? = some cs -> cs.length = l.L3 /\ cs.all H2 = true /\ ∀ (j : Nat) v, cs[j]? = some v -> ∃ mv, c[l.l6 + i * l.L3 + j]? = some mv /\ Y0 ρ v mv
inductive Cg (ρ : Ren) (l : Loc) : F2 -> Option Obj -> Prop
 | cells (k : Es) (c : Array Value) (t : TypeId) (fr : Nat × Nat) (hr : k.ro = false -> l.ro = false) (hs : c.size = l.iI) (he : k.L3 = l.L3) (h0 : 0 < l.L3) (U8 : l.l6 + k.es.length * l.L3 <= l.iI)
   (Ib : k.ro = false -> ∀ x, x < l.iI -> ¬ (fr.1 <= x /\ x < fr.2)) (hc : UA ρ l k c) : Cg ρ l (.cells k) (some (.cells c t fr))
 | map (es : List (VV × VV)) (P4 : Array MapEntry) (clock : Nat) (hl : es.length = P4.size) (J6 : MapKept.Stamped P4 clock)
   (h : ∀ (i : Nat) p m, es[i]? = some p -> P4[i]? = some m -> Y0 ρ p.1 m.key /\ Y0 ρ p.2 m.val) : Cg ρ l (.map es) (some (.map P4 clock))
def Is (l1 l2 : Loc) (o1 o2 : F2) : Prop :=
 ∃ k1 k2, o1 = .cells k1 /\ o2 = .cells k2 /\ ((k1.ro = true /\ k2.ro = true) \/ (k1.Q1 = k2.Q1 /\ l1.L3 = l2.L3 /\ l1.l6 + k2.E5 * l1.L3 = l2.l6 + k1.E5 * l1.L3))
structure Rel (ρ : Ren) (g : Nat -> Option F2) (w : World) : Prop where
 obj : ∀ b l, ρ b = some l -> ∃ o, g b = some o /\ Cg ρ l o w.heap[l.mb]?
 apart : ∀ b1 b2 l1 l2 o1 o2, ρ b1 = some l1 -> ρ b2 = some l2 -> g b1 = some o1 -> g b2 = some o2 -> b1 ≠ b2 -> l1.mb = l2.mb -> Is l1 l2 o1 o2
theorem Rel.lt {ρ : Ren} {g : Nat -> Option F2} {w : World} (h : Rel ρ g w) {b : Nat} {l : Loc} (hb : ρ b = some l) : l.mb < w.heap.size := by
 obtain ⟨o, _, ho⟩ := h.obj b l hb
 rcases Nat.lt_or_ge l.mb w.heap.size with h' | h'
 ·exact h'
 ·rw [Array.getElem?_eq_none h'] at ho; cases ho
structure WF (g : Nat -> Option F2) (next : Nat) : Prop where
 lt : ∀ b o, g b = some o -> b < next
 Q1 : ∀ b k, g b = some (.cells k) -> k.Q1 < next
 Q2 : ∀ b k, g b = some (.cells k) -> k.Q2 = true -> ∀ b' k', g b' = some (.cells k') -> b' ≠ b -> k'.Q1 ≠ k.Q1
 last : ∀ b k, g b = some (.cells k) -> k.last = true -> ∀ b' k', g b' = some (.cells k') -> k'.Q1 = k.Q1 -> k'.es.length = 0 \/ k'.E5 + k'.es.length <= k.E5 + k.es.length
 Gq : ∀ b k, g b = some (.cells k) -> k.last = true -> ∀ b' k', g b' = some (.cells k') -> k'.Q1 = k.Q1 -> k'.last = true -> b' = b
structure Step (ρ : Ren) (g : Nat -> Option F2) (n : Nat) (w : World) (ρ' : Ren) (g' : Nat -> Option F2) (n' : Nat) (w' : World) : Prop where
 gU : Rel ρ g w
 rel : Rel ρ' g' w'
 wf : WF g' n'
 le : Ren.le ρ ρ'
 oO : n <= n'
 os : w'.os = w.os
 tape : w'.tape = w.tape
 output : w'.output = w.output
 size : w.heap.size <= w'.heap.size
 old : ∀ B, B < w.heap.size -> (∀ b l, ρ b = some l -> l.mb = B -> ∃ k, g b = some (.cells k) /\ k.ro = true) -> w'.heap[B]? = w.heap[B]?
 new : ∀ b l, ρ' b = some l -> ρ b = some l \/ (n <= b /\ (w.heap.size <= l.mb \/ ∃ b0 l0 k, ρ b0 = some l0 /\ l0.mb = l.mb /\ g b0 = some (.cells k) /\ k.ro = false))
 ro : ∀ b k, g b = some (.cells k) -> ∃ k', g' b = some (.cells k') /\ k'.ro = k.ro
 pO : ∀ b es, g b = some (.map es) -> ∃ Aw, g' b = some (.map Aw)
theorem Step.refl {ρ : Ren} {g : Nat -> Option F2} {n : Nat} {w : World} (h : Rel ρ g w) (hw : WF g n) : Step ρ g n w ρ g n w :=
 ⟨h, h, hw, Ren.le.refl ρ, Nat.le_refl _, rfl, rfl, rfl, Nat.le_refl _, fun _ _ _ => rfl, fun _ _ h => .inl h, fun _ k h => ⟨k, h, rfl⟩, fun _ es h => ⟨es, h⟩⟩
theorem Step.drew {ρ ρ' : Ren} {g g' : Nat -> Option F2} {n n' : Nat} {w w' : World} (h : Step ρ g n w ρ' g' n' w') : Step ρ g n w ρ' g' n' w'.drew :=
 ⟨h.gU, ⟨h.rel.obj, h.rel.apart⟩, h.wf, h.le, h.oO, h.os, h.tape, h.output, h.size, h.old, h.new, h.ro, h.pO⟩
theorem Step.trans {ρ ρ1 ρ2 : Ren} {g g1 g2 : Nat -> Option F2} {n n1 n2 : Nat} {w w1 w2 : World} (h : Step ρ g n w ρ1 g1 n1 w1) (k : Step ρ1 g1 n1 w1 ρ2 g2 n2 w2) :
  Step ρ g n w ρ2 g2 n2 w2 := by
 refine ⟨h.gU, k.rel, k.wf, h.le.trans k.le, Nat.le_trans h.oO k.oO, k.os.trans h.os, k.tape.trans h.tape, k.output.trans h.output, Nat.le_trans h.size k.size, ?_, ?_, ?_, ?_⟩
 ·intro B hB B2
  refine (k.old B (Nat.lt_of_lt_of_le hB h.size) ?_).trans (h.old B hB B2)
  intro b l hb hl
  rcases h.new b l hb with h0 | ⟨_, h1 | ⟨b0, l0, k0, iq, PN, Rj, Gi⟩⟩
  ·obtain ⟨k1, El, hr⟩ := B2 b l h0 hl
   obtain ⟨k2, U9, e⟩ := h.ro b k1 El
   exact ⟨k2, U9, e.trans hr⟩
  ·omega
  ·obtain ⟨k1, El, hr⟩ := B2 b0 l0 iq (PN.trans hl)
   rw [Rj] at El
   simp only [U0, F2.cells.injEq] at El
   subst El
   rw [Gi] at hr; cases hr
 ·intro b l hb
  rcases k.new b l hb with h1 | ⟨hn, h1⟩
  ·exact h.new b l h1
  ·refine .inr ⟨Nat.le_trans h.oO hn, ?_⟩
   rcases h1 with h1 | ⟨b0, l0, k0, iq, PN, Rj, Gi⟩
   ·exact .inl (Nat.le_trans h.size h1)
   ·rcases h.new b0 l0 iq with h2 | ⟨_, h2 | ⟨b1, l1, k1, Rk, mH, xa, UC⟩⟩
    ·obtain ⟨o, ho, _⟩ := h.gU.obj b0 l0 h2
     cases o with
     | cells k1 =>
      obtain ⟨k2, U9, e⟩ := h.ro b0 k1 ho
      rw [Rj] at U9
      simp only [U0, F2.cells.injEq] at U9
      subst U9
      exact .inr ⟨b0, l0, k1, h2, PN, ho, e.symm.trans Gi⟩
     | map es =>
      obtain ⟨Yz, oi⟩ := h.pO b0 es ho
      rw [Rj] at oi; cases oi
    ·exact .inl (by omega)
    ·exact .inr ⟨b1, l1, k1, Rk, mH.trans PN, xa, UC⟩
 ·intro b k0 hb
  obtain ⟨k1, El, e1⟩ := h.ro b k0 hb
  obtain ⟨k2, U9, e2⟩ := k.ro b k1 El
  exact ⟨k2, U9, e2.trans e1⟩
 ·intro b es hb
  obtain ⟨Yz, h1⟩ := h.pO b es hb
  exact k.pO b Yz h1
end Go.Proofs.Ythlbahcggmbfaaa.V
namespace Go.Proofs.Ythlbahcggmbfaaa.V
open Go.RowKit
theorem DC.TQ : ∀ (k : Nat) (t : DC) (n m : Nat) (o : F2), n < k -> (DC.ins k t n o).find m = if m = n then some o else t.find m := by
 intro k
 induction k with
 | zero => intro t n m o h; omega
 | succ k ih =>
  intro t n m o h
  have hm : ∀ m : Nat, (match Nat.beq m 0 with | true => m = 0 | false => m ≠ 0) := fun m => by
   cases hb : Nat.beq m 0 with
   | true => exact B6 hb
   | false => exact Nat.ne_of_beq_eq_false hb
  have ho : ∀ m : Nat, (match Nat.beq (m % 2) 1 with | true => m % 2 = 1 | false => m % 2 ≠ 1) := fun m => by
   cases hb : Nat.beq (m % 2) 1 with
   | true => exact B6 hb
   | false => exact Nat.ne_of_beq_eq_false hb
  have key : ∀ (l : DC) (v : Option F2) (r : DC), (∀ m, t.find m = (DC.node l v r).find m) ->
    (match Nat.beq n 0 with
     | true => DC.node l (some o) r
     | false => match Nat.beq (n % 2) 1 with
      | true => .node (DC.ins k l (n / 2) o) v r
      | false => .node l v (DC.ins k r (n / 2 - 1) o)).find m = if m = n then some o else t.find m := by
   intro l v r ht
   rw [ht m]
   have h1 := hm n
   have h2 := hm m
   have h3 := ho n
   have h4 := ho m
   cases fl : Nat.beq n 0 with
   | true =>
    rw [fl] at h1
    simp only at h1
    subst h1
    cases UF : Nat.beq m 0 with
    | true => rw [UF] at h2; simp only at h2; subst h2; simp [DC.find]
    | false => rw [UF] at h2; simp only at h2; rw [if_neg h2]; simp [DC.find, UF]
   | false =>
    rw [fl] at h1
    simp only at h1
    cases oZ : Nat.beq (n % 2) 1 with
    | true =>
     rw [oZ] at h3
     simp only at h3
     cases UF : Nat.beq m 0 with
     | true => rw [UF] at h2; simp only at h2; subst h2; rw [if_neg (by omega)]; simp [DC.find]
     | false =>
      rw [UF] at h2; simp only at h2
      cases Zc : Nat.beq (m % 2) 1 with
      | true =>
       rw [Zc] at h4; simp only at h4
       simp only [DC.find, UF, Zc]
       rw [ih l (n / 2) (m / 2) o (by omega)]
       by_cases he : m = n
       ·rw [if_pos he, if_pos (by rw [he])]
       ·rw [if_neg he, if_neg (by omega)]
      | false =>
       rw [Zc] at h4; simp only at h4
       simp only [DC.find, UF, Zc]
       rw [if_neg (by intro e; subst e; exact h4 h3)]
    | false =>
     rw [oZ] at h3
     simp only at h3
     cases UF : Nat.beq m 0 with
     | true => rw [UF] at h2; simp only at h2; subst h2; rw [if_neg (by omega)]; simp [DC.find]
     | false =>
      rw [UF] at h2; simp only at h2
      cases Zc : Nat.beq (m % 2) 1 with
      | true =>
       rw [Zc] at h4; simp only at h4
       simp only [DC.find, UF, Zc]
       rw [if_neg (by intro e; subst e; exact h3 h4)]
      | false =>
       rw [Zc] at h4; simp only at h4
       simp only [DC.find, UF, Zc]
       rw [ih r (n / 2 - 1) (m / 2 - 1) o (by omega)]
       by_cases he : m = n
       ·rw [if_pos he, if_pos (by rw [he])]
       ·rw [if_neg he, if_neg (by omega)]
  cases t with
  | nil => exact key .nil none .nil (fun m => by
    simp only [DC.find]
    cases Nat.beq m 0 <;> simp only <;> cases Nat.beq (m % 2) 1 <;> rfl)
  | node l v r => exact key l v r (fun _ => rfl)
theorem DC.Nf (f : F2 -> F2) : ∀ (t : DC) (n : Nat), (t.map f).find n = (t.find n).map f
 | .nil, _ => rfl
 | .node l v r, n => by
  simp only [DC.map, DC.find]
  cases Nat.beq n 0 with
  | true => rfl
  | false =>
   cases Nat.beq (n % 2) 1 with
   | true => exact DC.Nf f l _
   | false => exact DC.Nf f r _
theorem A0.get_eq (h : A0) (b : Nat) : h.get b = if b < h.next then h.X5.find b else none := by
 unfold A0.get
 cases hb : Nat.ble h.next b with
 | true => have := Nat.le_of_ble_eq_true hb; rw [if_neg (by omega)]
 | false =>
  have : ¬ h.next <= b := fun hle => by rw [Nat.ble_eq_true_of_le hle] at hb; cases hb
  rw [if_pos (by omega)]
theorem A0.E7 {h : A0} {b : Nat} {o : F2} (hb : h.get b = some o) : b < h.next := by
 rw [A0.get_eq] at hb
 split at hb
 ·assumption
 ·cases hb
theorem A0.V0 (h : A0) (o : F2) (b : Nat) : (h.push o).get b = if b = h.next then some o else h.get b := by
 rw [A0.get_eq, A0.get_eq]
 show (if b < h.next + 1 then (DC.ins (h.next + 1) h.X5 h.next o).find b else none) = _
 rw [DC.TQ _ _ _ _ _ (by omega)]
 by_cases hb : b = h.next
 ·subst hb; rw [if_pos (by omega), if_pos rfl]; simp
 ·rw [if_neg hb, if_neg hb]
  by_cases R3 : b < h.next
  ·rw [if_pos (by omega), if_pos R3]
  ·rw [if_neg (by omega), if_neg R3]
theorem A0.Cy (h : A0) (b : Nat) (o : F2) (hb : b < h.next) (b' : Nat) : (h.put b o).get b' = if b' = b then some o else h.get b' := by
 rw [A0.get_eq, A0.get_eq]
 show (if b' < h.next then (DC.ins (b + 1) h.X5 b o).find b' else none) = _
 rw [DC.TQ _ _ _ _ _ (by omega)]
 by_cases H3 : b' = b
 ·subst H3; rw [if_pos hb]; simp
 ·rw [if_neg H3, if_neg H3]
theorem A0.Nc (h : A0) (Q1 lo b : Nat) : (h.kill Q1 lo).get b = (h.get b).map (D5 Q1 lo) := by
 rw [A0.get_eq, A0.get_eq]
 show (if b < h.next then (h.X5.map (D5 Q1 lo)).find b else none) = _
 rw [DC.Nf]
 split <;> rfl
@[simp] theorem A0.JM (h : A0) (o : F2) : (h.push o).next = h.next + 1 := rfl
@[simp] theorem A0.next_put (h : A0) (b : Nat) (o : F2) : (h.put b o).next = h.next := rfl
@[simp] theorem A0.next_kill (h : A0) (Q1 lo : Nat) : (h.kill Q1 lo).next = h.next := rfl
@[simp] theorem next_fresh (h : A0) (es : List (List VV)) (z : Nat) : (fresh h es z).next = h.next + 1 := rfl
def Ren.add (ρ : Ren) (b : Nat) (l : Loc) : Ren := fun b' => if b' = b then some l else ρ b'
theorem Ren.NO {ρ : Ren} {b : Nat} {l : Loc} (h : ρ b = none) : Ren.le ρ (ρ.add b l) := fun b' l' hb => by
 unfold Ren.add
 split
 ·subst b'; rw [h] at hb; cases hb
 ·exact hb
theorem Cg.mono {ρ ρ' : Ren} (hle : Ren.le ρ ρ') {l : Loc} {o : F2} {m : Option Obj} (h : Cg ρ l o m) : Cg ρ' l o m := by
 cases h with
 | cells k c t fr B2 hs he h0 U8 Ib hc =>
  exact .cells k c t fr B2 hs he h0 U8 Ib fun i cs Q3 => by
   obtain ⟨a, b, d⟩ := hc i cs Q3
   exact ⟨a, b, fun j v hv => let ⟨mv, x, y⟩ := d j v hv; ⟨mv, x, y.mono hle⟩⟩
 | map es P4 clock hl J6 h => exact .map es P4 clock hl J6 fun i p m hp hm => let ⟨a, b⟩ := h i p m hp hm; ⟨a.mono hle, b.mono hle⟩
theorem Rel.insert {ρ : Ren} {g g' : Nat -> Option F2} {w : World} (hR : Rel ρ g w) {b : Nat} {l : Loc} {o : F2} (hb : ρ b = none)
  (hg : g' b = some o) (Dt : ∀ b', b' ≠ b -> ρ b' ≠ none -> g' b' = g b') (ho : Cg ρ l o w.heap[l.mb]?)
  (ot : ∀ b2 l2 o2, ρ b2 = some l2 -> g b2 = some o2 -> l2.mb = l.mb -> Is l l2 o o2) : Rel (ρ.add b l) g' w := by
 have hle := Ren.NO (l := l) hb
 have Y3 : ∀ b' l', ρ b' = some l' -> b' ≠ b := fun b' l' h e => by subst e; rw [hb] at h; cases h
 have swap : ∀ {l1 l2 : Loc} {o1 o2 : F2}, Is l1 l2 o1 o2 -> Is l2 l1 o2 o1 := by
  rintro l1 l2 o1 o2 ⟨k1, k2, h1, h2, h | ⟨h3, h4, h5⟩⟩
  ·exact ⟨k2, k1, h2, h1, .inl ⟨h.2, h.1⟩⟩
  ·exact ⟨k2, k1, h2, h1, .inr ⟨h3.symm, h4.symm, by rw [<- h4]; exact h5.symm⟩⟩
 refine ⟨fun b' l' H3 => ?_, fun b1 b2 l1 l2 o1 o2 h1 h2 g1 g2 cM Ek => ?_⟩
 ·unfold Ren.add at H3
  split at H3
  ·rename_i e; subst e
   simp only [U0] at H3; subst H3
   exact ⟨o, hg, ho.mono hle⟩
  ·rename_i e
   obtain ⟨o', CV, hr⟩ := hR.obj b' l' H3
   exact ⟨o', by rw [Dt b' e (by rw [H3]; simp)]; exact CV, hr.mono hle⟩
 ·unfold Ren.add at h1 h2
  split at h1
  ·rename_i e1; subst e1
   simp only [U0] at h1; subst h1
   rw [if_neg (Ne.symm cM)] at h2
   rw [hg] at g1
   simp only [U0] at g1; subst g1
   rw [Dt b2 (Ne.symm cM) (by rw [h2]; simp)] at g2
   exact ot b2 l2 o2 h2 g2 Ek.symm
  ·rename_i e1
   split at h2
   ·rename_i e2; subst e2
    simp only [U0] at h2; subst h2
    rw [hg] at g2
    simp only [U0] at g2; subst g2
    rw [Dt b1 e1 (by rw [h1]; simp)] at g1
    exact swap (ot b1 l1 o1 h1 g1 Ek)
   ·rename_i e2
    rw [Dt b1 e1 (by rw [h1]; simp)] at g1
    rw [Dt b2 e2 (by rw [h2]; simp)] at g2
    exact hR.apart b1 b2 l1 l2 o1 o2 h1 h2 g1 g2 cM Ek
theorem Rel.world {ρ : Ren} {g : Nat -> Option F2} {w w' : World} (hR : Rel ρ g w) (h : ∀ k, k < w.heap.size -> w'.heap[k]? = w.heap[k]?) : Rel ρ g w' :=
 ⟨fun b l hb => by
  obtain ⟨o, ho, hr⟩ := hR.obj b l hb
  exact ⟨o, ho, by rw [h _ (hR.lt hb)]; exact hr⟩, hR.apart⟩
theorem Rel.none {ρ : Ren} {g : Nat -> Option F2} {n : Nat} {w : World} (hR : Rel ρ g w) (hw : WF g n) {b : Nat} (hb : n <= b) : ρ b = none := by
 cases h : ρ b with
 | none => rfl
 | some l =>
  obtain ⟨o, ho, _⟩ := hR.obj b l h
  have := hw.lt b o ho
  omega
structure OJ (w w' : World) (m : Obj) : Prop where
 size : w'.heap.size = w.heap.size + 1
 at_ : w'.heap[w.heap.size]? = some m
 old : ∀ k, k < w.heap.size -> w'.heap[k]? = w.heap[k]?
 os : w'.os = w.os
 tape : w'.tape = w.tape
 output : w'.output = w.output
theorem q9 (w : World) (m : Obj) : OJ w (w.alloc m) m := ⟨by simp, heap_alloc_new w m, fun _ hk => Below.heap_alloc _ _ _ hk, rfl, rfl, rfl⟩
theorem SF {ρ : Ren} {h : A0} {w w' : World} (hR : Rel ρ h.get w) (hw : WF h.get h.next) (o : F2) (m : Obj) (hN : OJ w w' m) (l : Loc) (hl : l.mb = w.heap.size)
  (ho : Cg ρ l o (some m)) (hf : ∀ k, o = .cells k -> k.Q1 = h.next) : Step ρ h.get h.next w (ρ.add h.next l) (h.push o).get (h.next + 1) w' := by
 have hn := hR.none hw (Nat.le_refl h.next)
 have fx : Rel ρ h.get w' := hR.world hN.old
 have uv : Rel (ρ.add h.next l) (h.push o).get w' := by
  refine fx.insert (o := o) hn (by rw [A0.V0, if_pos rfl]) (fun b hb _ => by rw [A0.V0, if_neg hb]) ?_ ?_
  ·rw [hl, hN.at_]; exact ho
  ·intro b2 l2 o2 h2 _ Ek
   have := hR.lt h2
   omega
 refine ⟨hR, uv, ?_, Ren.NO hn, Nat.le_succ _, hN.os, hN.tape, hN.output, by rw [hN.size]; omega, fun B hB _ => hN.old B hB, ?_, ?_, ?_⟩
 ·refine ⟨?_, ?_, ?_, ?_, ?_⟩
  ·intro b o' hb
   rw [A0.V0] at hb
   split at hb
   ·omega
   ·have := hw.lt b o' hb; omega
  ·intro b k hb
   rw [A0.V0] at hb
   split at hb
   ·simp only [U0] at hb; have := hf k hb; omega
   ·have := hw.Q1 b k hb; omega
  ·intro b k hb hs b' k' H3 Y3
   rw [A0.V0] at hb H3
   split at hb
   ·rename_i e; subst e
    simp only [U0] at hb
    rw [if_neg Y3] at H3
    have := hw.Q1 b' k' H3
    have := hf k hb
    omega
   ·split at H3
    ·simp only [U0] at H3
     have := hw.Q1 b k hb
     have := hf k' H3
     omega
    ·exact hw.Q2 b k hb hs b' k' H3 Y3
  ·intro b k hb hs b' k' H3 CW
   rw [A0.V0] at hb H3
   split at hb
   ·rename_i e; subst e
    split at H3
    ·rename_i e'; subst e'
     rw [hb] at H3
     simp only [U0, F2.cells.injEq] at H3; subst H3; exact .inr (Nat.le_refl _)
    ·simp only [U0] at hb
     have := hw.Q1 b' k' H3
     have := hf k hb
     omega
   ·split at H3
    ·simp only [U0] at H3
     have := hw.Q1 b k hb
     have := hf k' H3
     omega
    ·exact hw.last b k hb hs b' k' H3 CW
  ·intro b k hb hs b' k' H3 CW Oa
   rw [A0.V0] at hb H3
   split at hb
   ·rename_i e; subst e
    split at H3
    ·assumption
    ·simp only [U0] at hb
     have := hw.Q1 b' k' H3
     have := hf k hb
     omega
   ·split at H3
    ·simp only [U0] at H3
     have := hw.Q1 b k hb
     have := hf k' H3
     omega
    ·exact hw.Gq b k hb hs b' k' H3 CW Oa
 ·intro b l' hb
  unfold Ren.add at hb
  split at hb
  ·rename_i e; subst e
   simp only [U0] at hb; subst hb
   exact .inr ⟨Nat.le_refl _, .inl (by omega)⟩
  ·exact .inl hb
 ·intro b k hb
  refine ⟨k, ?_, rfl⟩
  rw [A0.V0, if_neg (by have := hw.lt b _ hb; omega)]
  exact hb
 ·intro b es hb
  refine ⟨es, ?_⟩
  rw [A0.V0, if_neg (by have := hw.lt b _ hb; omega)]
  exact hb
end Go.Proofs.Ythlbahcggmbfaaa.V
namespace Go.Proofs.Ythlbahcggmbfaaa.V
open Go.RowKit
structure Jk (w w' : World) (mb : Nat) : Prop where
 size : w'.heap.size = w.heap.size
 os : w'.os = w.os
 tape : w'.tape = w.tape
 output : w'.output = w.output
 other : ∀ k, k ≠ mb -> w'.heap[k]? = w.heap[k]?
theorem Jk.refl (w : World) (mb : Nat) : Jk w w mb := ⟨rfl, rfl, rfl, rfl, fun _ _ => rfl⟩
theorem Jk.trans {a b c : World} {mb : Nat} (h : Jk a b mb) (k : Jk b c mb) : Jk a c mb :=
 ⟨k.size.trans h.size, k.os.trans h.os, k.tape.trans h.tape, k.output.trans h.output, fun i hi => (k.other i hi).trans (h.other i hi)⟩
theorem Sh (w : World) (g : Nat) (cs : Array Value) : Jk w (w.setRow g cs) g := ⟨by simp, rfl, rfl, rfl, fun k hk => setRow_other w g k cs hk⟩
theorem n9 (P : Program) (mb o : Nat) (t : TypeId) (fr : Nat × Nat) : ∀ (vs : List Value) (i : Nat) (c : Array Value) (w : World), w.heap[mb]? = some (.cells c t fr) ->
  o + i + vs.length <= c.size -> (∀ x, x < c.size -> ¬ (fr.1 <= x /\ x < fr.2)) -> (∀ v ∈ vs, v.oneCell' = true) ->
  ∃ w' c', (storeCells ⟨mb, o, none⟩ vs i).run P w = .ok () w' /\ Jk w w' mb /\ w'.heap[mb]? = some (.cells c' t fr) /\ c'.size = c.size /\
   (∀ x, x < o + i -> c'[x]? = c[x]?) /\ (∀ x, o + i + vs.length <= x -> c'[x]? = c[x]?) /\ (∀ (j : Nat) v, vs[j]? = some v -> c'[o + i + j]? = some v)
 | [], i, c, w, hg, _, _, _ => ⟨w, c, by simp [storeCells], Jk.refl w mb, hg, rfl, fun _ _ => rfl, fun _ _ => rfl, by simp⟩
 | v :: vs, i, c, w, hg, hlen, Ib, h1 => by
  have iu : ∀ j : Nat, (⟨mb, o, none⟩ : Addr).add j = ⟨mb, o + j, none⟩ := by intro j; unfold Addr.add; split <;> simp_all
  have R3 : o + i < c.size := by simp at hlen; omega
  have Em : w.cell? ⟨mb, o + i, none⟩ = some c[o + i] := by rw [cell_of_row w mb (o + i) c t fr hg, Array.getElem?_eq_getElem R3]
  have xb : w.frozen? ⟨mb, o + i, none⟩ = false := by
   simp only [World.frozen?, hg]
   have := Ib (o + i) R3
   by_cases h : fr.1 <= o + i
   ·by_cases h' : o + i < fr.2
    ·exact absurd ⟨h, h'⟩ this
    ·simp [h']
   ·simp [h]
  have J6 : (store ((⟨mb, o, none⟩ : Addr).add i) v).run P w = .ok () (w.setRow mb (c.setIfInBounds (o + i) v)) := by
   rw [iu, run_store P w _ v .plain (h1 v (by simp)), Em]
   simp only [xb, Bool.false_eq_true, if_false, setCell_eq_setRow w mb (o + i) c t fr v hg]
  obtain ⟨w', c', j4, T9, hh, EO, LA, Yp, Of⟩ := n9 P mb o t fr vs (i + 1) (c.setIfInBounds (o + i) v) (w.setRow mb (c.setIfInBounds (o + i) v))
   (setRow_heap w mb c _ t fr hg) (by simp at hlen ⊢; omega) (by simpa using Ib) (fun u hu => h1 u (by simp [hu]))
  refine ⟨w', c', ?_, (Sh w mb _).trans T9, hh, by simpa using EO, ?_, ?_, ?_⟩
  ·simp only [storeCells, Sem.run_bind, J6, Result.andThen_ok]; exact j4
  ·intro x hx
   rw [LA x (by omega), Array.getElem?_setIfInBounds_ne (by omega)]
  ·intro x hx
   rw [Yp x (by simp at hx; omega), Array.getElem?_setIfInBounds_ne (by simp at hx; omega)]
  ·intro j u hu
   cases j with
   | zero =>
    simp at hu; subst hu
    rw [Nat.add_zero, LA (o + i) (by omega)]
    simp [R3]
   | succ j =>
    have := Of j u (by simpa using hu)
    rwa [show o + i + (j + 1) = o + (i + 1) + j by omega]
theorem HM {ρ : Ren} {h : A0} {w w' : World} (hR : Rel ρ h.get w) (hw : WF h.get h.next) {b : Nat} {k : Es} {l : Loc} (hb : ρ b = some l) (hg : h.get b = some (.cells k)) (B2 : k.ro = false)
  (i0 : Nat) (Aw : List (List VV)) (hlen : Aw.length = k.es.length) {c c' : Array Value} {t : TypeId} {fr : Nat × Nat} (hm : w.heap[l.mb]? = some (.cells c t fr)) (hs : c'.size = c.size)
  (LA : ∀ x, x < l.l6 + i0 * l.L3 -> c'[x]? = c[x]?) (Wz : UA ρ l { k with es := Aw } c') (oR : w'.heap[l.mb]? = some (.cells c' t fr)) (ho : Jk w w' l.mb) :
  Step ρ h.get h.next w ρ ((match k.Q2 with | true => h | false => h.kill k.Q1 (k.E5 + i0)).put b (.cells { k with es := Aw })).get
   ((match k.Q2 with | true => h | false => h.kill k.Q1 (k.E5 + i0)).put b (.cells { k with es := Aw })).next w' := by
 have R3 := A0.E7 hg
 have T6 : ((match k.Q2 with | true => h | false => h.kill k.Q1 (k.E5 + i0)).put b (.cells { k with es := Aw })).next = h.next := by cases k.Q2 <;> rfl
 generalize kA : (match k.Q2 with | true => h | false => h.kill k.Q1 (k.E5 + i0)).put b (.cells { k with es := Aw }) = h' at T6 ⊢
 
 have gb : h'.get b = some (.cells { k with es := Aw }) := by
  rw [<- kA, A0.Cy _ _ _ (by cases k.Q2 <;> exact R3), if_pos rfl]
 have iw : ∀ b', b' ≠ b -> (∀ k', h.get b' = some (.cells k') -> ∃ fb, h'.get b' = some (.cells fb) /\ fb.ro = k'.ro /\ fb.L3 = k'.L3 /\ fb.Q1 = k'.Q1 /\ fb.E5 = k'.E5 /\ fb.Q2 = k'.Q2 /\
   (fb.last = true -> k'.last = true /\ fb.es = k'.es) /\ (fb.es = k'.es /\ (k'.Q1 = k.Q1 -> k'.E5 + k'.es.length <= k.E5 + i0) \/ fb.es = [])) /\
   ((∀ k', h.get b' ≠ some (.cells k')) -> h'.get b' = h.get b') := by
  intro b' Y3
  cases Gs : k.Q2 with
  | true =>
   have e : h'.get b' = h.get b' := by
    rw [<- kA, Gs]
    show (h.put b _).get b' = _
    rw [A0.Cy _ _ _ R3, if_neg Y3]
   exact ⟨fun k' Ze => ⟨k', e.trans Ze, rfl, rfl, rfl, rfl, rfl, fun h => ⟨h, rfl⟩, .inl ⟨rfl, fun hf => absurd hf (hw.Q2 b k hg Gs b' k' Ze Y3)⟩⟩, fun _ => e⟩
  | false =>
   have e : h'.get b' = (h.get b').map (D5 k.Q1 (k.E5 + i0)) := by
    rw [<- kA, Gs]
    show ((h.kill _ _).put b _).get b' = _
    rw [A0.Cy _ _ _ (show b < (h.kill k.Q1 (k.E5 + i0)).next from R3), if_neg Y3, A0.Nc]
   refine ⟨fun k' Ze => ?_, fun Ds => ?_⟩
   ·rw [Ze] at e
    simp only [Option.map_some, D5] at e
    split at e
    ·split at e
     ·exact ⟨_, e, rfl, rfl, rfl, rfl, rfl, (fun h => by cases h), .inr rfl⟩
     ·exact ⟨_, e, rfl, rfl, rfl, rfl, rfl, (fun h => by cases h), .inl ⟨rfl, fun _ => by omega⟩⟩
    ·rename_i hf
     exact ⟨_, e, rfl, rfl, rfl, rfl, rfl, fun h => ⟨h, rfl⟩, .inl ⟨rfl, fun xf => absurd xf hf⟩⟩
   ·rw [e]
    cases cU : h.get b' with
    | none => rfl
    | some o =>
     cases o with
     | map es => rfl
     | cells k' => exact absurd cU (Ds k')
 
 have U3 : Rel ρ h'.get w' := by
  refine ⟨fun b2 l2 h2 => ?_, fun b1 b2 l1 l2 o1 o2 h1 h2 g1 g2 Y3 Ek => ?_⟩
  ·by_cases Cw : b2 = b
   ·subst Cw
    rw [hb] at h2; simp only [U0] at h2; subst h2
    refine ⟨_, gb, ?_⟩
    rw [oR]
    obtain ⟨o, Fg, hr⟩ := hR.obj b2 l hb
    rw [hg] at Fg; simp only [U0] at Fg; subst Fg
    rw [hm] at hr
    cases hr with
    | cells k c t fr Gi OZ he h0 U8 Ib hc =>
     exact .cells _ c' t fr Gi (hs.trans OZ) he h0 (by rw [show ({ k with es := Aw } : Es).es.length = k.es.length from hlen]; exact U8) Ib Wz
   ·obtain ⟨o, Fg, hr⟩ := hR.obj b2 l2 h2
    cases o with
    | map es =>
     refine ⟨.map es, ((iw b2 Cw).2 (fun k' e => by rw [Fg] at e; cases e)).trans Fg, ?_⟩
     by_cases Ek : l2.mb = l.mb
     ·obtain ⟨k2, k1, e2, _⟩ := hR.apart b2 b l2 l _ _ h2 hb Fg hg Cw Ek
      cases e2
     ·rw [ho.other l2.mb Ek]; exact hr
    | cells k2 =>
     obtain ⟨k3, e3, p1, p2, p3, p4, p5, p6, p7⟩ := (iw b2 Cw).1 k2 Fg
     refine ⟨.cells k3, e3, ?_⟩
     by_cases Ek : l2.mb = l.mb
     ·obtain ⟨sG, k1, e2, e1, cD⟩ := hR.apart b2 b l2 l _ _ h2 hb Fg hg Cw Ek
      cases e1; cases e2
      rcases cD with ⟨_, h5⟩ | ⟨hf, fq, Rl⟩
      ·rw [B2] at h5; cases h5
      ·rw [Ek, oR]
       rw [Ek, hm] at hr
       cases hr with
       | cells k2 c t fr Gi OZ he h0 U8 Ib hc =>
        rcases p7 with ⟨q1, q2⟩ | q1
        ·have ij := q2 hf
         refine .cells k3 c' t fr (fun h => Gi (p1 ▸ h)) (hs.trans OZ) (p2.trans he) h0 (by rw [q1]; exact U8) (fun h => Ib (p1 ▸ h)) fun i cs Q3 => ?_
         rw [q1] at Q3
         obtain ⟨a1, a2, a3⟩ := hc i cs Q3
         refine ⟨a1, a2, fun j v hv => ?_⟩
         obtain ⟨mv, OM, KW⟩ := a3 j v hv
         refine ⟨mv, ?_, KW⟩
         rw [LA _ ?_]
         ·exact OM
         ·have hi : i < k2.es.length := (List.getElem?_eq_some_iff.1 Q3).1
          have hj : j < l2.L3 := by rw [<- a1]; exact (List.getElem?_eq_some_iff.1 hv).1
          have m1 : (i + 1) * l2.L3 <= k2.es.length * l2.L3 := Nat.mul_le_mul_right _ hi
          have m2 : (k2.E5 + k2.es.length) * l2.L3 <= (k.E5 + i0) * l2.L3 := Nat.mul_le_mul_right _ ij
          simp only [Nat.add_mul, Nat.one_mul] at m1 m2
          rw [<- fq]
          omega
        ·exact .cells k3 c' t fr (fun h => Gi (p1 ▸ h)) (hs.trans OZ) (p2.trans he) h0 (by rw [q1]; simp only [List.length_nil, Nat.zero_mul]; omega) (fun h => Ib (p1 ▸ h)) fun i cs Q3 => by rw [q1] at Q3; simp at Q3
     ·rw [ho.other l2.mb Ek]
      generalize w.heap[l2.mb]? = m at hr
      cases hr with
      | cells k2 c t fr Gi OZ he h0 U8 Ib hc =>
       rcases p7 with ⟨q1, _⟩ | q1
       ·exact .cells k3 c t fr (fun h => Gi (p1 ▸ h)) OZ (p2.trans he) h0 (by rw [q1]; exact U8) (fun h => Ib (p1 ▸ h)) fun i cs Q3 => hc i cs (by rw [<- q1]; exact Q3)
       ·exact .cells k3 c t fr (fun h => Gi (p1 ▸ h)) OZ (p2.trans he) h0 (by rw [q1]; simp only [List.length_nil, Nat.zero_mul]; omega) (fun h => Ib (p1 ▸ h)) fun i cs Q3 => by rw [q1] at Q3; simp at Q3
  · 
   have keep : ∀ b' l' o', ρ b' = some l' -> h'.get b' = some o' -> ∃ o, h.get b' = some o /\ (o' = o \/ ∃ k k', o = .cells k /\ o' = .cells k' /\ k'.ro = k.ro /\ k'.Q1 = k.Q1 /\ k'.E5 = k.E5) := by
    intro b' l' o' H3 Dt
    by_cases Cw : b' = b
    ·subst Cw
     rw [gb] at Dt; simp only [U0] at Dt; subst Dt
     exact ⟨_, hg, .inr ⟨k, _, rfl, rfl, rfl, rfl, rfl⟩⟩
    ·obtain ⟨o, Fg, _⟩ := hR.obj b' l' H3
     cases o with
     | map es =>
      have := (iw b' Cw).2 (fun k' e => by rw [Fg] at e; cases e)
      exact ⟨o', by rw [<- this]; exact Dt, .inl rfl⟩
     | cells k' =>
      obtain ⟨k3, e3, p1, _, p3, p4, _⟩ := (iw b' Cw).1 k' Fg
      rw [e3] at Dt; simp only [U0] at Dt; subst Dt
      exact ⟨_, Fg, .inr ⟨k', k3, rfl, rfl, p1, p3, p4⟩⟩
   obtain ⟨p1, q1, r1⟩ := keep b1 l1 o1 h1 g1
   obtain ⟨p2, q2, r2⟩ := keep b2 l2 o2 h2 g2
   obtain ⟨k1, k2, e1, e2, cD⟩ := hR.apart b1 b2 l1 l2 p1 p2 h1 h2 q1 q2 Y3 Ek
   have s1 : ∃ k', o1 = .cells k' /\ k'.ro = k1.ro /\ k'.Q1 = k1.Q1 /\ k'.E5 = k1.E5 := by
    rcases r1 with rfl | ⟨x, y, hx, hy, z⟩
    ·exact ⟨k1, e1, rfl, rfl, rfl⟩
    ·rw [e1] at hx; simp only [F2.cells.injEq] at hx; subst hx; exact ⟨y, hy, z⟩
   have s2 : ∃ k', o2 = .cells k' /\ k'.ro = k2.ro /\ k'.Q1 = k2.Q1 /\ k'.E5 = k2.E5 := by
    rcases r2 with rfl | ⟨x, y, hx, hy, z⟩
    ·exact ⟨k2, e2, rfl, rfl, rfl⟩
    ·rw [e2] at hx; simp only [F2.cells.injEq] at hx; subst hx; exact ⟨y, hy, z⟩
   obtain ⟨tU, f1, a1, a2, a3⟩ := s1
   obtain ⟨sG, f2, c1, c2, c3⟩ := s2
   refine ⟨tU, sG, f1, f2, ?_⟩
   rw [a1, a2, a3, c1, c2, c3]
   exact cD
 
 have Na : ∀ b' k', h'.get b' = some (.cells k') -> ∃ k0, h.get b' = some (.cells k0) /\ k'.Q1 = k0.Q1 /\ k'.Q2 = k0.Q2 /\ k'.E5 = k0.E5 /\ k'.ro = k0.ro /\
   k'.es.length <= k0.es.length /\ (k'.last = true -> k0.last = true /\ k'.es.length = k0.es.length) := by
  intro b' k' Dt
  by_cases Cw : b' = b
  ·subst Cw
   rw [gb] at Dt; simp only [U0, F2.cells.injEq] at Dt; subst Dt
   exact ⟨k, hg, rfl, rfl, rfl, rfl, by simp [hlen], fun hl => ⟨hl, hlen⟩⟩
  ·cases Fg : h.get b' with
   | none =>
    have := (iw b' Cw).2 (fun k0 e => by rw [Fg] at e; cases e)
    rw [this, Fg] at Dt; cases Dt
   | some o =>
    cases o with
    | map es =>
     have := (iw b' Cw).2 (fun k0 e => by rw [Fg] at e; cases e)
     rw [this, Fg] at Dt; cases Dt
    | cells k0 =>
     obtain ⟨k3, e3, p1, _, p3, p4, p5, p6, p7⟩ := (iw b' Cw).1 k0 Fg
     rw [e3] at Dt; simp only [U0, F2.cells.injEq] at Dt; subst Dt
     refine ⟨k0, rfl, p3, p5, p4, p1, ?_, fun hl => ⟨(p6 hl).1, by rw [(p6 hl).2]⟩⟩
     rcases p7 with ⟨q1, _⟩ | q1 <;> rw [q1]
     ·exact Nat.le_refl _
     ·simp
 have qU : WF h'.get h.next := by
  refine ⟨fun b' o' H3 => ?_, fun b' k' H3 => ?_, fun b' k' H3 Oa b2 k2 Er Y3 => ?_, fun b' k' H3 cR b2 k2 Er hf => ?_, fun b' k' H3 cR b2 k2 Er hf Iu => ?_⟩
  ·have := A0.E7 H3; omega
  ·obtain ⟨k0, h0, e, _⟩ := Na b' k' H3
   rw [e]; exact hw.Q1 b' k0 h0
  ·obtain ⟨k0, h0, e, es, _⟩ := Na b' k' H3
   obtain ⟨k1, h1, e1, _⟩ := Na b2 k2 Er
   rw [e, e1]
   exact hw.Q2 b' k0 h0 (es ▸ Oa) b2 k1 h1 Y3
  ·obtain ⟨k0, h0, e, _, eo, _, _, el⟩ := Na b' k' H3
   obtain ⟨k1, h1, e1, _, yI, _, yJ, _⟩ := Na b2 k2 Er
   obtain ⟨PN, cQ⟩ := el cR
   have := hw.last b' k0 h0 PN b2 k1 h1 (by rw [<- e, <- e1]; exact hf)
   omega
  ·obtain ⟨k0, h0, e, _, _, _, _, el⟩ := Na b' k' H3
   obtain ⟨k1, h1, e1, _, _, _, _, vL⟩ := Na b2 k2 Er
   exact hw.Gq b' k0 h0 (el cR).1 b2 k1 h1 (by rw [<- e, <- e1]; exact hf) (vL Iu).1
 refine ⟨hR, U3, by rw [T6]; exact qU, Ren.le.refl ρ, by omega, ho.os, ho.tape, ho.output, by rw [ho.size]; exact Nat.le_refl _, fun B hB X7 => ?_, fun _ _ h => .inl h, fun b' k' H3 => ?_, fun b' es H3 => ?_⟩
 ·by_cases Ek : B = l.mb
  ·subst Ek
   obtain ⟨k1, El, UC⟩ := X7 b l hb rfl
   rw [hg] at El; simp only [U0, F2.cells.injEq] at El; subst El
   rw [B2] at UC; cases UC
  ·exact ho.other B Ek
 ·by_cases Cw : b' = b
  ·subst Cw
   rw [hg] at H3; simp only [U0, F2.cells.injEq] at H3; subst H3
   exact ⟨_, gb, rfl⟩
  ·obtain ⟨k3, e3, p1, _⟩ := (iw b' Cw).1 k' H3
   exact ⟨k3, e3, p1⟩
 ·by_cases Cw : b' = b
  ·subst Cw; rw [hg] at H3; cases H3
  ·exact ⟨es, ((iw b' Cw).2 (fun k0 e => by rw [H3] at e; cases e)).trans H3⟩
end Go.Proofs.Ythlbahcggmbfaaa.V
namespace Go.Proofs.Ythlbahcggmbfaaa.V
open Go.RowKit
section
variable {P : Program} {ρ : Ren} {w : World}
theorem info_of_underlying {t : TypeId} {d : TypeDesc} (h : P.underlying t = some d) : ∃ i, P.info? t = some i := by
  unfold Program.underlying at h
  split at h
  · exact ⟨_, ‹_›⟩
  · exact ⟨_, ‹_›⟩
  · cases h
theorem L6 {t : TypeId} (h : P.cellsOf t ≠ 0) : ∃ i, P.info? t = some i := by
  unfold Program.cellsOf at h
  cases hi : P.info? t with
  | none => simp [hi] at h
  | some i => exact ⟨i, rfl⟩
theorem KF {t : TypeId} {d : TypeDesc} (h : P.underlying t = some d) (w : World) : (sizeOf t).run P w = .ok (P.cellsOf t) w := by
  obtain ⟨i, hi⟩ := info_of_underlying h
  exact run_sizeOf w hi
def RR : TypeDesc -> Bool
  | .struct _ => true
  | .array _ _ => true
  | _ => false
theorem GH {t : TypeId} {d : TypeDesc} (h : P.underlying t = some d) (w : World) :
    (isAgg t).run P w = .ok (RR d) w := by
  unfold isAgg
  simp only [Sem.run_bind, run_underlying h, Result.andThen_ok]
  cases d <;> rfl
theorem toList_extract (x : Array Value) (a b : Nat) : (x.extract a b).toList = (x.toList.drop a).take (b - a) := by
  simp [List.extract]
theorem DJ {t : TypeId} {cs : List VV} {v : VV} (h : B5 P t cs = some v) :
    (∃ d, P.underlying t = some d /\ RR d = true /\ v = .agg cs) \/
    (∃ d, P.underlying t = some d /\ RR d = false /\ cs = [v]) := by
  unfold B5 at h
  cases hu : P.underlying t with
  | none => rw [hu] at h; cases h
  | some d =>
    rw [hu] at h
    cases d <;> simp only [U0] at h <;>
      first
        | exact .inl ⟨_, rfl, rfl, h.symm⟩
        | (refine .inr ⟨_, rfl, rfl, ?_⟩
           split at h
           · simp only [U0] at h; rw [h]
           · cases h)
theorem Co {t : TypeId} {cs : List VV} {off : Nat} {v : VV} {x : Array Value} (h : l9 P t cs off = some v) (hr : P2 ρ cs x.toList) (w : World) :
    ∃ mv, (part t x off).run P w = .ok mv w /\ Y0 ρ v mv := by
  unfold l9 at h
  split at h
  · rename_i hlen
    have v8 := (hr.drop off).take (P.cellsOf t)
    rcases DJ h with ⟨d, hu, hd, rfl⟩ | ⟨d, hu, hd, Q3⟩
    · refine ⟨.agg (x.extract off (off + P.cellsOf t)), ?_, Y0.JH ?_⟩
      · unfold part
        simp only [Sem.run_bind, GH hu, Result.andThen_ok, hd, if_true, KF hu, Sem.run_pure]
      · rw [toList_extract, Nat.add_sub_cancel_left]; exact v8
    · rw [Q3] at v8
      obtain ⟨v', x', hx, hv, Bf⟩ := v8.of_cons
      have hn := Bf.of_nil
      subst hn
      have Ad : x[off]? = some v' := by
        have h0 : (List.take (P.cellsOf t) (List.drop off x.toList))[0]? = some v' := by rw [hx]; rfl
        rw [List.getElem?_take] at h0
        split at h0
        · rw [List.getElem?_drop] at h0; simpa using h0
        · cases h0
      refine ⟨v', ?_, hv⟩
      unfold part
      simp only [Sem.run_bind, GH hu, Result.andThen_ok, hd, Ad]
      rfl
  · cases h
theorem Ea (l : Loc) (i f n : Nat) : (addrAt l i f).add n = addrAt l i (f + n) := by
  unfold addrAt Addr.add
  split
  · rename_i h; subst h; simp
  · simp [Nat.add_assoc]
theorem bH {h : A0} {g : Nat -> Option F2} {b i f n : Nat} {cs : List VV} {l : Loc} (M3 : rd h b i f n = some cs) (hR : Rel ρ g w) (hb : ρ b = some l)
    (PR : ∀ o, h.get b = some o -> g b = some o) :
    ∃ ms : List Value, P2 ρ cs ms /\ cs.all H2 = true /\ ms.length = n /\ ∀ (j : Nat) v, ms[j]? = some v -> w.cell? ((addrAt l i f).add j) = some v := by
  unfold rd at M3
  cases hg : h.get b with
  | none => rw [hg] at M3; cases M3
  | some o =>
    rw [hg] at M3
    cases o with
    | map es => cases M3
    | cells k =>
      simp only at M3
      cases hi : k.es[i]? with
      | none => rw [hi] at M3; cases M3
      | some c =>
        rw [hi] at M3
        simp only at M3
        split at M3
        · rename_i hlen
          simp only [U0] at M3
          subst M3
          obtain ⟨o', CV, hr⟩ := hR.obj b l hb
          rw [PR _ hg] at CV
          simp only [U0] at CV; subst CV
          generalize hm : w.heap[l.mb]? = m at hr
          cases hr with
          | cells k mc t fr Gi hs he h0 U8 Ib hc =>
            obtain ⟨a1, a2, a3⟩ := hc i c hi
            have X7 : ∀ j : Nat, j < n -> ∃ mv, mc[l.l6 + i * l.L3 + (f + j)]? = some mv /\ ∃ v, c[f + j]? = some v /\ Y0 ρ v mv := by
              intro j hj
              have R3 : f + j < c.length := by omega
              obtain ⟨mv, x, y⟩ := a3 (f + j) c[f + j] (List.getElem?_eq_getElem R3)
              exact ⟨mv, x, _, List.getElem?_eq_getElem R3, y⟩
            refine ⟨(List.range n).map fun j => (mc[l.l6 + i * l.L3 + (f + j)]?).getD undef, ⟨?_, ?_⟩, ?_, by simp, ?_⟩
            · simp; omega
            · intro j v v' hv KW
              have hj : j < n := by
                have := (List.getElem?_eq_some_iff.1 KW).1
                simpa using this
              obtain ⟨mv, x, u, hu, y⟩ := X7 j hj
              rw [List.getElem?_take, if_pos hj, List.getElem?_drop, hu] at hv
              simp only [U0] at hv; subst hv
              simp [hj, x] at KW
              subst KW; exact y
            · exact List.all_eq_true.2 fun v hv => List.all_eq_true.1 a2 v (List.mem_of_mem_drop (List.mem_of_mem_take hv))
            · intro j v hv
              have hj : j < n := by
                have := (List.getElem?_eq_some_iff.1 hv).1
                simpa using this
              obtain ⟨mv, x, u, hu, y⟩ := X7 j hj
              simp [hj, x] at hv
              subst hv
              rw [Ea]
              unfold addrAt
              rw [cell_of_row w l.mb _ mc t fr hm, <- x]
        · cases M3
theorem Jq {t : TypeId} {h : A0} {g : Nat -> Option F2} {av v : VV} {vb : Value} (hv : AY P t h av = some v) (ha : Y0 ρ av vb) (hR : Rel ρ g w)
    (PR : ∀ b o, ρ b ≠ none -> h.get b = some o -> g b = some o) : ∃ mv, (Instr.loadAt t vb).run P w = .ok mv w /\ Y0 ρ v mv := by
  cases ha with
  | ptr b i f l hb =>
    simp only [AY] at hv
    cases M3 : rd h b i f (P.cellsOf t) with
    | none => rw [M3] at hv; cases hv
    | some cs =>
      rw [M3] at hv
      simp only [Option.bind_some] at hv
      obtain ⟨ms, U3, _, hlen, Em⟩ := bH M3 hR hb (fun o => PR b o (by rw [hb]; simp))
      rcases DJ hv with ⟨d, hu, hd, rfl⟩ | ⟨d, hu, hd, Q3⟩
      · refine ⟨.agg ms.toArray, ?_, Y0.JH (by simpa using U3)⟩
        have := run_loadCells_list (P := P) w (addrAt l i f) ms Em
        rw [hlen] at this
        simp only [Instr.loadAt, Instr.sureAddr, loadVar, Sem.run_bind, Sem.run_pure, Result.andThen_ok, GH hu, hd, if_true, KF hu, this]
      · subst Q3
        obtain ⟨v', x', hx, KW, Bf⟩ := U3.of_cons
        have hn := Bf.of_nil
        subst hn
        refine ⟨v', ?_, KW⟩
        have h0 := Em 0 v' (by rw [hx]; rfl)
        have e0 : (addrAt l i f).add 0 = addrAt l i f := by simp [Addr.add]
        rw [e0] at h0
        simp only [Instr.loadAt, Instr.sureAddr, loadVar, Sem.run_bind, Sem.run_pure, Result.andThen_ok, GH hu, hd, Bool.false_eq_true, if_false, run_load, h0]
  | undef _ => cases hv
  | bool _ => cases hv
  | int _ _ => cases hv
  | str _ => cases hv
  | I2 => cases hv
  | nilslice => cases hv
  | slice => cases hv
  | A3 => cases hv
  | map => cases hv
  | D3 => cases hv
  | func => cases hv
  | I1 => cases hv
  | iface => cases hv
  | agg => cases hv
  | tuple => cases hv
end
end Go.Proofs.Ythlbahcggmbfaaa.V
namespace Go.Proofs.Ythlbahcggmbfaaa.V
open Go.RowKit
section
variable {P : Program} {ρ : Ren} (w : World)
def GQ (P : Program) (d : Nat) (xs ys : List VV) (fs : List Field) : Option Bool :=
 fs.foldr (fun f r =>
  if f.name = "_" then r else
  match l9 P f.type xs f.offset, l9 P f.type ys f.offset with
  | some a, some b => match Ee P d f.type a b with
   | some true => r
   | some false => some false
   | none => none
  | _, _ => none) (some true)
theorem Cc (d D : Nat) (ih : ∀ t x y b mx my, Ee P d t x y = some b -> Y0 ρ x mx -> Y0 ρ y my -> (Op.equalIn D t mx my).run P w = .ok b w)
  (xs ys : List VV) (jc jb : Array Value) (hx : P2 ρ xs jc.toList) (hy : P2 ρ ys jb.toList) :
  ∀ (fs : List Field) (b : Bool), GQ P d xs ys fs = some b -> (Op.eqFields D jc jb fs).run P w = .ok b w
 | [], b, h => by simp [GQ] at h; subst h; simp [Op.eqFields]
 | f :: fs, b, h => by
  simp only [GQ, List.foldr_cons] at h
  change (if f.name = "_" then GQ P d xs ys fs else _) = some b at h
  simp only [Op.eqFields]
  by_cases hn : f.name = "_"
  ·rw [if_pos hn] at h
   rw [if_neg (by simpa using hn)]
   exact Cc d D ih xs ys jc jb hx hy fs b h
  ·rw [if_neg hn] at h
   rw [if_pos hn]
   cases h1 : l9 P f.type xs f.offset with
   | none => rw [h1] at h; cases h
   | some a1 =>
    cases h2 : l9 P f.type ys f.offset with
    | none => rw [h1, h2] at h; cases h
    | some a2 =>
     rw [h1, h2] at h
     simp only at h
     obtain ⟨m1, r1, v1⟩ := Co h1 hx w
     obtain ⟨m2, r2, v2⟩ := Co h2 hy w
     cases h3 : Ee P d f.type a1 a2 with
     | none => rw [h3] at h; cases h
     | some r =>
      rw [h3] at h
      have h4 := ih f.type a1 a2 r m1 m2 h3 v1 v2
      simp only [Sem.run_bind, r1, r2, h4, Result.andThen_ok]
      cases r with
      | false => simp only [U0] at h; subst h; simp
      | true =>
       simp only [Bool.not_true, Bool.false_eq_true, if_false]
       exact Cc d D ih xs ys jc jb hx hy fs b h
theorem Iw : ∀ (d : Nat) (t : TypeId) (x y : VV) (b : Bool) (mx my : Value), Ee P d t x y = some b -> Y0 ρ x mx -> Y0 ρ y my ->
  ∀ D, d <= D -> (Op.equalIn D t mx my).run P w = .ok b w
 | 0, _, _, _, _, _, _, h, _, _, _, _ => by simp [Ee] at h
 | d + 1, t, x, y, b, mx, my, h, hx, hy, D, hD => by
  obtain ⟨D, rfl⟩ : ∃ m, D = m + 1 := ⟨D - 1, by omega⟩
  have ih := fun t x y b mx my (h : Ee P d t x y = some b) (hx : Y0 ρ x mx) (hy : Y0 ρ y my) => Iw d t x y b mx my h hx hy D (by omega)
  unfold Ee at h
  split at h
  ·rename_i hu; cases hx; cases hy; simp only [U0] at h; subst h; exact run_equalIn_bool w D t _ _ hu
  ·rename_i hu; cases hx; cases hy
   split at h
   ·rename_i hk; subst hk; simp only [U0] at h; subst h; exact run_equalIn_int w D t _ _ _ _ hu
   ·cases h
  ·rename_i hu; cases hx; cases hy; simp only [U0] at h; subst h
   simp only [Op.equalIn, Sem.run_bind, run_underlying hu, Result.andThen_ok, Sem.run_pure]
  ·rename_i hu; cases hx; cases hy; simp only [U0] at h; subst h
   simp [Op.equalIn, Sem.run_bind, run_underlying hu]
  ·rename_i hu; cases hx; cases hy; simp only [U0] at h; subst h
   simp [Op.equalIn, Sem.run_bind, run_underlying hu]
  ·rename_i hu; cases hx; cases hy; simp only [U0] at h; subst h
   simp [Op.equalIn, Sem.run_bind, run_underlying hu]
  ·rename_i hu; cases hx; cases hy; simp only [U0] at h; subst h
   simp [Op.equalIn, Sem.run_bind, run_underlying hu]
  ·rename_i hu; cases hx; cases hy; simp only [U0] at h; subst h
   simp [Op.equalIn, Sem.run_bind, run_underlying hu]
  ·rename_i hu; cases hx; cases hy; simp only [U0] at h; subst h
   simp [Op.equalIn, Sem.run_bind, run_underlying hu]
  ·rename_i tx vx ty vy hu
   cases hx with
   | iface _ _ wg th =>
   cases hy with
   | iface _ _ we tg =>
   split at h
   ·rename_i Y3
    simp only [U0] at h; subst h
    simp [Op.equalIn, Sem.run_bind, run_underlying hu, Y3]
   ·rename_i he
    have he : tx = ty := by simpa using he
    subst he
    cases hi : P.info? tx with
    | none => rw [hi] at h; cases h
    | some i =>
     rw [hi] at h
     simp only at h
     split at h
     ·rename_i mU
      have := ih tx vx vy b wg we h th tg
      simp [Op.equalIn, Sem.run_bind, run_underlying hu, run_typeInfo w hi, mU, this]
     ·cases h
  ·rename_i fs xs ys hu
   obtain ⟨jc, rfl, Dr⟩ := hx.GV
   obtain ⟨jb, rfl, fc⟩ := hy.GV
   split at h
   ·cases h
   ·rename_i J6
    have hf : P.fieldsOf t = fs := by simp [Program.fieldsOf, hu]
    rw [run_equalIn_struct w D t jc jb (by rw [hf]; exact hu) (by simpa using J6), hf]
    exact Cc w d D ih xs ys jc jb Dr fc fs.toList b h
  all_goals
   first
    | (rename_i hu; cases hx; cases hy; simp only [U0] at h; subst h; simp [Op.equalIn, Sem.run_bind, run_underlying hu]; done)
    | cases h
theorem Gw {op : BinOp} {t : TypeId} {ox oy : Operand} {x y : VV} {mx my : Value} (h : LF P t ox oy x y = true) (hx : Y0 ρ x mx) (hy : Y0 ρ y my) :
  (eqGuard op t ox oy mx my).run P w = .ok () w := by
 have main : (eqGuard .eql t ox oy mx my).run P w = .ok () w := by
  unfold LF at h
  unfold eqGuard
  split at h
  ·cases hx; cases hy
   revert h
   cases ox <;> cases oy <;> simp [Fb]
  ·obtain ⟨jc, rfl, _⟩ := hx.GV
   obtain ⟨jb, rfl, _⟩ := hy.GV
   simp at h
   simp [h]
  ·cases h
  ·cases h
  ·rename_i h1 h2 h3 h4
   cases hx <;> cases hy <;> first | rfl | (exfalso; simp_all; done)
 cases op <;> first | rfl | exact main
theorem US {op : BinOp} {k : IntKind} {x y : Int} {v : VV} (t : TypeId) (K0 : op ≠ .shl /\ op ≠ .shr) (h : Xj op k x y = some v) :
  ∃ mv, (binOp op t (.int k x) (.int k y)).run P w = .ok mv w /\ Y0 ρ v mv := by
 cases op <;> simp only [Xj, U0] at h <;> (try cases h)
 case add => exact ⟨_, by simp [binOp, Op.intArith], .int _ _⟩
 case sub => exact ⟨_, by simp [binOp, Op.intArith], .int _ _⟩
 case mul => exact ⟨_, by simp [binOp, Op.intArith], .int _ _⟩
 case quo =>
  split at h
  ·cases h
  ·rename_i hy; simp only [U0] at h; subst h; exact ⟨_, by simp [binOp, Op.intDiv, hy], .int _ _⟩
 case rem =>
  split at h
  ·cases h
  ·rename_i hy; simp only [U0] at h; subst h; exact ⟨_, by simp [binOp, Op.intDiv, hy], .int _ _⟩
 case and => exact ⟨_, by simp [binOp, Op.intBits], .int _ _⟩
 case or => exact ⟨_, by simp [binOp, Op.intBits], .int _ _⟩
 case xor => exact ⟨_, by simp [binOp, Op.intBits], .int _ _⟩
 case andNot => exact ⟨_, by simp [binOp, Op.intBits], .int _ _⟩
 case eql => exact ⟨_, by simp [binOp, Op.intCmp], .bool _⟩
 case neq => exact ⟨_, by simp [binOp, Op.intCmp], .bool _⟩
 case lss => exact ⟨_, by simp [binOp, Op.intCmp], .bool _⟩
 case leq => exact ⟨_, by simp [binOp, Op.intCmp], .bool _⟩
 case gtr => exact ⟨_, by simp [binOp, Op.intCmp], .bool _⟩
 case geq => exact ⟨_, by simp [binOp, Op.intCmp], .bool _⟩
end
end Go.Proofs.Ythlbahcggmbfaaa.V
namespace Go.Proofs.Ythlbahcggmbfaaa.V
open Go.RowKit
section
variable {P : Program} {ρ : Ren} (w : World)
theorem Ti (t : TypeId) {x y : VV} {mx my : Value} (hx : Y0 ρ x mx) (hy : Y0 ρ y my) (ux : x ≠ .undef) (uy : y ≠ .undef)
  (h1 : ∀ k a k' b, x = .int k a -> y = .int k' b -> False) (h2 : ∀ a b, x = .str a -> y = .str b -> False) :
  binOp .eql t mx my = (do pure (.bool (<- Op.equal t mx my))) /\ binOp .neq t mx my = (do pure (.bool (!(<- Op.equal t mx my)))) := by
 cases hx <;> first | exact absurd rfl ux | skip
 all_goals (cases hy <;> first | exact absurd rfl uy | exact ⟨rfl, rfl⟩ | exact (h1 _ _ _ _ rfl rfl).elim | exact (h2 _ _ rfl rfl).elim)
theorem UW {op : BinOp} {t : TypeId} {ox oy : Operand} {x y v : VV} {mx my : Value} (h : Kt P op t ox oy x y = some v) (hx : Y0 ρ x mx) (hy : Y0 ρ y my) :
  ∃ mv, (do eqGuard op t ox oy mx my; binOp op t mx my : Sem Value).run P w = .ok mv w /\ Y0 ρ v mv := by
 unfold Kt at h
 split at h
 ·rename_i k a k' b
  cases hx; cases hy
  have hg : (eqGuard op t ox oy (.int k a) (.int k' b)).run P w = .ok () w := by cases op <;> rfl
  simp only [Sem.run_bind, hg, Result.andThen_ok]
  split at h
  ·unfold Ln at h
   split at h
   ·cases h
   ·rename_i mD
    simp only [U0] at h; subst h
    exact ⟨_, by simp [binOp, Op.shift, mD], .int _ _⟩
  ·unfold Ln at h
   split at h
   ·cases h
   ·rename_i mD
    simp only [U0] at h; subst h
    exact ⟨_, by simp [binOp, Op.shift, mD], .int _ _⟩
  ·rename_i h1 h2
   split at h
   ·rename_i hk; subst hk
    exact US w t ⟨fun e => h1 e, fun e => h2 e⟩ h
   ·cases h
 ·rename_i a b
  cases hx; cases hy
  have hg : (eqGuard op t ox oy (.string a) (.string b)).run P w = .ok () w := by cases op <;> rfl
  simp only [Sem.run_bind, hg, Result.andThen_ok]
  unfold gC at h
  split at h
  ·split at h
   ·cases h
   ·rename_i EO
    simp only [U0] at h; subst h
    exact ⟨_, by simp only [binOp, Op.stringOp, EO, if_false, Sem.run_pure], .str _⟩
  all_goals first
   | (simp only [U0] at h; subst h; exact ⟨_, by simp [binOp, Op.stringOp], .bool _⟩)
   | cases h
 ·rename_i h1 h2
  split at h
  ·rename_i I5
   simp only [Option.map_eq_some_iff] at h
   obtain ⟨r, hr, rfl⟩ := h
   have heq := Iw w 100 t x y r mx my hr hx hy 10000 (by omega)
   have hg := Gw (op := .eql) w I5 hx hy
   refine ⟨_, ?_, .bool r⟩
   simp only [Sem.run_bind, hg, Result.andThen_ok]
   rw [(Ti t hx hy (fun e => by subst e; cases y <;> simp [LF] at I5) (fun e => by subst e; cases x <;> simp [LF] at I5) h1 h2).1]
   simp only [Op.equal, Op.maxDepth, Sem.run_bind, heq, Result.andThen_ok, Sem.run_pure]
  ·rename_i I5
   simp only [Option.map_eq_some_iff] at h
   obtain ⟨r, hr, rfl⟩ := h
   have heq := Iw w 100 t x y r mx my hr hx hy 10000 (by omega)
   have hg := Gw (op := .neq) w I5 hx hy
   refine ⟨_, ?_, .bool (!r)⟩
   simp only [Sem.run_bind, hg, Result.andThen_ok]
   rw [(Ti t hx hy (fun e => by subst e; cases y <;> simp [LF] at I5) (fun e => by subst e; cases x <;> simp [LF] at I5) h1 h2).2]
   simp only [Op.equal, Op.maxDepth, Sem.run_bind, heq, Result.andThen_ok, Sem.run_pure]
  ·cases h
theorem Xi {op : UnOp} {x v : VV} {mx : Value} (h : pI op x = some v) (hx : Y0 ρ x mx) : ∃ mv, (Op.unary op mx).run P w = .ok mv w /\ Y0 ρ v mv := by
 unfold pI at h
 split at h
 ·cases hx; simp only [U0] at h; subst h; exact ⟨_, by simp [Op.unary, Op.intArith], .int _ _⟩
 ·cases hx; simp only [U0] at h; subst h; exact ⟨_, by simp [Op.unary, Op.intBits], .int _ _⟩
 ·cases hx; simp only [U0] at h; subst h; exact ⟨_, by simp [Op.unary], .bool _⟩
 ·cases h
theorem Rq {src dst : TypeId} {x v : VV} {mx : Value} (h : Ey P src dst x = some v) (hx : Y0 ρ x mx) : ∃ mv, (convert src dst mx).run P w = .ok mv w /\ Y0 ρ v mv := by
 unfold Ey at h
 split at h
 ·rename_i h1 h2
  cases hx; simp only [U0] at h; subst h
  exact ⟨_, by simp [convert, run_underlying h1, run_underlying h2, Conv.intToInt], .int _ _⟩
 ·rename_i h1 h2
  cases hx; simp only [U0] at h; subst h
  refine ⟨_, ?_, .str _⟩
  rename_i d s _
  cases d <;> simp [convert, run_underlying h1, run_underlying h2]
 ·rename_i h1 h2
  cases hx; simp only [U0] at h; subst h
  exact ⟨_, by simp [convert, run_underlying h1, run_underlying h2, Conv.intToString], .str _⟩
 ·cases h
theorem Aq {x : VV} {mx : Value} {n : Nat} (h : Y4 x = some n) (hx : Y0 ρ x mx) : ∃ k i, mx = .int k i /\ 0 <= i /\ n = i.toNat := by
 unfold Y4 at h
 split at h
 ·cases hx
  split at h
  ·rename_i h0; simp only [U0] at h; exact ⟨_, _, rfl, h0, h.symm⟩
  ·cases h
 ·cases h
theorem V8 {x : VV} {mx : Value} {n : Nat} (h : Y4 x = some n) (hx : Y0 ρ x mx) (y : Nat) (hy : n <= y) (code : BoundsCode) : (Instr.sliceBound mx y code).run P w = .ok n w := by
 obtain ⟨k, i, rfl, h0, rfl⟩ := Aq h hx
 exact run_sliceBound w k i y code h0 (by omega)
def O7 (ρ : Ren) (x : Option VV) (mx : Option Value) : Prop := (x = none /\ mx = none) \/ ∃ v mv, x = some v /\ mx = some mv /\ Y0 ρ v mv
theorem O7.map {e : Env} {a : Act} (x : Option Operand) (h : ∀ o, x = some o -> Y0 ρ (ev e o) (a.eval o)) : O7 ρ (x.map (ev e)) (x.map a.eval) := by
 cases x with
 | none => exact .inl ⟨rfl, rfl⟩
 | some o => exact .inr ⟨_, _, rfl, rfl, h o rfl⟩
theorem CL {lo hi mx : Option VV} {Ya Yb mmx : Option Value} {len cap l g m : Nat} (wh : Bool) (hl : (lo.map Y4).getD (some 0) = some l) (hg : (hi.map Y4).getD (some len) = some g)
  (hm : (mx.map Y4).getD (some cap) = some m) (r1 : O7 ρ lo Ya) (r2 : O7 ρ hi Yb) (r3 : O7 ρ mx mmx) (h1 : l <= g) (h2 : g <= m) (h3 : m <= cap) (h4 : hi.isSome = true \/ mx = none) :
  (Instr.sliceBounds wh len cap Ya Yb mmx).run P w = .ok (l, g, m) w := by
 unfold Instr.sliceBounds
 rcases r3 with ⟨rfl, rfl⟩ | ⟨v3, mv3, rfl, rfl, vm⟩ <;> rcases r2 with ⟨rfl, rfl⟩ | ⟨v2, mv2, rfl, rfl, oS⟩ <;> rcases r1 with ⟨rfl, rfl⟩ | ⟨v1, mv1, rfl, rfl, oT⟩ <;>
  simp only [Option.map_none, Option.map_some, Option.getD_none, Option.getD_some, U0] at hl hg hm <;> (try subst hl) <;> (try subst hg) <;> (try subst hm)
 ·simp
 ·have e1 := fun code => V8 (P := P) w hl oT _ h1 code
  simp [e1]
 ·have e2 := fun code => V8 (P := P) w hg oS _ h2 code
  simp [e2]
 ·have e1 := fun code => V8 (P := P) w hl oT _ h1 code
  have e2 := fun code => V8 (P := P) w hg oS _ h2 code
  simp [e1, e2]
 ·rcases h4 with h4 | h4 <;> cases h4
 ·rcases h4 with h4 | h4 <;> cases h4
 ·have e2 := fun code => V8 (P := P) w hg oS _ h2 code
  have e3 := fun code => V8 (P := P) w hm vm _ h3 code
  simp [e2, e3]
 ·have e1 := fun code => V8 (P := P) w hl oT _ h1 code
  have e2 := fun code => V8 (P := P) w hg oS _ h2 code
  have e3 := fun code => V8 (P := P) w hm vm _ h3 code
  simp [e1, e2, e3]
end
end Go.Proofs.Ythlbahcggmbfaaa.V
namespace Go.Proofs.Ythlbahcggmbfaaa.V
open Go.RowKit
section
variable {P : Program} {ρ : Ren} (w : World)
theorem UP {t : TypeId} {s : ByteArray} {lo hi mx : Option VV} {Ya Yb mmx : Option Value} {v : VV} {z : Nat} (h : R4 z (.str s) lo hi mx = some v) (hu : P.underlying t = some .string)
  (r1 : O7 ρ lo Ya) (r2 : O7 ρ hi Yb) (r3 : O7 ρ mx mmx) : ∃ mv, (Instr.sliceAt t (.string s) Ya Yb mmx).run P w = .ok mv w /\ Y0 ρ v mv := by
 unfold R4 at h
 cases hl : (lo.map Y4).getD (some 0) with
 | none => rw [hl] at h; cases h
 | some l =>
  rw [hl] at h
  simp only at h
  split at h
  ·rename_i g hg
   split at h
   ·rename_i hb
    simp only [U0] at h; subst h
    rcases r3 with ⟨_, rfl⟩ | ⟨_, _, h', _⟩
    ·have := CL (P := P) (mx := none) (mmx := none) (len := s.size) (cap := s.size) w false hl hg rfl r1 r2 (.inl ⟨rfl, rfl⟩) hb.1 hb.2 (Nat.le_refl _) (.inr rfl)
     refine ⟨_, ?_, .str _⟩
     simp [Instr.sliceAt, Instr.slice, run_underlying hu, this]
    ·cases h'
   ·cases h
  ·cases h
theorem UR {t el : TypeId} {lo hi mx : Option VV} {Ya Yb mmx : Option Value} {v : VV} {z : Nat} (h : R4 z .nilslice lo hi mx = some v) (hu : P.underlying t = some (.slice el)) (he : P.cellsOf el ≠ 0)
  (r1 : O7 ρ lo Ya) (r2 : O7 ρ hi Yb) (r3 : O7 ρ mx mmx) : ∃ mv, (Instr.sliceAt t (.slice none 0 0) Ya Yb mmx).run P w = .ok mv w /\ Y0 ρ v mv := by
 obtain ⟨i, Ri⟩ := L6 he
 unfold R4 at h
 cases hl : (lo.map Y4).getD (some 0) with
 | none => rw [hl] at h; cases h
 | some l =>
  rw [hl] at h
  simp only at h
  split at h
  ·rename_i hg UE
   split at h
   ·rename_i hb
    obtain ⟨hb, hm⟩ := hb
    subst hb
    simp only [U0] at h; subst h
    have := CL (P := P) (len := 0) (cap := 0) w true hl hg UE r1 r2 r3 (Nat.le_refl _) (Nat.le_refl _) (Nat.le_refl _) (by simpa using hm)
    refine ⟨_, ?_, .nilslice⟩
    simp [Instr.sliceAt, Instr.slice, run_underlying hu, this, run_sizeOf w Ri]
   ·cases h
  ·cases h
theorem Hl (l : Loc) (i j : Nat) : (addrAt l i 0).add (j * l.L3) = addrAt l (i + j) 0 := by
 unfold addrAt Addr.add
 split
 ·rename_i h; rw [Nat.add_mul, h]; simp
 ·rw [Nat.add_mul]; simp only [Nat.add_zero, Nat.add_assoc]
theorem UQ {t el : TypeId} {b i n z z' : Nat} {c : Option Nat} {lo hi mx : Option VV} {Ya Yb mmx : Option Value} {v : VV} {mv : Value} (h : R4 z' (.slice b i n c z) lo hi mx = some v)
  (hu : P.underlying t = some (.slice el)) (he : P.cellsOf el ≠ 0) (hz : z' = P.cellsOf el) (hx : Y0 ρ (.slice b i n c z) mv)
  (r1 : O7 ρ lo Ya) (r2 : O7 ρ hi Yb) (r3 : O7 ρ mx mmx) : ∃ Rb, (Instr.sliceAt t mv Ya Yb mmx).run P w = .ok Rb w /\ Y0 ρ v Rb := by
 obtain ⟨inf, Ia⟩ := L6 he
 cases hx with
 | slice _ _ _ _ _ l a o5 hb NU hn hm hc ho ha =>
 
 have cut : ∀ LZ g m, (Instr.sliceBounds true n o5 Ya Yb mmx).run P w = .ok (LZ, g, m) w ->
   (Instr.sliceAt t (.slice (some a) n o5) Ya Yb mmx).run P w = .ok (.slice (some (if m = LZ then a else a.add (LZ * P.cellsOf el))) (g - LZ) (m - LZ)) w := by
  intro LZ g m hb
  simp only [Instr.sliceAt, Instr.slice, Sem.run_bind, run_underlying hu, Result.andThen_ok, hb, run_sizeOf w Ia, Sem.run_pure]
  split <;> rfl
 have place : ∀ LZ : Nat, z = z' -> a = addrAt l i 0 -> a.add (LZ * P.cellsOf el) = addrAt l (i + LZ) 0 := by
  intro LZ e1 e2
  rw [e2, <- hz, <- e1, <- NU, Hl]
 unfold R4 at h
 cases hl : (lo.map Y4).getD (some 0) with
 | none => rw [hl] at h; cases h
 | some LZ =>
  rw [hl] at h
  cases c with
  | some cap =>
   have TL := hc cap rfl
   subst TL
   simp only at h
   split at h
   ·rename_i g m hg UE
    split at h
    ·rename_i Z6
     obtain ⟨e1, h1, h2, h3, h4⟩ := Z6
     simp only [U0] at h; subst h
     refine ⟨_, cut LZ g m (CL w true hl hg UE r1 r2 r3 h1 h2 h3 (by simpa using h4)), ?_⟩
     refine .slice b _ _ _ z l _ _ hb NU (by omega) (by omega) (fun k hk => by simp only [U0] at hk; exact hk) (fun e => by cases e) ?_
     rcases ha with ha | ⟨h0, XC⟩
     ·left
      by_cases TI : m = LZ
      ·rw [if_pos TI, if_pos TI]; exact ha
      ·rw [if_neg TI, if_neg TI]; exact place LZ e1 ha
     ·right
      exact ⟨by omega, by omega⟩
    ·cases h
   ·cases h
  | none =>
   have cI := ho rfl
   simp only at h
   split at h
   ·rename_i g hg
    split at h
    ·rename_i Z6
     obtain ⟨e1, h1, h2⟩ := Z6
     simp only [U0] at h; subst h
     rcases r3 with ⟨_, rfl⟩ | ⟨_, _, h', _⟩
     ·have iq := CL (P := P) (mx := none) (mmx := none) (len := n) (cap := o5) w true hl hg rfl r1 r2 (.inl ⟨rfl, rfl⟩) h1 (by omega) (Nat.le_refl _) (.inr rfl)
      refine ⟨_, cut LZ g o5 iq, ?_⟩
      refine .slice b _ _ none z l _ _ hb NU (by omega) (by omega) (fun k hk => by cases hk) (fun _ hr => ?_) ?_
      ·rw [show i + LZ + (o5 - LZ) = i + o5 by omega]
       exact cI hr
      ·by_cases TI : o5 = LZ
       ·rw [if_pos TI]
        right
        exact ⟨by omega, by omega⟩
       ·rw [if_neg TI]
        rcases ha with ha | ⟨h0, XC⟩
        ·left; exact place LZ e1 ha
        ·exfalso; omega
     ·cases h'
    ·cases h
   ·rename_i g m hg
    cases qq : Y4 m with
    | none => rw [qq] at h; cases h
    | some m' =>
     rw [qq] at h
     simp only at h
     split at h
     ·rename_i Z6
      obtain ⟨e1, h1, h2, h3, h4⟩ := Z6
      simp only [U0] at h; subst h
      have iq := CL (P := P) (mx := some m) (len := n) (cap := o5) (m := m') w true hl hg (by simpa using qq) r1 r2 r3 h1 h2 (by omega) (.inl h4)
      refine ⟨_, cut LZ g m' iq, ?_⟩
      refine .slice b _ _ _ z l _ _ hb NU (by omega) (by omega) (fun k hk => by simp only [U0] at hk; exact hk) (fun e => by cases e) ?_
      rcases ha with ha | ⟨h0, XC⟩
      ·left
       by_cases TI : m' = LZ
       ·rw [if_pos TI, if_pos TI]; exact ha
       ·rw [if_neg TI, if_neg TI]; exact place LZ e1 ha
      ·right
       exact ⟨by omega, by omega⟩
     ·cases h
   ·cases h
end
end Go.Proofs.Ythlbahcggmbfaaa.V
namespace Go.Proofs.Ythlbahcggmbfaaa.V
open Go.RowKit
section
variable {P : Program} {ρ : Ren} (w : World)
theorem PX (off : Nat) : ∀ (vs : List Value) (k : Nat) (cells : Array Value), off + k + vs.length <= cells.size ->
  ((vs.zipIdx k).foldl (fun (cs : Array Value) (p : Value × Nat) => cs.setIfInBounds (off + p.2) p.1) cells).toList = cells.toList.take (off + k) ++ vs ++ cells.toList.drop (off + k + vs.length)
 | [], k, cells, h => by simp
 | v :: vs, k, cells, h => by
  have R3 : off + k < cells.size := by simp at h; omega
  rw [List.zipIdx_cons, List.foldl_cons, PX off vs (k + 1) (cells.setIfInBounds (off + k) v) (by simp at h ⊢; omega)]
  simp only [Array.toList_setIfInBounds, List.length_cons]
  apply List.ext_getElem?
  intro i
  simp only [List.getElem?_append, List.getElem?_take, List.getElem?_drop, List.getElem?_set, List.length_append, List.length_take, List.length_set, Array.length_toList, List.length_cons]
  have h1 : min (off + (k + 1)) cells.size = off + k + 1 := by omega
  have h2 : min (off + k) cells.size = off + k := by omega
  rw [h1, h2]
  by_cases a : i < off + k
  ·rw [if_pos (by omega), if_pos (by omega), if_pos (by omega), if_neg (by omega), if_pos (by omega), if_pos (by omega), if_pos (by omega)]
  ·by_cases b : i = off + k
   ·subst b
    rw [if_pos (by omega), if_pos (by omega), if_pos (by omega), if_pos rfl, if_pos R3, if_pos (by omega), if_neg (by omega), Nat.sub_self]; rfl
   ·by_cases c : i < off + k + 1 + vs.length
    ·rw [if_pos (by omega), if_neg (by omega), if_pos (by omega), if_neg (by omega), show i - (off + k) = (i - (off + k + 1)) + 1 by omega]; rfl
    ·rw [if_neg (by omega), if_neg (by omega), if_neg (by omega)]
     congr 1
     omega
theorem ET (place : Nat -> Option (Nat × Nat)) : ∀ (parts : List (Nat × VV)) (N9 : List (Nat × Value)) (cells out : List VV) (Be : Array Value), DA place cells parts = some out ->
  parts.length = N9.length -> (∀ (i : Nat) p q, parts[i]? = some p -> N9[i]? = some q -> p.1 = q.1 /\ Y0 ρ p.2 q.2) -> P2 ρ cells Be.toList ->
  ∃ IU : Array Value, Instr.fill place Be N9 = some IU /\ P2 ρ out IU.toList
 | [], N9, cells, out, Be, h, hl, _, hc => by
  have : N9 = [] := List.eq_nil_of_length_eq_zero hl.symm
  subst this
  simp [DA] at h; subst h
  exact ⟨Be, rfl, hc⟩
 | (i, v) :: parts, [], cells, out, Be, h, hl, _, hc => by simp at hl
 | (i, v) :: parts, (i', mv) :: N9, cells, out, Be, h, hl, hp, hc => by
  obtain ⟨e, hv⟩ := hp 0 _ _ rfl rfl
  simp only at e hv
  subst e
  simp only [DA] at h
  cases KX : place i with
  | none => rw [KX] at h; cases h
  | some os =>
   obtain ⟨off, size⟩ := os
   rw [KX] at h
   simp only at h
   split at h
   ·cases h
   ·rename_i Z6
    simp only [not_or, Nat.not_lt, gt_iff_lt, Bool.not_eq_false, Decidable.not_not] at Z6
    obtain ⟨h1, h2, h3⟩ := Z6
    have hu : v ≠ .undef := fun e => by subst e; simp [C1, H2] at h3
    have wL := hv.cells hu
    have EO : mv.cells.size = size := by have := wL.1; simp at this; omega
    have Q3 : Be.size = cells.length := by have := hc.1; simpa using this.symm
    have rJ := PX off mv.cells.toList 0 Be (by simp [EO, Q3]; omega)
    have U3 : P2 ρ (cells.take off ++ C1 v ++ cells.drop (off + size)) (mv.cells.zipIdx.foldl (fun cs (c, j) => cs.setIfInBounds (off + j) c) Be).toList := by
     have e : (mv.cells.zipIdx.foldl (fun cs (c, j) => cs.setIfInBounds (off + j) c) Be).toList = Be.toList.take off ++ mv.cells.toList ++ Be.toList.drop (off + size) := by
      rw [<- Array.foldl_toList, Array.toList_zipIdx]
      simpa [EO] using rJ
     rw [e]
     exact ((hc.take off).append wL).append (hc.drop _)
    obtain ⟨IU, hm, ho⟩ := ET place parts N9 _ out _ h (by simpa using hl) (fun j p q a b => hp (j + 1) p q (by simpa using a) (by simpa using b)) U3
    refine ⟨IU, ?_, ho⟩
    simp only [Instr.fill, KX]
    rw [if_neg (by simp [EO, Q3]; omega)]
    exact hm
theorem V7 {t : TypeId} {z : VV} (h : D6 P t = some z) : ∃ i zv, P.info? t = some i /\ i.zero = some zv /\ Y0 ρ z zv /\ (C1 z).all H2 = true /\ (C1 z).length = P.cellsOf t := by
 unfold D6 at h
 split at h
 ·rename_i z' hz
  split at h
  ·rename_i hc
   simp only [U0] at h; subst h
   cases hi : P.info? t with
   | none => rw [hi] at hz; cases hz
   | some i =>
    rw [hi] at hz
    simp only [Option.bind_some] at hz
    cases DN : i.zero with
    | none => rw [DN] at hz; cases hz
    | some zv =>
     rw [DN] at hz
     exact ⟨i, zv, rfl, DN, GJ ρ 3 zv z' hz, hc.1, hc.2⟩
  ·cases h
 ·cases h
theorem BM {t : TypeId} {i : TypeInfo} {zv : Value} (hi : P.info? t = some i) (hz : i.zero = some zv) (w : World) : (zeroValue t).run P w = .ok zv w := by
 simp [zeroValue, run_typeInfo w hi, hz]
theorem BT {v : VV} (h : (C1 v).all H2 = true) : v ≠ .undef := fun e => by subst e; simp [C1, H2] at h
theorem PH {e : Env} {a : Act} (parts : Array (Nat × Operand)) (h : ∀ x ∈ (parts.toList.map (·.2)), Y0 ρ (ev e x) (a.eval x)) :
  ∀ (i : Nat) p q, (parts.toList.map fun (i, x) => (i, ev e x))[i]? = some p -> (parts.map fun (i, x) => (i, a.eval x)).toList[i]? = some q -> p.1 = q.1 /\ Y0 ρ p.2 q.2 := by
 intro i p q hp hq
 simp only [Array.toList_map, List.getElem?_map, Option.map_eq_some_iff] at hp hq
 obtain ⟨x, hx, rfl⟩ := hp
 obtain ⟨y, hy, rfl⟩ := hq
 rw [hx] at hy
 simp only [U0] at hy; subst hy
 exact ⟨rfl, h x.2 (List.mem_map.2 ⟨x, List.mem_of_getElem? hx, rfl⟩)⟩
theorem KO : ∀ (fs : List Field), (∀ f ∈ fs, (P.info? f.type).isSome = true) ->
  fs.mapM (fun f => (P.info? f.type).map fun i => (f.offset, i.size)) = some (fs.map fun f => (f.offset, P.cellsOf f.type))
 | [], _ => rfl
 | f :: fs, h => by
  obtain ⟨i, hi⟩ := Option.isSome_iff_exists.1 (h f (by simp))
  have hc : P.cellsOf f.type = i.size := by simp [Program.cellsOf, hi]
  simp only [List.mapM_cons, hi, Option.map_some, Option.bind_eq_bind, Option.bind_some, KO fs (fun g hg => h g (by simp [hg])), Option.pure_def, List.map_cons, hc]
theorem Tg {t : TypeId} {parts : List (Nat × VV)} {N9 : Array (Nat × Value)} {v : VV} (h : Ix P t parts = some v) (hl : parts.length = N9.size)
  (hp : ∀ (i : Nat) p q, parts[i]? = some p -> N9.toList[i]? = some q -> p.1 = q.1 /\ Y0 ρ p.2 q.2) : ∃ mv, (Instr.build t N9).run P w = .ok mv w /\ Y0 ρ v mv := by
 unfold Ix at h
 cases hz : D6 P t with
 | none => rw [hz] at h; cases h
 | some z =>
  rw [hz] at h
  simp only at h
  obtain ⟨i, zv, hi, DN, Re, oQ, _⟩ := V7 (ρ := ρ) hz
  have D2 := Re.cells (BT oQ)
  split at h
  ·rename_i fs hu
   split at h
   ·rename_i X7
    simp only [Option.map_eq_some_iff] at h
    obtain ⟨out, Oc, rfl⟩ := h
    obtain ⟨IU, hm, ho⟩ := ET _ parts N9.toList (C1 z) out zv.cells Oc (by simpa using hl) hp D2
    refine ⟨_, ?_, Y0.JH ho⟩
    have lz : (fun (x : Nat) => ((fs.toList.map fun (f : Field) => (f.offset, P.cellsOf f.type)).toArray)[x]?) = fun (i : Nat) => (fs[i]?).map fun (f : Field) => (f.offset, P.cellsOf f.type) := by
     funext x; simp
    have hb : P.built t N9.toList = some IU := by
     simp only [Program.built, hi, hu, DN, KO fs.toList (fun f hf => List.all_eq_true.1 X7 f hf), lz, hm]
    exact run_build w t N9 IU hb
   ·cases h
  ·rename_i n e hu
   split at h
   ·cases h
   ·rename_i he
    simp only [Option.map_eq_some_iff] at h
    obtain ⟨out, Oc, rfl⟩ := h
    obtain ⟨ie, oe⟩ := L6 he
    obtain ⟨IU, hm, ho⟩ := ET _ parts N9.toList (C1 z) out zv.cells Oc (by simpa using hl) hp D2
    refine ⟨_, ?_, Y0.JH ho⟩
    simp only [Instr.build, Sem.run_bind, BM hi DN, Result.andThen_ok, run_underlying hu, run_sizeOf w oe, hm, Sem.run_pure]
  ·cases h
theorem TR {s : TypeId} {fs : Array Field} {k : Nat} {fd : Field} {b i f : Nat} {mv : Value} (hu : P.underlying s = some (.struct fs)) (hf : fs[k]? = some fd) (h0 : P.cellsOf fd.type ≠ 0)
  (hx : Y0 ρ (.ptr b i f) mv) : ∃ Rb, (Instr.fieldAt s mv k).run P w = .ok Rb w /\ Y0 ρ (.ptr b i (f + fd.offset)) Rb := by
 cases hx with
 | ptr _ _ _ l hb =>
  obtain ⟨inf, Ia⟩ := L6 h0
  refine ⟨_, ?_, .ptr b i _ l hb⟩
  simp only [Instr.fieldAt, Sem.run_bind, run_underlying hu, Result.andThen_ok, hf, Instr.sureAddr, Sem.run_pure, fieldPlace, run_sizeOf w Ia, Sem.run_ite, h0, if_false, Ea]
theorem OW {t el : TypeId} {b i n z j : Nat} {c : Option Nat} {x : VV} {mv mx : Value} (hu : P.underlying t = some (.slice el)) (hz : P.cellsOf el = z) (hj : Y4 x = some j) (R3 : j < n)
  (hv : Y0 ρ (.slice b i n c z) mv) (hx : Y0 ρ x mx) (h0 : z ≠ 0) : ∃ Rb, (Instr.indexAt t mv mx).run P w = .ok Rb w /\ Y0 ρ (.ptr b (i + j) 0) Rb := by
 obtain ⟨k, q, rfl, hq, rfl⟩ := Aq hj hx
 cases hv with
 | slice _ _ _ _ _ l a o5 hb NU hn hm hc ho ha =>
  obtain ⟨inf, Ia⟩ := L6 (P := P) (t := el) (by omega)
  have Vi : a = addrAt l i 0 := by
   rcases ha with ha | ⟨h0, _⟩
   ·exact ha
   ·omega
  refine ⟨_, ?_, .ptr b _ 0 l hb⟩
  have Z6 : 0 <= q /\ q < (n : Int) := ⟨hq, by omega⟩
  simp only [Instr.indexAt, asIntOf, Sem.run_bind, Sem.run_pure, run_underlying hu, Result.andThen_ok, Sem.run_ite, Z6, and_self, if_true, run_sizeOf w Ia]
  rw [Vi, hz, <- NU, Hl]
theorem OX {t el : TypeId} {m b i f j : Nat} {x : VV} {mv mx : Value} (hu : P.underlying t = some (.array m el)) (hz : P.cellsOf el ≠ 0) (hj : Y4 x = some j) (R3 : j < m)
  (hv : Y0 ρ (.ptr b i f) mv) (hx : Y0 ρ x mx) : ∃ Rb, (Instr.indexAt t mv mx).run P w = .ok Rb w /\ Y0 ρ (.ptr b i (f + j * P.cellsOf el)) Rb := by
 obtain ⟨k, q, rfl, hq, rfl⟩ := Aq hj hx
 cases hv with
 | ptr _ _ _ l hb =>
  obtain ⟨inf, Ia⟩ := L6 hz
  refine ⟨_, ?_, .ptr b i _ l hb⟩
  have Z6 : 0 <= q /\ q < (m : Int) := ⟨hq, by omega⟩
  simp only [Instr.indexAt, asIntOf, Sem.run_bind, Sem.run_pure, run_underlying hu, Result.andThen_ok, Instr.sureAddr, Sem.run_ite, Z6, and_self, if_true, run_sizeOf w Ia, Ea]
theorem Sx {t el : TypeId} {m j : Nat} {cs : List VV} {x v : VV} {mv mx : Value} (hu : P.underlying t = some (.array m el)) (hj : Y4 x = some j) (R3 : j < m) (h : l9 P el cs (j * P.cellsOf el) = some v)
  (hv : Y0 ρ (.agg cs) mv) (hx : Y0 ρ x mx) : ∃ Rb, (Instr.index t mv mx).run P w = .ok Rb w /\ Y0 ρ v Rb := by
 obtain ⟨k, q, rfl, hq, rfl⟩ := Aq hj hx
 obtain ⟨ms, rfl, Dj⟩ := hv.GV
 obtain ⟨Rb, hr, U3⟩ := Co h Dj w
 refine ⟨Rb, ?_, U3⟩
 have Ka : ∃ inf, P.info? el = some inf := by
  unfold l9 at h
  split at h
  ·rcases DJ h with ⟨d, hd, _⟩ | ⟨d, hd, _⟩ <;> exact info_of_underlying hd
  ·cases h
 obtain ⟨inf, Ia⟩ := Ka
 have Z6 : 0 <= q /\ q < (m : Int) := ⟨hq, by omega⟩
 simp only [Instr.index, asIntOf, Sem.run_bind, Sem.run_pure, run_underlying hu, Result.andThen_ok, Sem.run_ite, Z6, and_self, if_true, run_sizeOf w Ia, hr]
theorem Qo {t : TypeId} {j : Nat} {s : ByteArray} {u : UInt8} {x : VV} {mx : Value} (hu : P.underlying t = some .string) (hj : Y4 x = some j) (h : s.data.toList[j]? = some u)
  (hx : Y0 ρ x mx) : (Instr.index t (.string s) mx).run P w = .ok (.int .u8 u.toNat) w := by
 obtain ⟨k, q, rfl, hq, rfl⟩ := Aq hj hx
 have R3 : q.toNat < s.size := by
  have := (List.getElem?_eq_some_iff.1 h).1
  show q.toNat < s.data.size
  rwa [Array.length_toList] at this
 have O8 : s[q.toNat]? = some u := by
  rw [getElem?_pos s q.toNat R3]
  have h2 := (List.getElem?_eq_some_iff.1 h).2
  rw [<- h2]; rfl
 simp only [Instr.index, asIntOf, Sem.run_bind, Sem.run_pure, run_underlying hu, Result.andThen_ok, hq, if_true, O8]
theorem J9 {r : Nat} {P4 : Array MapEntry} {clock : Nat} (h : w.heap[r]? = some (.map P4 clock)) : (getObj r).run P w = .ok (.map P4 clock) w := by
 simp only [getObj, Sem.run, h]
theorem v5 {kt : TypeId} {key : VV} {mk : Value} (h : Ab P kt key = true) (hk : Y0 ρ key mk) (b : Bool) : (Instr.checkKey b 10000 kt mk).run P w = .ok () w := by
 unfold Ab at h
 split at h
 ·rename_i hu; cases hk; unfold Instr.checkKey; simp only [Sem.run_bind, run_underlying hu, Result.andThen_ok]; rfl
 ·rename_i hu; cases hk; unfold Instr.checkKey; simp only [Sem.run_bind, run_underlying hu, Result.andThen_ok]; rfl
 ·cases h
theorem Gv {kt : TypeId} {key : VV} {mk : Value} (h : Ab P kt key = true) (hk : Y0 ρ key mk) (d : TypeDesc) (hd : P.underlying kt = some d) :
  ∀ (es : List (VV × VV)) (P4 : List MapEntry) (r : Option VV) (i0 : Nat), X2 key es = some r -> es.length = P4.length ->
   (∀ (i : Nat) p m, es[i]? = some p -> P4[i]? = some m -> Y0 ρ p.1 m.key /\ Y0 ρ p.2 m.val) ->
   (r = none /\ Instr.findNow d mk P4 i0 = some none) \/ ∃ i v p mv, r = some v /\ Instr.findNow d mk P4 i0 = some (some (i0 + i, mv)) /\ Y0 ρ v mv /\ es[i]? = some p /\ p.2 = v
 | [], P4, r, i0, hf, hl, _ => by
  have : P4 = [] := List.eq_nil_of_length_eq_zero hl.symm
  subst this
  simp [X2] at hf; subst hf
  exact .inl ⟨rfl, rfl⟩
 | (k, v) :: es, [], r, i0, hf, hl, _ => by simp at hl
 | (k, v) :: es, m :: P4, r, i0, hf, hl, U3 => by
  obtain ⟨UG, sJ⟩ := U3 0 _ _ rfl rfl
  simp only at UG sJ
  have ih := Gv h hk d hd es P4 r (i0 + 1)
  have step : (∀ b, Instr.sameNow d mk m.key = some b -> X2 key ((k, v) :: es) = (if b then some (some v) else X2 key es)) -> (∃ b, Instr.sameNow d mk m.key = some b) ->
    (r = none /\ Instr.findNow d mk (m :: P4) i0 = some none) \/ ∃ i v' p mv, r = some v' /\ Instr.findNow d mk (m :: P4) i0 = some (some (i0 + i, mv)) /\ Y0 ρ v' mv /\ ((k, v) :: es)[i]? = some p /\ p.2 = v' := by
   intro h1 ⟨b, hb⟩
   have h2 := h1 b hb
   rw [h2] at hf
   cases b with
   | true =>
    simp only [if_true, U0] at hf; subst hf
    exact .inr ⟨0, v, (k, v), m.val, rfl, by simp [Instr.findNow, hb], sJ, rfl, rfl⟩
   | false =>
    simp only [Bool.false_eq_true, if_false] at hf
    rcases ih hf (by simpa using hl) (fun i p q a b => U3 (i + 1) p q (by simpa using a) (by simpa using b)) with ⟨h3, h4⟩ | ⟨i, v', p, mv, h3, h4, h5, h6, h7⟩
    ·exact .inl ⟨h3, by simp [Instr.findNow, hb, h4]⟩
    ·exact .inr ⟨i + 1, v', p, mv, h3, by simp [Instr.findNow, hb, h4]; omega, h5, by simpa using h6, h7⟩
  unfold Ab at h
  rw [hd] at h
  split at h
  ·rename_i k' kk n cS
   simp only [U0] at cS; subst cS
   cases hk
   cases k <;> first | (simp only [X2] at hf; cases hf; done) | skip
   rename_i kb y
   have U9 : m.key = .int kb y := by generalize m.key = q at UG; cases UG; rfl
   by_cases mI : kk = kb
   ·subst mI
    refine step (fun c hc => ?_) ⟨n == y, by rw [U9]; simp [Instr.sameNow]⟩
    rw [U9] at hc
    simp only [Instr.sameNow, if_true, U0] at hc; subst hc
    simp only [X2, if_true]
    by_cases e2 : n = y <;> simp [e2]
   ·simp only [X2, mI, if_false] at hf
    cases hf
  ·rename_i s cS
   simp only [U0] at cS; subst cS
   cases hk
   cases k <;> first | (simp only [X2] at hf; cases hf; done) | skip
   rename_i y
   have U9 : m.key = .string y := by generalize m.key = q at UG; cases UG; rfl
   refine step (fun c hc => ?_) ⟨s == y, by rw [U9]; simp [Instr.sameNow]⟩
   rw [U9] at hc
   simp only [Instr.sameNow, U0] at hc; subst hc
   simp only [X2, beq_toListBytes]
   by_cases e2 : s.toList = y.toList <;> simp [e2]
  ·cases h
end
end Go.Proofs.Ythlbahcggmbfaaa.V
namespace Go.Proofs.Ythlbahcggmbfaaa.V
open Go.RowKit
section
variable {P : Program} {ρ : Ren} (w : World)
theorem Kn : ∀ (es : List (List VV)) (l : List UInt8) (ms : List Value), N5 es = some l -> P2 ρ es.flatten ms ->
  ∃ ns : List Int, ms = ns.map (fun n => Value.int .u8 n) /\ l = ns.map fun n => UInt8.ofNat n.toNat
 | [], l, ms, h, hr => by
  simp [N5] at h; subst h
  exact ⟨[], by simpa using hr.of_nil, rfl⟩
 | [] :: es, l, ms, h, _ => by simp [N5] at h
 | (c :: d :: r) :: es, l, ms, h, _ => by cases c <;> (try (rename_i k n; cases k)) <;> simp [N5] at h
 | [c] :: es, l, ms, h, hr => by
  cases c <;> (try (simp [N5] at h; done))
  rename_i k n
  cases k <;> (try (simp [N5] at h; done))
  simp only [N5, Option.map_eq_some_iff] at h
  obtain ⟨l', cR, rfl⟩ := h
  simp only [List.flatten_cons, List.singleton_append] at hr
  obtain ⟨v', x', rfl, hv, hx⟩ := hr.of_cons
  cases hv
  obtain ⟨ns, h1, h2⟩ := Kn es l' x' cR hx
  exact ⟨n :: ns, by simp [h1], by simp [h2]⟩
theorem Kj {z : Nat} {h : A0} {g : Nat -> Option F2} {b i n z' : Nat} {c : Option Nat} {es : List (List VV)} {mv : Value} (he : U5 z h (.slice b i n c z') = some es)
  (hv : Y0 ρ (.slice b i n c z') mv) (hR : Rel ρ g w) (PR : ∀ b ob, ρ b ≠ none -> h.get b = some ob -> g b = some ob) :
  ∃ a o5 ms, mv = .slice (some a) n o5 /\ P2 ρ es.flatten ms /\ ms.length = n * z /\ es.length = n /\ (∀ cs ∈ es, cs.length = z /\ cs.all H2 = true) /\
   ∀ (j : Nat) v, ms[j]? = some v -> w.cell? (a.add j) = some v := by
 unfold U5 at he
 cases hv with
 | slice _ _ _ _ _ l a o5 hb NU hn hm hc ho ha =>
 simp only at he
 split at he
 ·rename_i k hg
  split at he
  ·rename_i Z6
   obtain ⟨hz, hlen⟩ := Z6
   subst hz
   simp only [U0] at he; subst he
   obtain ⟨o, CV, B2⟩ := hR.obj b l hb
   rw [PR b _ (by rw [hb]; simp) hg] at CV
   simp only [U0] at CV; subst CV
   generalize hw : w.heap[l.mb]? = mo at B2
   cases B2 with
   | cells k mc t fr Gi hs he h0 U8 Ib rQ =>
   have Ka : ∀ (j : Nat) cs, ((k.es.drop i).take n)[j]? = some cs -> cs.length = z' /\ cs.all H2 = true /\ ∀ (q : Nat) v, cs[q]? = some v -> ∃ mv, mc[l.l6 + (i + j) * l.L3 + q]? = some mv /\ Y0 ρ v mv := by
    intro j cs hj
    rw [List.getElem?_take] at hj
    split at hj
    ·rw [List.getElem?_drop] at hj
     obtain ⟨a1, a2, a3⟩ := rQ _ cs hj
     exact ⟨a1.trans NU, a2, a3⟩
    ·cases hj
   have oa : ((k.es.drop i).take n).length = n := by simp; omega
   
   have flat : ∀ (L : List (List VV)) (j0 : Nat), (∀ (j : Nat) cs, L[j]? = some cs -> cs.length = z' /\ ∀ (q : Nat) v, cs[q]? = some v -> ∃ mv, mc[l.l6 + (i + (j0 + j)) * l.L3 + q]? = some mv /\ Y0 ρ v mv) ->
     ∃ ms : List Value, P2 ρ L.flatten ms /\ ms.length = L.length * z' /\ ∀ (q : Nat) v, ms[q]? = some v -> mc[l.l6 + (i + j0) * l.L3 + q]? = some v := by
    intro L
    induction L with
    | nil => intro j0 _; exact ⟨[], P2.nil ρ, by simp, by simp⟩
    | cons cs L ih =>
     intro j0 hL
     obtain ⟨ms, h1, h2, h3⟩ := ih (j0 + 1) (fun j Rn hj => by
      have := hL (j + 1) Rn (by simpa using hj)
      rwa [show j0 + (j + 1) = j0 + 1 + j by omega] at this)
     obtain ⟨PN, Yt⟩ := hL 0 cs rfl
     have KZ : ∃ hs : List Value, P2 ρ cs hs /\ ∀ (q : Nat) v, hs[q]? = some v -> mc[l.l6 + (i + j0) * l.L3 + q]? = some v := by
      refine ⟨(List.range cs.length).map fun q => (mc[l.l6 + (i + j0) * l.L3 + q]?).getD undef, ⟨by simp, ?_⟩, ?_⟩
      ·intro q v v' hv KW
       obtain ⟨mv, e1, e2⟩ := Yt q v hv
       have hq : q < cs.length := (List.getElem?_eq_some_iff.1 hv).1
       rw [Nat.add_zero] at e1
       simp [hq, e1] at KW
       subst KW; exact e2
      ·intro q v hv
       have hq : q < cs.length := by have := (List.getElem?_eq_some_iff.1 hv).1; simpa using this
       obtain ⟨mv, e1, e2⟩ := Yt q _ (List.getElem?_eq_getElem hq)
       rw [Nat.add_zero] at e1
       simp [hq, e1] at hv
       subst hv; exact e1
     obtain ⟨hs, k1, k2⟩ := KZ
     have KY : hs.length = z' := k1.1.symm.trans PN
     refine ⟨hs ++ ms, by simpa using k1.append h1, by simp [KY, h2, Nat.add_mul, Nat.add_comm], ?_⟩
     intro q v hv
     by_cases hq : q < hs.length
     ·rw [List.getElem?_append_left hq] at hv; exact k2 q v hv
     ·rw [List.getElem?_append_right (by omega)] at hv
      have := h3 _ v hv
      rw [<- this]
      congr 1
      rw [KY]
      have e : (i + (j0 + 1)) * l.L3 = (i + j0) * l.L3 + z' := by rw [show i + (j0 + 1) = (i + j0) + 1 by omega, Nat.add_mul, Nat.one_mul, NU]
      omega
   obtain ⟨ms, h1, h2, h3⟩ := flat _ 0 (fun j cs hj => by
    obtain ⟨a1, _, a3⟩ := Ka j cs hj
    exact ⟨a1, by simpa using a3⟩)
   refine ⟨a, o5, ms, rfl, h1, by rw [h2, oa], oa, fun cs Q3 => ?_, fun j v hj => ?_⟩
   ·obtain ⟨j, hj⟩ := List.getElem?_of_mem Q3
    obtain ⟨a1, a2, _⟩ := Ka j cs hj
    exact ⟨a1, a2⟩
   ·have R3 : j < ms.length := (List.getElem?_eq_some_iff.1 hj).1
    have Vi : a = addrAt l i 0 := by
     rcases ha with ha | ⟨XC, _⟩
     ·exact ha
     ·rw [h2, oa, XC] at R3; simp at R3
    have := h3 j v hj
    rw [Vi, Ea]
    unfold addrAt
    rw [cell_of_row w l.mb _ mc t fr hw]
    rw [<- this]
    simp
  ·cases he
 ·cases he
theorem KS {h : A0} {g : Nat -> Option F2} {m : VV} {mm : Value} {es : List (VV × VV)} (hm : IV h m = some es) (hr : Y0 ρ m mm) (hR : Rel ρ g w)
  (PR : ∀ b ob, ρ b ≠ none -> h.get b = some ob -> g b = some ob) :
  (m = .A3 /\ mm = .map none /\ es = []) \/ ∃ b l P4 clock, m = .map b /\ ρ b = some l /\ mm = .map (some l.mb) /\ w.heap[l.mb]? = some (.map P4 clock) /\ es.length = P4.size /\
   ∀ (i : Nat) p q, es[i]? = some p -> P4[i]? = some q -> Y0 ρ p.1 q.key /\ Y0 ρ p.2 q.val := by
 unfold IV at hm
 split at hm
 ·cases hr; simp only [U0] at hm; exact .inl ⟨rfl, rfl, hm.symm⟩
 ·rename_i b
  split at hm
  ·rename_i Aw hg
   simp only [U0] at hm; subst hm
   cases hr with
   | map _ l hb =>
    obtain ⟨o, ho, B2⟩ := hR.obj b l hb
    rw [PR b _ (by rw [hb]; simp) hg] at ho
    simp only [U0] at ho; subst ho
    generalize hw : w.heap[l.mb]? = mo at B2
    cases B2 with
    | map es P4 clock hl _ U3 => exact .inr ⟨b, l, P4, clock, rfl, hb, rfl, hw, hl, U3⟩
  ·cases hm
 ·cases hm
theorem Ql {h : A0} {g : Nat -> Option F2} {t : TypeId} {m key v : VV} {ok : Bool} {mm mk : Value} (hv : Hr P t m key ok h = some v) (hm : Y0 ρ m mm) (hk : Y0 ρ key mk) (hR : Rel ρ g w)
  (PR : ∀ b ob, ρ b ≠ none -> h.get b = some ob -> g b = some ob) : ∃ mv, (Instr.lookup t mm mk ok).run P w = .ok mv w /\ Y0 ρ v mv := by
 unfold Hr at hv
 split at hv
 ·rename_i kt et hu
  split at hv
  ·rename_i D7
   cases uH : IV h m with
   | none => rw [uH] at hv; cases hv
   | some es =>
    rw [uH] at hv
    simp only [Option.bind_some] at hv
    cases hf : X2 key es with
    | none => rw [hf] at hv; cases hv
    | some r =>
     rw [hf] at hv
     simp only at hv
     cases hz : D6 P et with
     | none => rw [hz] at hv; cases hv
     | some z =>
      rw [hz] at hv
      simp only [U0] at hv
      obtain ⟨inf, zv, hi, DN, Re, _, _⟩ := V7 (ρ := ρ) hz
      obtain ⟨kd, Qu⟩ : ∃ d, P.underlying kt = some d := by
       unfold Ab at D7
       split at D7
       ·exact ⟨_, ‹_›⟩
       ·exact ⟨_, ‹_›⟩
       ·cases D7
      have fin : ∀ P4 : Array MapEntry, (Instr.findNow kd mk P4.toList 0 = some none /\ r = none \/ ∃ i u mv, Instr.findNow kd mk P4.toList 0 = some (some (i, mv)) /\ r = some u /\ Y0 ρ u mv) ->
        (mm = .map none /\ P4 = #[] \/ ∃ b clock, mm = .map (some b) /\ w.heap[b]? = some (.map P4 clock)) -> ∃ mv, (Instr.lookup t mm mk ok).run P w = .ok mv w /\ Y0 ρ v mv := by
       intro P4 NY qw
       rcases NY with ⟨mO, rfl⟩ | ⟨i, u, mv, mO, rfl, Sy⟩
       ·refine ⟨if ok then .tuple #[zv, .bool false] else zv, ?_, ?_⟩
        ·rcases qw with ⟨rfl, rfl⟩ | ⟨b, clock, rfl, hb⟩
         ·simp only [Instr.lookup, Sem.run_bind, run_underlying hu, Result.andThen_ok, Sem.run_pure, v5 w D7 hk, Instr.findKey, run_underlying Qu, mO, BM hi DN]
         ·simp only [Instr.lookup, Sem.run_bind, run_underlying hu, Result.andThen_ok, J9 w hb, Sem.run_pure, v5 w D7 hk, Instr.findKey, run_underlying Qu, mO, BM hi DN]
        ·subst hv
         cases ok with
         | true => exact Y0.K8 (P2.cons Re (P2.cons (.bool false) (P2.nil ρ)))
         | false => exact Re
       ·refine ⟨if ok then .tuple #[mv, .bool true] else mv, ?_, ?_⟩
        ·rcases qw with ⟨rfl, rfl⟩ | ⟨b, clock, rfl, hb⟩
         ·simp only [Instr.lookup, Sem.run_bind, run_underlying hu, Result.andThen_ok, Sem.run_pure, v5 w D7 hk, Instr.findKey, run_underlying Qu, mO]
         ·simp only [Instr.lookup, Sem.run_bind, run_underlying hu, Result.andThen_ok, J9 w hb, Sem.run_pure, v5 w D7 hk, Instr.findKey, run_underlying Qu, mO]
        ·subst hv
         cases ok with
         | true => exact Y0.K8 (P2.cons Sy (P2.cons (.bool true) (P2.nil ρ)))
         | false => exact Sy
      rcases KS w uH hm hR PR with ⟨_, rfl, rfl⟩ | ⟨b, l, P4, clock, _, hb, rfl, hw, hl, U3⟩
      ·simp [X2] at hf; subst hf
       exact fin #[] (.inl ⟨by simp [Instr.findNow], rfl⟩) (.inl ⟨rfl, rfl⟩)
      ·refine fin P4 ?_ (.inr ⟨l.mb, clock, rfl, hw⟩)
       rcases Gv D7 hk kd Qu es P4.toList r 0 hf (by simpa using hl) (fun i p q a b => U3 i p q a (by simpa using b)) with ⟨h1, h2⟩ | ⟨i, u, p, mv, h1, h2, h3, _, _⟩
       ·exact .inl ⟨h2, h1⟩
       ·exact .inr ⟨0 + i, u, mv, h2, h1, h3⟩
  ·cases hv
 ·cases hv
end
end Go.Proofs.Ythlbahcggmbfaaa.V
namespace Go.Proofs.Ythlbahcggmbfaaa.V
open Go.RowKit
section
variable {P : Program} {ρ : Ren} (w : World)
theorem foldl_push (ns : List Int) : ∀ s : ByteArray, ns.foldl (fun r n => r.push (UInt8.ofNat n.toNat)) s = ⟨(s.data.toList ++ ns.map fun n => UInt8.ofNat n.toNat).toArray⟩ := by
 induction ns with
 | nil => intro s; simp
 | cons n ns ih =>
  intro s
  rw [List.foldl_cons, ih]
  simp [ByteArray.push]
theorem Np {h : A0} {g : Nat -> Option F2} {src dst : TypeId} {x v : VV} {mx : Value} (hv : Q9 P src dst x h = some v) (hx : Y0 ρ x mx) (hR : Rel ρ g w)
  (PR : ∀ b ob, ρ b ≠ none -> h.get b = some ob -> g b = some ob) : ∃ mv, (convert src dst mx).run P w = .ok mv w /\ Y0 ρ v mv := by
 unfold Q9 at hv
 split at hv
 ·rename_i e hs hd
  split at hv
  ·rename_i he
   cases hx
   simp only [U0] at hv; subst hv
   refine ⟨_, ?_, .str _⟩
   rw [run_convert_bytes_string w src dst e _ _ _ hs he hd]
   simp [Conv.bytesToString]
  ·rename_i b i n c z he
   cases P8 : U5 1 h (.slice b i n c z) with
   | none => rw [P8] at hv; cases hv
   | some es =>
    rw [P8] at hv
    simp only [Option.bind_some, Option.map_eq_some_iff] at hv
    obtain ⟨l, hl, rfl⟩ := hv
    obtain ⟨a, o5, ms, rfl, U3, hlen, _, _, Em⟩ := Kj w P8 hx hR PR
    obtain ⟨ns, rfl, rfl⟩ := Kn es l ms hl U3
    refine ⟨_, ?_, .str _⟩
    rw [run_convert_bytes_string w src dst e _ _ _ hs he hd]
    have ju := run_loadCells_list (P := P) w a _ Em
    rw [hlen, Nat.mul_one] at ju
    rw [run_bytesToString w a n o5 ns ju, foldl_push]
    simp
  ·cases hv
 ·cases hv
theorem KK {o : Oper} {e : Env} {h h' : A0} {g : Nat -> Option F2} {call : O5} {v : VV} (hk : Y1 P o = .pure \/ Y1 P o = .read) (K0 : CG P call o e h = some (v, h')) (a : Act)
  (ho : ∀ x ∈ o.op.operands, Y0 ρ (ev e x) (a.eval x)) (hR : Rel ρ g w) (PR : Y1 P o = .read -> ∀ b ob, ρ b ≠ none -> h.get b = some ob -> g b = some ob) :
  h' = h /\ ∃ mv, (execOp a.eval o).run P w = .ok (.value mv) w /\ Y0 ρ v mv := by
 have BO : ∀ {x : Option VV}, x.map (fun v => (v, h)) = some (v, h') -> h' = h /\ x = some v := by
  intro x hx
  simp only [Option.map_eq_some_iff, Prod.mk.injEq] at hx
  obtain ⟨u, hu, rfl, rfl⟩ := hx
  exact ⟨rfl, hu⟩
 have lift : ∀ {s : Sem Value}, (∃ mv, s.run P w = .ok mv w /\ Y0 ρ v mv) -> ∃ mv, ((do pure (.value (<- s)) : Sem Next)).run P w = .ok (.value mv) w /\ Y0 ρ v mv := by
  rintro s ⟨mv, h1, h2⟩
  exact ⟨mv, by simp only [Sem.run_bind, h1, Result.andThen_ok, Sem.run_pure], h2⟩
 obtain ⟨dst, op, type, pos, after, guard⟩ := o
 cases op <;> simp only [CG, Y1] at K0 hk <;> (try (rcases hk with hk | hk <;> cases hk; done)) <;> (try (cases K0; done)) <;> simp only [Op.operands] at ho <;> simp only [execOp]
 case move x =>
  simp only [U0, Prod.mk.injEq] at K0
  obtain ⟨rfl, rfl⟩ := K0
  exact ⟨rfl, _, rfl, ho x (by simp)⟩
 case assign x =>
  simp only [U0, Prod.mk.injEq] at K0
  obtain ⟨rfl, rfl⟩ := K0
  exact ⟨rfl, _, rfl, ho x (by simp)⟩
 case pick c x y =>
  have hc := ho c (by simp)
  split at K0
  ·rename_i e1
   rw [e1] at hc
   generalize a.eval c = mc at hc
   cases hc
   simp only [U0, Prod.mk.injEq] at K0
   obtain ⟨rfl, rfl⟩ := K0
   exact ⟨rfl, _, by simp [asBool], ho x (by simp)⟩
  ·rename_i e1
   rw [e1] at hc
   generalize a.eval c = mc at hc
   cases hc
   simp only [U0, Prod.mk.injEq] at K0
   obtain ⟨rfl, rfl⟩ := K0
   exact ⟨rfl, _, by simp [asBool], ho y (by simp)⟩
  ·cases K0
 case build t parts =>
  obtain ⟨rfl, hv⟩ := BO K0
  refine ⟨rfl, lift (Tg w hv (by simp) (PH parts ?_))⟩
  intro x hx
  exact ho x (by simpa using hx)
 case load t x =>
  obtain ⟨rfl, hv⟩ := BO K0
  exact ⟨rfl, lift (Jq hv (ho x (by simp)) hR (PR rfl))⟩
 case nilCheck x =>
  have hx := ho x (by simp)
  split at K0
  ·rename_i e1
   rw [e1] at hx
   generalize a.eval x = mx at hx
   simp only [U0, Prod.mk.injEq] at K0
   obtain ⟨rfl, rfl⟩ := K0
   refine ⟨rfl, mx, ?_, hx⟩
   cases hx; rfl
  ·rename_i e1
   rw [e1] at hx
   generalize a.eval x = mx at hx
   simp only [U0, Prod.mk.injEq] at K0
   obtain ⟨rfl, rfl⟩ := K0
   refine ⟨rfl, mx, ?_, hx⟩
   cases hx; rfl
  ·rename_i e1
   rw [e1] at hx
   generalize a.eval x = mx at hx
   simp only [U0, Prod.mk.injEq] at K0
   obtain ⟨rfl, rfl⟩ := K0
   refine ⟨rfl, mx, ?_, hx⟩
   cases hx; rfl
  ·cases K0
 case binOp op t x y u =>
  obtain ⟨rfl, hv⟩ := BO K0
  exact ⟨rfl, lift (UW w hv (ho x (by simp)) (ho y (by simp)))⟩
 case unOp op t x =>
  obtain ⟨rfl, hv⟩ := BO K0
  exact ⟨rfl, lift (Xi w hv (ho x (by simp)))⟩
 case convert src dst x =>
  split at K0
  ·obtain ⟨rfl, hv⟩ := BO K0
   rename_i e1 e2
   exact ⟨rfl, lift (Np w hv (ho x (by simp)) hR (PR (by simp only [Y1, e1, e2])))⟩
  ·rename_i e1 e2
   simp only [e1, e2] at hk
   rcases hk with hk | hk <;> cases hk
  ·obtain ⟨rfl, hv⟩ := BO K0
   exact ⟨rfl, lift (Rq w hv (ho x (by simp)))⟩
 case makeInterface t x =>
  split at K0
  ·cases K0
  ·rename_i d hn hu
   simp only [U0, Prod.mk.injEq] at K0
   obtain ⟨rfl, rfl⟩ := K0
   refine ⟨rfl, lift ⟨.iface t (a.eval x), ?_, .iface t _ _ (ho x (by simp))⟩⟩
   simp only [Instr.makeInterface, Sem.run_bind, run_underlying hu, Result.andThen_ok]
   cases d <;> first | rfl | exact absurd rfl (hn _)
  ·cases K0
 case makeFunc fn first Il =>
  simp only [U0, Prod.mk.injEq] at K0
  obtain ⟨rfl, rfl⟩ := K0
  refine ⟨rfl, lift ⟨_, rfl, ?_⟩⟩
  have rel : ∀ xs : Array Operand, (∀ x ∈ xs, Y0 ρ (ev e x) (a.eval x)) -> P2 ρ (I4 e xs) (xs.map a.eval).toList := by
   intro xs Dr
   refine ⟨by simp [I4], fun i u mu hu ON => ?_⟩
   simp only [I4, List.getElem?_map, Option.map_eq_some_iff, Array.toList_map] at hu ON
   obtain ⟨x, hx, rfl⟩ := hu
   obtain ⟨y, hy, rfl⟩ := ON
   rw [hx] at hy; simp only [U0] at hy; subst hy
   exact Dr x (by simpa using List.mem_of_getElem? hx)
  have r1 := rel first (fun x hx => ho x (by simp [hx]))
  have r2 := rel Il (fun x hx => ho x (by simp [hx]))
  exact .func fn _ _ _ _ (by simpa using r1.1) (by simpa using r2.1) (fun i u mu hu ON => r1.2 i u mu hu (by simpa using ON)) (fun i u mu hu ON => r2.2 i u mu hu (by simpa using ON))
 case slice t x lo hi mx =>
  have hx := ho x (by simp)
  have r1 : O7 ρ (lo.map (ev e)) (lo.map a.eval) := O7.map lo (fun o h => ho o (by simp [h]))
  have r2 : O7 ρ (hi.map (ev e)) (hi.map a.eval) := O7.map hi (fun o h => ho o (by simp [h]))
  have r3 : O7 ρ (mx.map (ev e)) (mx.map a.eval) := O7.map mx (fun o h => ho o (by simp [h]))
  split at K0
  ·rename_i hu e1
   rw [e1] at hx
   generalize a.eval x = mv at hx
   obtain ⟨rfl, hv⟩ := BO K0
   cases hx
   exact ⟨rfl, lift (UP w hv hu r1 r2 r3)⟩
  ·rename_i hu e1
   rw [e1] at hx
   split at K0
   ·cases K0
   ·rename_i he
    obtain ⟨rfl, hv⟩ := BO K0
    exact ⟨rfl, lift (UQ w hv hu he rfl hx r1 r2 r3)⟩
  ·rename_i hu e1
   rw [e1] at hx
   generalize a.eval x = mv at hx
   split at K0
   ·cases K0
   ·rename_i he
    obtain ⟨rfl, hv⟩ := BO K0
    cases hx
    exact ⟨rfl, lift (UR w hv hu he r1 r2 r3)⟩
  ·cases K0
 case fieldAddr s x f =>
  have hx := ho x (by simp)
  split at K0
  ·rename_i fs b i f0 hu e1
   rw [e1] at hx
   split at K0
   ·rename_i fd hf
    split at K0
    ·cases K0
    ·rename_i h0
     simp only [U0, Prod.mk.injEq] at K0
     obtain ⟨rfl, rfl⟩ := K0
     exact ⟨rfl, lift (TR w hu hf h0 hx)⟩
   ·cases K0
  ·cases K0
 case field t x f =>
  have hx := ho x (by simp)
  split at K0
  ·rename_i fs cs hu e1
   rw [e1] at hx
   split at K0
   ·rename_i fd hf
    obtain ⟨rfl, hv⟩ := BO K0
    obtain ⟨ms, e2, Dj⟩ := hx.GV
    obtain ⟨mv, hr, U3⟩ := Co hv Dj w
    refine ⟨rfl, lift ⟨mv, ?_, U3⟩⟩
    simp only [Instr.field, Sem.run_bind, run_underlying hu, Result.andThen_ok, hf, e2, asAgg, Sem.run_pure, hr]
   ·cases K0
  ·cases K0
 case indexAddr t x ix =>
  have hx := ho x (by simp)
  have hi := ho ix (by simp)
  split at K0
  ·rename_i hu e1 hj
   rw [e1] at hx
   split at K0
   ·rename_i hc
    simp only [U0, Prod.mk.injEq] at K0
    obtain ⟨rfl, rfl⟩ := K0
    exact ⟨rfl, lift (OW w hu hc.2.1 hj hc.1 hx hi hc.2.2)⟩
   ·cases K0
  ·rename_i hu e1 hj
   rw [e1] at hx
   split at K0
   ·rename_i hc
    simp only [U0, Prod.mk.injEq] at K0
    obtain ⟨rfl, rfl⟩ := K0
    exact ⟨rfl, lift (OX w hu hc.2 hj hc.1 hx hi)⟩
   ·cases K0
  ·cases K0
 case index t x ix =>
  have hx := ho x (by simp)
  have hi := ho ix (by simp)
  split at K0
  ·rename_i hu e1 hj
   rw [e1] at hx
   split at K0
   ·rename_i hc
    obtain ⟨rfl, hv⟩ := BO K0
    exact ⟨rfl, lift (Sx w hu hj hc hv hx hi)⟩
   ·cases K0
  ·rename_i hu e1 hj
   rw [e1] at hx
   generalize a.eval x = mv at hx
   split at K0
   ·rename_i u hs
    simp only [U0, Prod.mk.injEq] at K0
    obtain ⟨rfl, rfl⟩ := K0
    cases hx
    exact ⟨rfl, lift ⟨_, Qo w hu hj hs hi, .int _ _⟩⟩
   ·cases K0
  ·cases K0
 case lookup t m k ok =>
  obtain ⟨rfl, hv⟩ := BO K0
  exact ⟨rfl, lift (Ql w hv (ho m (by simp)) (ho k (by simp)) hR (PR rfl))⟩
 case typeAssert x xt t ok =>
  have hx := ho x (by simp)
  split at K0
  ·cases K0
  ·rename_i d t' u hn hu e1
   rw [e1] at hx
   generalize a.eval x = mx at hx
   cases hx with
   | iface _ _ mu ON =>
   split at K0
   ·rename_i he
    subst he
    simp only [U0, Prod.mk.injEq] at K0
    obtain ⟨rfl, rfl⟩ := K0
    refine ⟨rfl, lift ⟨if ok then .tuple #[mu, .bool true] else mu, ?_, ?_⟩⟩
    ·simp only [Instr.typeAssert, Sem.run_bind, run_underlying hu, Result.andThen_ok]
     cases d <;> first | (exact absurd rfl (hn _)) | simp
    ·cases ok with
     | true => exact Y0.K8 (P2.cons ON (P2.cons (.bool true) (P2.nil ρ)))
     | false => exact ON
   ·rename_i he
    split at K0
    ·rename_i I5
     subst I5
     simp only [Option.map_eq_some_iff, Prod.mk.injEq] at K0
     obtain ⟨z, hz, rfl, rfl⟩ := K0
     obtain ⟨inf, zv, hi, DN, Re, _, _⟩ := V7 (ρ := ρ) hz
     refine ⟨rfl, lift ⟨.tuple #[zv, .bool false], ?_, Y0.K8 (P2.cons Re (P2.cons (.bool false) (P2.nil ρ)))⟩⟩
     simp only [Instr.typeAssert, Sem.run_bind, run_underlying hu, Result.andThen_ok]
     cases d <;> first | (exact absurd rfl (hn _)) | simp [he, BM hi DN]
    ·cases K0
  ·rename_i d hn hu e1
   rw [e1] at hx
   generalize a.eval x = mx at hx
   cases hx
   split at K0
   ·rename_i I5
    subst I5
    simp only [Option.map_eq_some_iff, Prod.mk.injEq] at K0
    obtain ⟨z, hz, rfl, rfl⟩ := K0
    obtain ⟨inf, zv, hi, DN, Re, _, _⟩ := V7 (ρ := ρ) hz
    refine ⟨rfl, lift ⟨.tuple #[zv, .bool false], ?_, Y0.K8 (P2.cons Re (P2.cons (.bool false) (P2.nil ρ)))⟩⟩
    simp only [Instr.typeAssert, Sem.run_bind, run_underlying hu, Result.andThen_ok]
    cases d <;> first | (exact absurd rfl (hn _)) | simp [BM hi DN]
   ·cases K0
  ·cases K0
 case extract x i =>
  have hx := ho x (by simp)
  split at K0
  ·rename_i vs e1
   rw [e1] at hx
   split at K0
   ·rename_i u hu
    simp only [U0, Prod.mk.injEq] at K0
    obtain ⟨rfl, rfl⟩ := K0
    by_cases Bf : vs = []
    ·subst Bf; simp at hu
    ·obtain ⟨ms, e2, Dj⟩ := hx.Oz
     obtain ⟨mu, ON, U3⟩ := Dj.at hu
     refine ⟨rfl, lift ⟨mu, ?_, U3⟩⟩
     have : ms[i]? = some mu := by simpa using ON
     simp only [Instr.extract, e2, this, Sem.run_pure]
   ·cases K0
  ·cases K0
 case call c =>
  obtain ⟨callee, args, argTypes⟩ := c
  have V6 : P2 ρ (I4 e args) (args.map a.eval).toList := by
   refine ⟨by simp [I4], fun i u mu hu ON => ?_⟩
   simp only [I4, List.getElem?_map, Option.map_eq_some_iff, Array.toList_map] at hu ON
   obtain ⟨x, hx, rfl⟩ := hu
   obtain ⟨y, hy, rfl⟩ := ON
   rw [hx] at hy; simp only [U0] at hy; subst hy
   exact ho x (by simp [Call.operands]; right; simpa using List.mem_of_getElem? hx)
  cases callee with
  | value f => rcases hk with hk | hk <;> cases hk
  | invoke r m => rcases hk with hk | hk <;> cases hk
  | builtin b =>
   have hex : (do let d <- resolve a.eval { callee := .builtin b, args, argTypes } type; invoke d.target d.args : Sem Next) =
     builtin b argTypes type (args.map fun | .const _ => true | _ => false) (args.map a.eval) := rfl
   rw [hex]
   cases b <;> (try (rcases hk with hk | hk <;> cases hk; done)) <;> simp only [F8] at K0
   case len =>
    simp only [builtin]
    generalize I4 e args = L at K0 V6
    rcases L with _ | ⟨x, _ | ⟨y, L⟩⟩ <;> (try dsimp only at K0) <;> (try (cases K0; done))
    obtain ⟨mx, rest, Dj, hx, Bf⟩ := V6.of_cons
    have Di := Bf.of_nil
    subst Di
    have JT : args.map a.eval = #[mx] := by
     apply Array.ext'; simpa using Dj
    rw [JT]
    split at K0
    ·rename_i ht
     simp only [U0, Prod.mk.injEq] at K0
     obtain ⟨rfl, rfl⟩ := K0
     cases hx
     obtain ⟨t, OL, OY⟩ := Option.bind_eq_some_iff.1 ht
     refine ⟨rfl, lift ⟨_, ?_, .int _ _⟩⟩
     simp [Builtin.len_, OL, run_underlying OY, goInt]
    ·rename_i ht
     simp only [U0, Prod.mk.injEq] at K0
     obtain ⟨rfl, rfl⟩ := K0
     cases hx
     obtain ⟨t, OL, OY⟩ := Option.bind_eq_some_iff.1 ht
     refine ⟨rfl, lift ⟨_, ?_, .int _ _⟩⟩
     simp [Builtin.len_, OL, run_underlying OY, goInt]
    ·rename_i ht
     simp only [U0, Prod.mk.injEq] at K0
     obtain ⟨rfl, rfl⟩ := K0
     cases hx
     obtain ⟨t, OL, OY⟩ := Option.bind_eq_some_iff.1 ht
     refine ⟨rfl, lift ⟨_, ?_, .int _ _⟩⟩
     simp [Builtin.len_, OL, run_underlying OY, goInt]
    ·rename_i ht
     simp only [Option.map_eq_some_iff, Prod.mk.injEq] at K0
     obtain ⟨es, P8, rfl, rfl⟩ := K0
     obtain ⟨t, OL, OY⟩ := Option.bind_eq_some_iff.1 ht
     refine ⟨rfl, lift ⟨_, ?_, .int _ _⟩⟩
     rcases KS w P8 hx hR (PR (by simp only [Y1, ht])) with ⟨rfl, rfl, rfl⟩ | ⟨b, l, P4, clock, rfl, hb, rfl, hw, hl, _⟩
     ·simp [Builtin.len_, OL, run_underlying OY, goInt]
     ·simp [Builtin.len_, OL, run_underlying OY, goInt, J9 w hw, hl]
    ·rename_i ht
     simp only [U0, Prod.mk.injEq] at K0
     obtain ⟨rfl, rfl⟩ := K0
     obtain ⟨t, OL, OY⟩ := Option.bind_eq_some_iff.1 ht
     refine ⟨rfl, lift ⟨_, ?_, .int _ _⟩⟩
     simp [Builtin.len_, OL, run_underlying OY, goInt]
    ·cases K0
   case max =>
    rw [show builtin .max argTypes type (args.map fun | .const _ => true | _ => false) (args.map a.eval) = (do pure (.value (<- Builtin.max_ argTypes type (args.map a.eval))) : Sem Next) from rfl]
    generalize I4 e args = L at K0 V6
    rcases L with _ | ⟨x, _ | ⟨y, _ | ⟨z, L⟩⟩⟩ <;> (try dsimp only at K0) <;> (try (cases K0; done)) <;> cases x <;> (try dsimp only at K0) <;> (try (cases K0; done)) <;> cases y <;> (try dsimp only at K0) <;> (try (cases K0; done))
    obtain ⟨mx, rest, Dj, hx, Di⟩ := V6.of_cons
    obtain ⟨my, WN, rfl, hy, Bf⟩ := Di.of_cons
    have NR := Bf.of_nil
    subst NR
    have JT : args.map a.eval = #[mx, my] := by
     apply Array.ext'; simpa using Dj
    rw [JT]
    cases hx; cases hy
    simp only [U0, Prod.mk.injEq] at K0
    obtain ⟨rfl, rfl⟩ := K0
    exact ⟨rfl, lift ⟨_, run_max_int2 w _ _ _ _ _ _, .int _ _⟩⟩
   case min =>
    rw [show builtin .min argTypes type (args.map fun | .const _ => true | _ => false) (args.map a.eval) = (do pure (.value (<- Builtin.min_ argTypes type (args.map a.eval))) : Sem Next) from rfl]
    generalize I4 e args = L at K0 V6
    rcases L with _ | ⟨x, _ | ⟨y, _ | ⟨z, L⟩⟩⟩ <;> (try dsimp only at K0) <;> (try (cases K0; done)) <;> cases x <;> (try dsimp only at K0) <;> (try (cases K0; done)) <;> cases y <;> (try dsimp only at K0) <;> (try (cases K0; done))
    obtain ⟨mx, rest, Dj, hx, Di⟩ := V6.of_cons
    obtain ⟨my, WN, rfl, hy, Bf⟩ := Di.of_cons
    have NR := Bf.of_nil
    subst NR
    have JT : args.map a.eval = #[mx, my] := by
     apply Array.ext'; simpa using Dj
    rw [JT]
    cases hx; cases hy
    simp only [U0, Prod.mk.injEq] at K0
    obtain ⟨rfl, rfl⟩ := K0
    exact ⟨rfl, lift ⟨_, run_min_int2 w _ _ _ _ _ _, .int _ _⟩⟩
end
end Go.Proofs.Ythlbahcggmbfaaa.V
namespace Go.Proofs.Ythlbahcggmbfaaa.V
open Go.RowKit
section
variable {P : Program} {ρ : Ren} (w : World)
theorem Nt (z : Nat) : ∀ (k : Nat) (l : List VV) (i : Nat) (c : List VV), (chunks z k l)[i]? = some c -> k * z <= l.length -> c.length = z /\ ∀ (j : Nat) v, c[j]? = some v -> l[i * z + j]? = some v
 | 0, l, i, c, h, _ => by simp [chunks] at h
 | k + 1, l, i, c, h, hl => by
  rw [Nat.add_mul, Nat.one_mul] at hl
  cases i with
  | zero =>
   simp only [chunks, List.getElem?_cons_zero, U0] at h
   subst h
   refine ⟨by simp; omega, fun j v hv => ?_⟩
   rw [List.getElem?_take] at hv
   split at hv
   ·simpa using hv
   ·cases hv
  | succ i =>
   simp only [chunks, List.getElem?_cons_succ] at h
   obtain ⟨h1, h2⟩ := Nt z k (l.drop z) i c h (by simp; omega)
   refine ⟨h1, fun j v hv => ?_⟩
   have := h2 j v hv
   rw [List.getElem?_drop] at this
   rw [<- this]
   congr 1
   rw [Nat.add_mul, Nat.one_mul]
   omega
theorem Gy (z : Nat) : ∀ (k : Nat) (l : List VV), (chunks z k l).length = k
 | 0, _ => rfl
 | k + 1, l => by simp [chunks, Gy z k]
theorem SQ {l : Loc} {cs : List VV} {c : Array Value} {t : TypeId} {Q1 : Nat} (h : P2 ρ cs c.toList) (C7 : cs.all H2 = true) (h0 : cs.length ≠ 0) (hc : l.l6 = 0) (he : l.L3 = cs.length) (hm : l.iI = c.size) (hr : l.ro = false) :
  Cg ρ l (.cells { es := [cs], L3 := cs.length, Q1, E5 := 0, Q2 := true, last := true, ro := false }) (some (.cells c t (0, 0))) := by
 have EO : c.size = cs.length := by have := h.1; simpa using this.symm
 refine .cells _ c t (0, 0) (fun _ => hr) hm.symm he.symm (by omega) (by simp [hc, he, hm, EO]) (fun _ x _ => by simp) ?_
 intro i Rn Q3
 cases i with
 | zero =>
  simp only [List.getElem?_cons_zero, U0] at Q3
  subst Q3
  refine ⟨he.symm, C7, fun j v hv => ?_⟩
  obtain ⟨mv, h1, h2⟩ := h.at hv
  exact ⟨mv, by simpa [hc] using h1, h2⟩
 | succ i => simp at Q3
theorem Om {h h' : A0} {src dst : TypeId} {x v : VV} {mx : Value} (K0 : CJ P src dst x h = some (v, h')) (hx : Y0 ρ x mx) :
  ∃ obj m w' mv l, h' = h.push obj /\ (convert src dst mx).run P w = .ok mv w' /\ OJ w w' m /\ l.mb = w.heap.size /\ Cg ρ l obj (some m) /\ (∀ k, obj = .cells k -> k.Q1 = h.next /\ k.ro = false) /\
   ∀ ρ' : Ren, ρ' h.next = some l -> Y0 ρ' v mv := by
 unfold CJ at K0
 split at K0
 ·rename_i el s e1 e2
  cases hx
  split at K0
  ·rename_i he
   split at K0
   ·cases K0
   ·rename_i Z6
    simp only [not_or, Decidable.not_not, Nat.not_lt] at Z6
    obtain ⟨Qz, uG⟩ := Z6
    simp only [U0, Prod.mk.injEq] at K0
    obtain ⟨rfl, rfl⟩ := K0
    have j4 := Lib.run_convert_string_bytes (P := P) w src dst el s e1 e2 he
    have og := grownCap_ge w s.size 0 el
    have hle := grownCap_le_maxLen w s.size 0 el (by unfold R2 at uG; unfold maxLen; omega)
    have EO : (Lib.bytesCells w el s).size = grownCap w s.size 0 el := by
     have : s.data.size = s.size := rfl
     simp only [Lib.bytesCells, Array.size_append, Array.size_map, Array.size_replicate]
     omega
    refine ⟨_, _, _, _, ⟨w.heap.size, 0, 1, (Lib.bytesCells w el s).size, false⟩, rfl, j4, ⟨Lib.bytesWorld_size w el s, Lib.bytesWorld_at_new w el s, fun k hk => Lib.bytesWorld_at_old w el s k hk, rfl, rfl, rfl⟩, rfl, ?_, (fun k hk => by cases hk; exact ⟨rfl, rfl⟩), fun ρ' hρ => ?_⟩
    ·refine .cells _ _ el _ (fun _ => rfl) rfl rfl (Nat.one_pos) ?_ (fun _ x hx sI => by simp only at hx; omega) ?_
     ·simp only [List.length_map, Array.length_toList, Nat.zero_add, Nat.mul_one, EO]
      exact og
     ·intro i cs Q3
      simp only [List.getElem?_map, Option.map_eq_some_iff] at Q3
      obtain ⟨u, hu, rfl⟩ := Q3
      refine ⟨rfl, rfl, fun j q hq => ?_⟩
      cases j with
      | zero =>
       simp only [List.getElem?_cons_zero, U0] at hq
       subst hq
       refine ⟨.int .u8 u.toNat, ?_, .int _ _⟩
       have R3 : i < s.data.size := by
        have := (List.getElem?_eq_some_iff.1 hu).1
        simpa using this
       simp only [Nat.zero_add, Nat.mul_one, Nat.add_zero, Lib.bytesCells]
       rw [Array.getElem?_append_left (by simpa using R3), Array.getElem?_map]
       rw [Array.getElem?_toList] at hu
       rw [hu]; rfl
      | succ j => simp at hq
    ·refine Y0.slice h.next 0 s.size none 1 _ _ _ hρ rfl og hle (fun k hk => by cases hk) (fun _ _ => ?_) (.inl (by simp [addrAt]))
     simp only [Nat.zero_add, Nat.mul_one, EO]
  ·cases K0
 ·cases K0
theorem Kp {o : Oper} {e : Env} {h h' : A0} {call : O5} {v : VV} (hk : Y1 P o = .alloc) (K0 : CG P call o e h = some (v, h')) (a : Act)
  (ho : ∀ x ∈ o.op.operands, Y0 ρ (ev e x) (a.eval x)) :
  ∃ obj m w' mv l, h' = h.push obj /\ (execOp a.eval o).run P w = .ok (.value mv) w' /\ OJ w w' m /\ l.mb = w.heap.size /\ Cg ρ l obj (some m) /\ (∀ k, obj = .cells k -> k.Q1 = h.next /\ k.ro = false) /\
   ∀ ρ' : Ren, ρ' h.next = some l -> Y0 ρ' v mv := by
 have lift : ∀ {s : Sem Value} {mv : Value} {w' : World}, s.run P w = .ok mv w' -> ((do pure (.value (<- s)) : Sem Next)).run P w = .ok (.value mv) w' := by
  intro s mv w' h1
  simp only [Sem.run_bind, h1, Result.andThen_ok, Sem.run_pure]
 obtain ⟨dst, op, type, pos, after, guard⟩ := o
 cases op <;> simp only [CG, Y1] at K0 hk <;> (try (cases hk; done)) <;> (try (cases K0; done)) <;> simp only [Op.operands] at ho <;> simp only [execOp]
 case alloc t =>
  split at K0
  ·rename_i z hz
   split at K0
   ·cases K0
   ·rename_i h0
    simp only [U0, Prod.mk.injEq] at K0
    obtain ⟨rfl, rfl⟩ := K0
    obtain ⟨inf, zv, hi, DN, Re, C7, hlen⟩ := V7 (ρ := ρ) hz
    have D2 := Re.cells (BT C7)
    refine ⟨_, .cells zv.cells t, w.alloc (.cells zv.cells t), .pointer (some ⟨w.heap.size, 0, none⟩), ⟨w.heap.size, 0, (C1 z).length, zv.cells.size, false⟩, by rw [<- hlen]; rfl,
     lift ?_, q9 _ _, rfl, SQ D2 C7 (by omega) rfl rfl rfl rfl, fun k hk => by cases hk; exact ⟨rfl, rfl⟩, fun ρ' hρ => ?_⟩
    ·simp [Instr.alloc, BM hi DN, newVar, newRow]
    ·have := Y0.ptr (ρ := ρ') h.next 0 0 _ hρ
     simpa [addrAt] using this
  ·cases K0
 case box t x =>
  split at K0
  ·rename_i hc
   obtain ⟨hlen, h0, C7⟩ := hc
   simp only [U0, Prod.mk.injEq] at K0
   obtain ⟨rfl, rfl⟩ := K0
   have hx := ho x (by simp)
   have D2 := hx.cells (BT C7)
   refine ⟨_, .cells (a.eval x).cells t, w.alloc (.cells (a.eval x).cells t), .pointer (some ⟨w.heap.size, 0, none⟩), ⟨w.heap.size, 0, (C1 (ev e x)).length, (a.eval x).cells.size, false⟩, by rw [<- hlen]; rfl,
    lift ?_, q9 _ _, rfl, SQ D2 C7 (by omega) rfl rfl rfl rfl, fun k hk => by cases hk; exact ⟨rfl, rfl⟩, fun ρ' hρ => ?_⟩
   ·simp [Instr.box, newVar, newRow]
   ·have := Y0.ptr (ρ := ρ') h.next 0 0 _ hρ
    simpa [addrAt] using this
  ·cases K0
 case buildSlice t len parts =>
  unfold u6 at K0
  split at K0
  ·rename_i el hu
   split at K0
   ·rename_i z hz
    simp only at K0
    split at K0
    ·cases K0
    ·rename_i hc
     simp only [not_or, Nat.not_lt, gt_iff_lt] at hc
     obtain ⟨h0, hbig⟩ := hc
     split at K0
     ·rename_i cs kC
      split at K0
      ·rename_i C7
       simp only [U0, Prod.mk.injEq] at K0
       obtain ⟨rfl, rfl⟩ := K0
       obtain ⟨inf, zv, hi, DN, Re, bq, Wm⟩ := V7 (ρ := ρ) hz
       have D2 := Re.cells (BT bq)
       have VU : zv.cells.size = P.cellsOf el := by have := D2.1; simp at this; omega
       
       have F4 : P2 ρ (List.flatten (List.replicate len (C1 z))) ((Array.range (len * P.cellsOf el)).map (fun i => zv.cells[i % zv.cells.size]!)).toList := by
        refine ⟨by simp [List.length_flatten, Wm], fun i x mx hx UE => ?_⟩
        have Ri : i < len * P.cellsOf el := by
         have := (List.getElem?_eq_some_iff.1 UE).1
         simpa using this
        have e1 : ∀ (n i : Nat), i < n * P.cellsOf el -> (List.flatten (List.replicate n (C1 z)))[i]? = (C1 z)[i % P.cellsOf el]? := by
         intro n
         induction n with
         | zero => intro i hi; simp at hi
         | succ n ih =>
          intro i hi
          rw [List.replicate_succ, List.flatten_cons]
          by_cases R3 : i < P.cellsOf el
          ·rw [List.getElem?_append_left (by omega), Nat.mod_eq_of_lt R3]
          ·rw [List.getElem?_append_right (by omega), Wm, ih _ (by rw [Nat.add_mul, Nat.one_mul] at hi; omega), <- Nat.mod_eq_sub_mod (by omega)]
        rw [e1 len i Ri] at hx
        simp [Ri] at UE
        have Va : i % P.cellsOf el < zv.cells.size := by rw [VU]; exact Nat.mod_lt _ (by omega)
        rw [VU, getElem!_pos zv.cells _ Va] at UE
        refine D2.2 _ x mx hx ?_
        rw [<- UE]
        simp [Array.getElem?_eq_getElem Va]
       obtain ⟨IU, hm, U3⟩ := ET (fun i => some (i * P.cellsOf el, P.cellsOf el)) _ ((parts.map fun (i, x) => (i, a.eval x)).toList) _ cs _ kC (by simp) (PH parts (fun x hx => ho x (by simpa using hx))) F4
       have rP : ∀ (pl : Nat -> Option (Nat × Nat)) (ps : List (Nat × VV)) (c o : List VV), DA pl c ps = some o -> o.length = c.length := by
        intro pl ps
        induction ps with
        | nil => intro c o h; simp [DA] at h; rw [h]
        | cons p ps ih =>
         intro c o h
         obtain ⟨i, u⟩ := p
         simp only [DA] at h
         split at h
         ·cases h
         ·split at h
          ·cases h
          ·rename_i UJ
           simp only [not_or, Nat.not_lt, gt_iff_lt, Decidable.not_not] at UJ
           rw [ih _ _ h]
           simp
           omega
       have Q3 : cs.length = len * P.cellsOf el := by rw [rP _ _ _ _ kC]; simp [List.length_flatten, Wm]
       have uE : IU.size = len * P.cellsOf el := by have := U3.1; simp at this; omega
       refine ⟨_, .cells IU el, w.alloc (.cells IU el), .slice (some ⟨w.heap.size, 0, none⟩) len len, ⟨w.heap.size, 0, P.cellsOf el, IU.size, false⟩, rfl,
        lift ?_, q9 _ _, rfl, ?_, fun k hk => by cases hk; exact ⟨rfl, rfl⟩, fun ρ' hρ => ?_⟩
       ·simp only [Instr.buildSlice, Sem.run_bind, run_underlying hu, Result.andThen_ok, run_sizeOf w hi]
        rw [if_neg (by omega)]
        by_cases PN : len * P.cellsOf el = 0
        ·simp only [PN, if_true, Sem.run_bind, Sem.run_pure, Result.andThen_ok]
         have mH : len = 0 := by
          rcases Nat.mul_eq_zero.1 PN with h | h
          ·exact h
          ·omega
         subst mH
         have sH : (Array.range (0 * P.cellsOf el)).map (fun i => zv.cells[i % zv.cells.size]!) = (Array.range (0 * P.cellsOf el)).map (fun i => (#[] : Array Value)[i % (#[] : Array Value).size]!) := by
          rw [Array.eq_empty_of_size_eq_zero (xs := (Array.range (0 * P.cellsOf el)).map (fun i => zv.cells[i % zv.cells.size]!)) (by simp),
           Array.eq_empty_of_size_eq_zero (xs := (Array.range (0 * P.cellsOf el)).map (fun i => (#[] : Array Value)[i % (#[] : Array Value).size]!)) (by simp)]
         rw [sH] at hm
         simp only [Nat.zero_mul] at hm
         simp only [hm, newRow, Sem.run_bind, run_newObj, Result.andThen_ok, Sem.run_pure]
         rfl
        ·simp only [PN, if_false, Sem.run_bind, BM hi DN, Result.andThen_ok, Sem.run_pure]
         simp only [hm, newRow, Sem.run_bind, run_newObj, Result.andThen_ok, Sem.run_pure]
         rfl
       ·refine .cells _ IU el (0, 0) (fun _ => rfl) rfl rfl (by simp; omega) (by simp [Gy, uE]) (fun _ x _ => by simp) ?_
        intro i c UJ
        obtain ⟨k1, k2⟩ := Nt (P.cellsOf el) len cs i c UJ (by omega)
        refine ⟨k1, List.all_eq_true.2 fun u Sy => ?_, fun j u Sy => ?_⟩
        ·obtain ⟨j, hj⟩ := List.getElem?_of_mem Sy
         exact List.all_eq_true.1 C7 u (List.mem_of_getElem? (k2 j u hj))
        ·obtain ⟨mv, q1, q2⟩ := U3.at (k2 j u Sy)
         exact ⟨mv, by simpa using q1, q2⟩
       ·have hb : len <= maxLen := by
         have : len <= len * P.cellsOf el := Nat.le_mul_of_pos_right _ (by omega)
         unfold maxLen; omega
        refine .slice h.next 0 len (some len) _ _ _ len hρ rfl (Nat.le_refl _) hb (fun k hk => by simp only [U0] at hk; exact hk) (fun e => by cases e) (.inl ?_)
        simp [addrAt]
      ·cases K0
     ·cases K0
   ·cases K0
  ·cases K0
 case makeMap t r =>
  cases r with
  | some x => cases K0
  | none =>
   simp only [U0, Prod.mk.injEq] at K0
   obtain ⟨rfl, rfl⟩ := K0
   refine ⟨_, .map #[] 0, w.alloc (.map #[] 0), .map (some w.heap.size), ⟨w.heap.size, 0, 0, 0, false⟩, rfl, lift ?_, q9 _ _, rfl, Cg.map [] #[] 0 rfl (MapKept.stamped_empty 0) (by simp), (fun k hk => by cases hk), fun ρ' hρ => Y0.map h.next _ hρ⟩
   simp [Instr.makeMap]
 case makeSlice t x y =>
  split at K0
  ·rename_i el l c hu hl hc
   split at K0
   ·rename_i z hz
    split at K0
    ·rename_i Z6
     obtain ⟨fo, ui, Wx, h0⟩ := Z6
     simp only [U0, Prod.mk.injEq] at K0
     obtain ⟨rfl, rfl⟩ := K0
     obtain ⟨inf, zv, hi, DN, Re, C7, hlen⟩ := V7 (ρ := ρ) hz
     have D2 := Re.cells (BT C7)
     have VU : zv.cells.size = P.cellsOf el := by have := D2.1; simp at this; omega
     have Fc : inf.size = P.cellsOf el := by simp [Program.cellsOf, hi]
     have Vh : inf.bytes = P.bytesOf el := by simp [Program.bytesOf, hi]
     obtain ⟨kx, ix, e1, lg, Yk⟩ := Aq hl (ho x (by simp))
     obtain ⟨ky, iy, e2, hy0, ud⟩ := Aq hc (ho y (by simp))
     have Rk : (inf.bytes : Int) * iy <= 281474976710656 := by
      rw [Vh, show iy = (c : Int) by omega, Int.mul_comm]
      have : (c : Int) * (P.bytesOf el : Int) = ((c * P.bytesOf el : Nat) : Int) := by simp
      rw [this]
      unfold R2 at ui
      omega
     have j4 := run_make (P := P) w t el inf zv hu hi DN kx ky ix iy lg (by omega) Rk (by unfold R2 at Wx; omega)
     have Dj : (madeCells zv.cells (iy.toNat * inf.size)).size = c * P.cellsOf el := by simp [madeCells, Fc, ud]
     refine ⟨_, .cells (madeCells zv.cells (iy.toNat * inf.size)) el, w.alloc (.cells (madeCells zv.cells (iy.toNat * inf.size)) el), .slice (some ⟨w.heap.size, 0, none⟩) ix.toNat iy.toNat,
      ⟨w.heap.size, 0, P.cellsOf el, (madeCells zv.cells (iy.toNat * inf.size)).size, false⟩, rfl, lift (by rw [e1, e2]; exact j4), q9 _ _, rfl, ?_, (fun k hk => by cases hk; exact ⟨rfl, rfl⟩), fun ρ' hρ => ?_⟩
     ·refine .cells _ _ el (0, 0) (fun _ => rfl) rfl rfl (by simp; omega) (by simp [Dj]) (fun _ x _ => by simp) ?_
      intro i cs Q3
      simp only [List.getElem?_replicate] at Q3
      split at Q3
      ·rename_i Ri
       simp only [U0] at Q3; subst Q3
       refine ⟨hlen, C7, fun j u Sy => ?_⟩
       obtain ⟨mv, q1, q2⟩ := D2.at Sy
       have hj : j < P.cellsOf el := by rw [<- hlen]; exact (List.getElem?_eq_some_iff.1 Sy).1
       refine ⟨mv, ?_, q2⟩
       have R3 : i * P.cellsOf el + j < c * P.cellsOf el := by
        have : (i + 1) * P.cellsOf el <= c * P.cellsOf el := Nat.mul_le_mul_right _ Ri
        rw [Nat.add_mul, Nat.one_mul] at this
        omega
       have Va : (i * P.cellsOf el + j) % P.cellsOf el = j := by rw [Nat.mul_comm, Nat.mul_add_mod, Nat.mod_eq_of_lt hj]
       have ib : j < zv.cells.size := by omega
       have q3 : zv.cells[j] = mv := by
        have : zv.cells.toList[j]? = some mv := q1
        rw [Array.getElem?_toList, Array.getElem?_eq_getElem ib] at this
        exact Option.some.inj this
       simp only [madeCells, Nat.zero_add, Fc, <- ud]
       rw [Array.getElem?_map, Array.getElem?_range, if_pos (by simpa using R3)]
       simp only [Option.map_some, VU, Va]
       rw [getElem!_pos zv.cells j ib, q3]
      ·cases Q3
     ·rw [<- Yk, <- ud]
      exact Y0.slice h.next 0 l (some c) _ _ _ c hρ rfl fo (by unfold R2 at Wx; unfold maxLen; omega) (fun k hk => by simp only [U0] at hk; exact hk) (fun e => by cases e) (.inl (by simp [addrAt]))
    ·cases K0
   ·cases K0
  ·cases K0
 case convert src dst x =>
  split at K0
  ·rename_i e1 e2
   simp only [e1, e2] at hk
   cases hk
  ·rename_i e1 e2
   obtain ⟨obj, m, w', mv, l, h1, h2, h3⟩ := Om w K0 (ho x (by simp))
   exact ⟨obj, m, w', mv, l, h1, lift h2, h3⟩
  ·rename_i h1 h2
   exfalso
   split at hk
   ·exact h1 _ ‹_› ‹_›
   ·exact h2 _ ‹_› ‹_›
   ·cases hk
 case call c =>
  obtain ⟨callee, args, argTypes⟩ := c
  exfalso
  cases callee with
  | value f => cases hk
  | invoke r m => cases hk
  | builtin b =>
   cases b <;> first | (cases hk; done) | skip
   simp only at hk
   split at hk <;> cases hk
end
end Go.Proofs.Ythlbahcggmbfaaa.V
namespace Go.Proofs.Ythlbahcggmbfaaa.V
open Go.RowKit
section
variable {P : Program} {ρ : Ren} {w : World}
theorem Cz (z : Nat) : ∀ (xs : List (List VV)) (p r : Nat) (c : List VV) (v : VV), (∀ cs ∈ xs, cs.length = z) -> xs[p]? = some c -> c[r]? = some v -> xs.flatten[p * z + r]? = some v
 | [], p, r, c, v, _, h, _ => by simp at h
 | x :: xs, p, r, c, v, hz, h, hv => by
  have hx : x.length = z := hz x (by simp)
  rw [List.flatten_cons]
  cases p with
  | zero =>
   simp only [List.getElem?_cons_zero, U0] at h
   subst h
   rw [List.getElem?_append_left (by have := (List.getElem?_eq_some_iff.1 hv).1; omega)]
   simpa using hv
  | succ p =>
   simp only [List.getElem?_cons_succ] at h
   have ih := Cz z xs p r c v (fun cs Q3 => hz cs (by simp [Q3])) h hv
   rw [List.getElem?_append_right (by rw [hx, Nat.add_mul, Nat.one_mul]; omega), <- ih]
   congr 1
   rw [hx, Nat.add_mul, Nat.one_mul]
   omega
theorem Q8 (z : Nat) : ∀ (xs : List (List VV)), (∀ cs ∈ xs, cs.length = z) -> xs.flatten.length = xs.length * z
 | [], _ => by simp
 | x :: xs, h => by
  rw [List.flatten_cons, List.length_append, h x (by simp), Q8 z xs (fun cs Q3 => h cs (by simp [Q3])), List.length_cons, Nat.add_mul, Nat.one_mul, Nat.add_comm]
theorem Kh {xs : List (List VV)} (h : ∀ cs ∈ xs, cs.all H2 = true) : xs.flatten.all H2 = true :=
 List.all_eq_true.2 fun v hv => by
  obtain ⟨cs, Q3, KW⟩ := List.mem_flatten.1 hv
  exact List.all_eq_true.1 (h cs Q3) v KW
theorem KC {h : A0} (hR : Rel ρ h.get w) (hw : WF h.get h.next) {b : Nat} {k : Es} {l : Loc} (hb : ρ b = some l) (hg : h.get b = some (.cells k)) (B2 : k.ro = false)
  (q : Nat) (xs : List (List VV)) (hq : q + xs.length <= k.es.length) (hx : ∀ cs ∈ xs, cs.length = k.L3 /\ cs.all H2 = true) (ms : List Value) (Dj : P2 ρ xs.flatten ms) :
  ∃ w', (storeCells (addrAt l q 0) ms).run P w = .ok () w' /\
   Step ρ h.get h.next w ρ ((match k.Q2 with | true => h | false => h.kill k.Q1 (k.E5 + q)).put b (.cells { k with es := k.es.take q ++ xs ++ k.es.drop (q + xs.length) })).get
    ((match k.Q2 with | true => h | false => h.kill k.Q1 (k.E5 + q)).put b (.cells { k with es := k.es.take q ++ xs ++ k.es.drop (q + xs.length) })).next w' := by
 obtain ⟨o, ho, hr⟩ := hR.obj b l hb
 rw [hg] at ho
 simp only [U0] at ho; subst ho
 generalize hm : w.heap[l.mb]? = mo at hr
 cases hr with
 | cells k c t fr Gi hs he h0 U8 Ib hc =>
 have hlen : ms.length = xs.length * l.L3 := by rw [<- Dj.1, Q8 l.L3 xs (fun cs Q3 => (hx cs Q3).1.trans he)]
 have hmul : (q + xs.length) * l.L3 <= k.es.length * l.L3 := Nat.mul_le_mul_right _ hq
 rw [Nat.add_mul] at hmul
 obtain ⟨w', c', j4, T9, hh, EO, LA, Yp, Of⟩ := n9 P l.mb (l.l6 + q * l.L3) t fr ms 0 c w hm (by rw [hlen, hs]; omega) (by rw [hs]; exact Ib B2) (Dj.one (Kh fun cs Q3 => (hx cs Q3).2))
 simp only [Nat.add_zero] at LA Yp Of
 refine ⟨w', j4, ?_⟩
 refine HM hR hw hb hg B2 q _ (by simp; omega) hm EO (fun x bw => LA x bw) ?_ hh T9
 intro j cs Q3
 rw [List.append_assoc] at Q3
 simp only at Q3
 by_cases h1 : j < q
 ·rw [List.getElem?_append_left (by simp; omega), List.getElem?_take, if_pos h1] at Q3
  obtain ⟨a1, a2, a3⟩ := hc j cs Q3
  refine ⟨a1, a2, fun r v hv => ?_⟩
  obtain ⟨mv, e1, e2⟩ := a3 r v hv
  refine ⟨mv, ?_, e2⟩
  have tl : r < l.L3 := by rw [<- a1]; exact (List.getElem?_eq_some_iff.1 hv).1
  have : (j + 1) * l.L3 <= q * l.L3 := Nat.mul_le_mul_right _ h1
  rw [Nat.add_mul, Nat.one_mul] at this
  rw [LA _ (by omega)]
  exact e1
 ·rw [List.getElem?_append_right (by simp; omega)] at Q3
  have cO : (List.take q k.es).length = q := by simp; omega
  rw [cO] at Q3
  by_cases h2 : j < q + xs.length
  ·rw [List.getElem?_append_left (by omega)] at Q3
   obtain ⟨a1, a2⟩ := hx cs (List.mem_of_getElem? Q3)
   refine ⟨a1.trans he, a2, fun r v hv => ?_⟩
   have Qw := Cz l.L3 xs (j - q) r cs v (fun cs Q3 => (hx cs Q3).1.trans he) Q3 hv
   obtain ⟨mv, e1, e2⟩ := Dj.at Qw
   refine ⟨mv, ?_, e2⟩
   have := Of _ mv e1
   rw [<- this]
   congr 1
   have : j * l.L3 = q * l.L3 + (j - q) * l.L3 := by rw [<- Nat.add_mul]; congr 1; omega
   omega
  ·rw [List.getElem?_append_right (by omega), List.getElem?_drop] at Q3
   rw [show q + xs.length + (j - q - xs.length) = j by omega] at Q3
   obtain ⟨a1, a2, a3⟩ := hc j cs Q3
   refine ⟨a1, a2, fun r v hv => ?_⟩
   obtain ⟨mv, e1, e2⟩ := a3 r v hv
   refine ⟨mv, ?_, e2⟩
   have : (q + xs.length) * l.L3 <= j * l.L3 := Nat.mul_le_mul_right _ (by omega)
   rw [Nat.add_mul] at this
   rw [Yp _ (by rw [hlen]; omega)]
   exact e1
theorem Zk {h h' : A0} (hR : Rel ρ h.get w) (hw : WF h.get h.next) {b i f : Nat} {vs : List VV} {l : Loc} (hb : ρ b = some l) (KV : wr h b i f vs = some h') (C7 : vs.all H2 = true)
  (ms : List Value) (Dj : P2 ρ vs ms) : ∃ w', (storeCells (addrAt l i f) ms).run P w = .ok () w' /\ Step ρ h.get h.next w ρ h'.get h'.next w' := by
 unfold wr at KV
 split at KV
 ·rename_i k hg
  split at KV
  ·rename_i cs hi B2
   split at KV
   ·rename_i hlen
    have kA : h' = (match k.Q2 with | true => h | false => h.kill k.Q1 (k.E5 + i)).put b (.cells { k with es := k.es.set i (cs.take f ++ vs ++ cs.drop (f + vs.length)) }) := by
     revert KV
     cases k.Q2 <;> simp only [U0] <;> exact fun e => e.symm
    subst kA
    obtain ⟨o, ho, hr⟩ := hR.obj b l hb
    rw [hg] at ho
    simp only [U0] at ho; subst ho
    generalize hm : w.heap[l.mb]? = mo at hr
    cases hr with
    | cells k c t fr Gi hs he h0 U8 Ib hc =>
    have uP : i < k.es.length := (List.getElem?_eq_some_iff.1 hi).1
    obtain ⟨b1, b2, b3⟩ := hc i cs hi
    have hmul : (i + 1) * l.L3 <= k.es.length * l.L3 := Nat.mul_le_mul_right _ uP
    rw [Nat.add_mul, Nat.one_mul] at hmul
    have mG : ms.length = vs.length := Dj.1.symm
    obtain ⟨w', c', j4, T9, hh, EO, LA, Yp, Of⟩ := n9 P l.mb (l.l6 + i * l.L3 + f) t fr ms 0 c w hm (by rw [mG, hs]; omega) (by rw [hs]; exact Ib B2) (Dj.one C7)
    simp only [Nat.add_zero] at LA Yp Of
    refine ⟨w', j4, ?_⟩
    refine HM hR hw hb hg B2 i _ (by simp) hm EO (fun x bw => LA x (by omega)) ?_ hh T9
    intro j Rn Q3
    simp only at Q3
    rw [List.getElem?_set] at Q3
    split at Q3
    ·rename_i PQ
     subst PQ
     simp only [U0] at Q3; subst Q3
     refine ⟨by simp; omega, ?_, fun r v hv => ?_⟩
     ·rw [List.all_append, List.all_append, C7]
      have t1 : (List.take f cs).all H2 = true := List.all_eq_true.2 fun u hu => List.all_eq_true.1 b2 u (List.mem_of_mem_take hu)
      have t2 : (List.drop (f + vs.length) cs).all H2 = true := List.all_eq_true.2 fun u hu => List.all_eq_true.1 b2 u (List.mem_of_mem_drop hu)
      rw [t1, t2]; rfl
     ·rw [List.append_assoc] at hv
      have cO : (List.take f cs).length = f := by simp; omega
      by_cases h1 : r < f
      ·rw [List.getElem?_append_left (by omega), List.getElem?_take, if_pos h1] at hv
       obtain ⟨mv, e1, e2⟩ := b3 r v hv
       exact ⟨mv, by rw [LA _ (by omega)]; exact e1, e2⟩
      ·rw [List.getElem?_append_right (by omega), cO] at hv
       by_cases h2 : r < f + vs.length
       ·rw [List.getElem?_append_left (by omega)] at hv
        obtain ⟨mv, e1, e2⟩ := Dj.at hv
        refine ⟨mv, ?_, e2⟩
        rw [<- Of _ mv e1]
        congr 1
        omega
       ·rw [List.getElem?_append_right (by omega), List.getElem?_drop, show f + vs.length + (r - f - vs.length) = r by omega] at hv
        obtain ⟨mv, e1, e2⟩ := b3 r v hv
        exact ⟨mv, by rw [Yp _ (by rw [mG]; omega)]; exact e1, e2⟩
    ·rename_i PQ
     obtain ⟨a1, a2, a3⟩ := hc j Rn Q3
     refine ⟨a1, a2, fun r v hv => ?_⟩
     obtain ⟨mv, e1, e2⟩ := a3 r v hv
     refine ⟨mv, ?_, e2⟩
     have tl : r < l.L3 := by rw [<- a1]; exact (List.getElem?_eq_some_iff.1 hv).1
     rcases Nat.lt_or_gt_of_ne PQ with R3 | uS
     ·have : (i + 1) * l.L3 <= j * l.L3 := Nat.mul_le_mul_right _ R3
      rw [Nat.add_mul, Nat.one_mul] at this
      rw [Yp _ (by rw [mG]; omega)]
      exact e1
     ·have : (j + 1) * l.L3 <= i * l.L3 := Nat.mul_le_mul_right _ uS
      rw [Nat.add_mul, Nat.one_mul] at this
      rw [LA _ (by omega)]
      exact e1
   ·cases KV
  ·cases KV
 ·cases KV
theorem SC {h h' : A0} {t : TypeId} {av v : VV} {ma mv : Value} (J6 : CE P t h av v = some h') (ha : Y0 ρ av ma) (hv : Y0 ρ v mv) (hR : Rel ρ h.get w) (hw : WF h.get h.next) :
  ∃ w', (Instr.storeAt t ma mv).run P w = .ok () w' /\ Step ρ h.get h.next w ρ h'.get h'.next w' := by
 unfold CE at J6
 split at J6
 ·rename_i b i f
  split at J6
  ·rename_i hc
   obtain ⟨hlen, C7, h0⟩ := hc
   cases ha with
   | ptr _ _ _ l hb =>
   have D2 := hv.cells (BT C7)
   obtain ⟨w', j4, E3⟩ := Zk (P := P) hR hw hb J6 C7 _ D2
   refine ⟨w', ?_, E3⟩
   obtain ⟨inf, Ia⟩ := L6 h0
   have EO : mv.cells.size = P.cellsOf t := by have := D2.1; simp at this; omega
   simp only [Instr.storeAt, Instr.sureAddr, Sem.run_bind, Sem.run_pure, Result.andThen_ok, storeVar, run_sizeOf w Ia, EO, ne_eq, not_true_eq_false, if_false, j4]
  ·cases J6
 ·cases J6
end
end Go.Proofs.Ythlbahcggmbfaaa.V
namespace Go.Proofs.Ythlbahcggmbfaaa.V
open Go.RowKit
section
variable {P : Program} {ρ : Ren}
theorem DV {w : World} {z : Nat} {h : A0} {g : Nat -> Option F2} {x : VV} {mx : Value} {xs : List (List VV)} (he : U5 z h x = some xs) (hx : Y0 ρ x mx) (hR : Rel ρ g w)
  (PR : ∀ b ob, ρ b ≠ none -> h.get b = some ob -> g b = some ob) :
  (Builtin.lenOf mx).run P w = .ok xs.length w /\ (∀ cs ∈ xs, cs.length = z /\ cs.all H2 = true) /\
  ∃ ms : List Value, P2 ρ xs.flatten ms /\ (Builtin.firstCells z xs.length mx).run P w = .ok ms.toArray w /\
   (∀ n, n <= xs.length -> (Builtin.firstCells z n mx).run P w = .ok (ms.take (n * z)).toArray w) := by
 cases x <;> (try (simp [U5] at he; done))
 case nilslice =>
  cases hx
  simp only [U5, U0] at he; subst he
  exact ⟨rfl, by simp, [], P2.nil ρ, rfl, fun n hn => by simp [Builtin.firstCells]⟩
 case slice b i n c z' =>
  obtain ⟨a, o5, ms, rfl, h1, h2, h3, h4, h5⟩ := Kj w he hx hR PR
  refine ⟨by simp [Builtin.lenOf, h3], h4, ms, h1, ?_, ?_⟩
  ·have := run_loadCells_list (P := P) w a ms h5
   rw [h2] at this
   rw [h3]
   exact this
  ·intro q hq
   rw [h3] at hq
   have := run_loadCells_list (P := P) w a (ms.take (q * z)) (fun j v hv => by
    rw [List.getElem?_take] at hv
    split at hv
    ·exact h5 j v hv
    ·cases hv)
   have hmul : q * z <= n * z := Nat.mul_le_mul_right _ hq
   rw [List.length_take, h2, Nat.min_eq_left hmul] at this
   exact this
 case str s =>
  cases hx
  simp only [U5] at he
  split at he
  ·rename_i hz
   subst hz
   simp only [U0] at he; subst he
   have hl : (s.data.toList.map fun c => [VV.int .u8 (c.toNat : Int)]).length = s.size := by rw [List.length_map, Array.length_toList]; rfl
   have Em : ∀ q, q <= s.size -> ((s.extract 0 q).data.map fun b => Value.int .u8 (b.toNat : Int)) = ((s.data.toList.map fun c => Value.int .u8 (c.toNat : Int)).take (q * 1)).toArray := by
    intro q hq
    apply Array.ext'
    simp [List.extract]
   refine ⟨by rw [hl]; rfl, by simp [H2], s.data.toList.map fun c => .int .u8 (c.toNat : Int), ?_, ?_, ?_⟩
   ·generalize s.data.toList = l
    induction l with
    | nil => exact P2.nil ρ
    | cons c l ih => exact P2.cons (.int _ _) ih
   ·rw [hl]
    simp only [Builtin.firstCells, Sem.run_pure, Em s.size (Nat.le_refl _)]
    congr 2
    rw [List.take_of_length_le (by rw [List.length_map, Array.length_toList, Nat.mul_one]; exact Nat.le_refl _)]
   ·intro q hq
    rw [hl] at hq
    simp only [Builtin.firstCells, Sem.run_pure, Em q hq]
  ·cases he
theorem DY {w : World} {t u el ty : TypeId} {d : TypeDesc} {inf : TypeInfo} {zv : Value} {base : Option Addr} {sLen sCap m : Nat} {mx : Value} {old new : Array Value}
  (ht : P.underlying t = some (.slice el)) (hu : P.underlying u = some d) (hd : (∃ e', d = .slice e') \/ d = .string) (hi : P.info? el = some inf) (hz : inf.zero = some zv)
  (hlen : (Builtin.lenOf mx).run P w = .ok m w) (rG : sCap < sLen + m) (hb : (sLen + m) * P.bytesOf el <= R2) (hm : sLen + m <= R2)
  (hold : (Builtin.firstCells (P.cellsOf el) sLen (.slice base sLen sCap)).run P w.drew = .ok old w.drew) (Kz : (Builtin.firstCells (P.cellsOf el) m mx).run P w.drew = .ok new w.drew) :
  (Builtin.append_ #[t, u] ty #[.slice base sLen sCap, mx]).run P w =
   .ok (.slice (some ⟨w.heap.size, 0, none⟩) (sLen + m) (grownCap w (sLen + m) sCap el)) (w.drew.alloc (.cells (old ++ new ++ Builtin.zeroCells zv.cells (grownCap w (sLen + m) sCap el - (sLen + m))) el)) := by
 have ui : P.bytesOf el = inf.bytes := by simp [Program.bytesOf, hi]
 have TL := growslice_fits (need := sLen + m) (old := sCap) (bytes := inf.bytes) rG (by unfold R2 at hb; rw [ui] at hb; omega)
 have EO : inf.size = P.cellsOf el := by simp [Program.cellsOf, hi]
 have hn : ¬ (sLen + m <= sCap) := by omega
 have vD : ¬ (9223372036854775807 < ((sLen : Int) + (m : Int))) := by unfold R2 at hm; omega
 have vE : ¬ (281474976710656 < Builtin.nextslicecap (sLen + m) sCap * inf.bytes) := by omega
 rcases hd with ⟨e', rfl⟩ | rfl
 all_goals
  simp [Builtin.append_, run_underlying ht, run_underlying hu, run_sizeOf _ hi, run_typeInfo _ hi, zeroValue, hz, hlen, hn, vD, vE, Question.forced, hold, Kz, newRow, grownCap]
theorem run_append_fits {w w' : World} {t u el ty : TypeId} {d : TypeDesc} {inf : TypeInfo} {a : Addr} {sLen sCap m : Nat} {mx : Value} {new : Array Value}
  (ht : P.underlying t = some (.slice el)) (hu : P.underlying u = some d) (hd : (∃ e', d = .slice e') \/ d = .string) (hi : P.info? el = some inf)
  (hlen : (Builtin.lenOf mx).run P w = .ok m w) (LB : sLen + m <= sCap) (Kz : (Builtin.firstCells (P.cellsOf el) m mx).run P w = .ok new w)
  (J6 : (storeCells (a.add (sLen * P.cellsOf el)) new.toList).run P w = .ok () w') :
  (Builtin.append_ #[t, u] ty #[.slice (some a) sLen sCap, mx]).run P w = .ok (.slice (some a) (sLen + m) sCap) w' := by
 rcases hd with ⟨e', rfl⟩ | rfl
 all_goals
  simp [Builtin.append_, run_underlying ht, run_underlying hu, run_sizeOf _ hi, hlen, LB, Kz, J6]
theorem Eg {w : World} {t u el ty : TypeId} {d : TypeDesc} {inf : TypeInfo} {mx : Value} {base : Option Addr} {sLen sCap : Nat} {new : Array Value}
  (ht : P.underlying t = some (.slice el)) (hu : P.underlying u = some d) (hd : (∃ e', d = .slice e') \/ d = .string) (hi : P.info? el = some inf)
  (hlen : (Builtin.lenOf mx).run P w = .ok 0 w) (LB : sLen <= sCap) (Kz : (Builtin.firstCells (P.cellsOf el) 0 mx).run P w = .ok new w) (h0 : new.toList = []) :
  (Builtin.append_ #[t, u] ty #[.slice base sLen sCap, mx]).run P w = .ok (.slice base sLen sCap) w := by
 have XC : new = #[] := by apply Array.ext'; simpa using h0
 subst XC
 rcases hd with ⟨e', rfl⟩ | rfl
 all_goals
  cases base <;> simp [Builtin.append_, run_underlying ht, run_underlying hu, run_sizeOf _ hi, hlen, LB, Kz, storeCells]
end
end Go.Proofs.Ythlbahcggmbfaaa.V
namespace Go.Proofs.Ythlbahcggmbfaaa.V
open Go.RowKit
section
variable {P : Program} {ρ : Ren}
def ru (g g' : Nat -> Option F2) : Prop :=
 ∀ b o, g b = some o -> ∃ o', g' b = some o' /\ (o' = o \/ ∃ k k', o = .cells k /\ o' = .cells k' /\ k'.ro = k.ro /\ k'.L3 = k.L3 /\ k'.Q1 = k.Q1 /\ k'.E5 = k.E5 /\ (k'.es = k.es \/ k'.es = []))
theorem Rel.soft {g g' : Nat -> Option F2} {w : World} (hR : Rel ρ g w) (hs : ru g g') : Rel ρ g' w := by
 refine ⟨fun b l hb => ?_, fun b1 b2 l1 l2 o1 o2 h1 h2 g1 g2 Y3 Ek => ?_⟩
 ·obtain ⟨o, ho, hr⟩ := hR.obj b l hb
  obtain ⟨o', CV, h | ⟨k, k', rfl, rfl, e1, e2, _, _, e5⟩⟩ := hs b o ho
  ·subst h; exact ⟨o', CV, hr⟩
  ·refine ⟨_, CV, ?_⟩
   generalize w.heap[l.mb]? = m at hr
   cases hr with
   | cells k c t fr Gi OZ he h0 U8 Ib hc =>
    refine .cells k' c t fr (fun h => Gi (e1 ▸ h)) OZ (e2.trans he) h0 ?_ (fun h => Ib (e1 ▸ h)) ?_
    ·rcases e5 with e | e <;> rw [e]
     ·exact U8
     ·simp only [List.length_nil, Nat.zero_mul]; omega
    ·intro i cs Q3
     rcases e5 with e | e <;> rw [e] at Q3
     ·exact hc i cs Q3
     ·simp at Q3
 ·obtain ⟨p1, q1, _⟩ := hR.obj b1 l1 h1
  obtain ⟨p2, q2, _⟩ := hR.obj b2 l2 h2
  obtain ⟨k1, k2, rfl, rfl, cD⟩ := hR.apart b1 b2 l1 l2 p1 p2 h1 h2 q1 q2 Y3 Ek
  have key : ∀ b k o, g b = some (.cells k) -> g' b = some o -> ∃ k', o = .cells k' /\ k'.ro = k.ro /\ k'.Q1 = k.Q1 /\ k'.E5 = k.E5 := by
   intro b k o hg Dt
   obtain ⟨o', CV, h | ⟨k0, k', e0, rfl, e1, _, e3, e4, _⟩⟩ := hs b _ hg
   ·rw [Dt] at CV; simp only [U0] at CV; subst CV
    exact ⟨k, h, rfl, rfl, rfl⟩
   ·rw [Dt] at CV; simp only [U0] at CV; subst CV
    simp only [F2.cells.injEq] at e0; subst e0
    exact ⟨k', rfl, e1, e3, e4⟩
  obtain ⟨tU, f1, a1, a2, a3⟩ := key b1 k1 o1 q1 g1
  obtain ⟨sG, f2, c1, c2, c3⟩ := key b2 k2 o2 q2 g2
  refine ⟨tU, sG, f1, f2, ?_⟩
  rw [a1, a2, a3, c1, c2, c3]
  exact cD
theorem Rel.beyond {g : Nat -> Option F2} {w w' : World} (hR : Rel ρ g w) {b : Nat} {l : Loc} {k : Es} (hb : ρ b = some l) (hg : g b = some (.cells k)) (B2 : k.ro = false) (p : Nat)
  (ij : ∀ b2 k2, g b2 = some (.cells k2) -> k2.Q1 = k.Q1 -> k2.es.length = 0 \/ k2.E5 + k2.es.length <= k.E5 + p) {c c' : Array Value} {t : TypeId} {fr : Nat × Nat}
  (hm : w.heap[l.mb]? = some (.cells c t fr)) (hs : c'.size = c.size) (LA : ∀ x, x < l.l6 + p * l.L3 -> c'[x]? = c[x]?) (oR : w'.heap[l.mb]? = some (.cells c' t fr)) (ho : Jk w w' l.mb) : Rel ρ g w' := by
 refine ⟨fun b2 l2 h2 => ?_, hR.apart⟩
 obtain ⟨o, Fg, hr⟩ := hR.obj b2 l2 h2
 by_cases Ek : l2.mb = l.mb
 ·have al : ∃ k2, o = .cells k2 /\ k2.Q1 = k.Q1 /\ l2.L3 = l.L3 /\ l2.l6 + k.E5 * l2.L3 = l.l6 + k2.E5 * l2.L3 := by
   by_cases Cw : b2 = b
   ·subst Cw
    rw [hb] at h2; simp only [U0] at h2; subst h2
    rw [hg] at Fg; simp only [U0] at Fg; subst Fg
    exact ⟨k, rfl, rfl, rfl, rfl⟩
   ·obtain ⟨k2, k1, rfl, e1, cD⟩ := hR.apart b2 b l2 l o _ h2 hb Fg hg Cw Ek
    cases e1
    rcases cD with ⟨_, h5⟩ | ⟨hf, fq, Rl⟩
    ·rw [B2] at h5; cases h5
    ·exact ⟨k2, rfl, hf, fq, Rl⟩
  obtain ⟨k2, rfl, hf, fq, Rl⟩ := al
  refine ⟨_, Fg, ?_⟩
  rw [Ek, oR]
  rw [Ek, hm] at hr
  cases hr with
  | cells k2 c t fr Gi OZ he h0 U8 Ib hc =>
   refine .cells k2 c' t fr Gi (hs.trans OZ) he h0 U8 Ib fun i cs Q3 => ?_
   obtain ⟨a1, a2, a3⟩ := hc i cs Q3
   refine ⟨a1, a2, fun j v hv => ?_⟩
   obtain ⟨mv, OM, KW⟩ := a3 j v hv
   refine ⟨mv, ?_, KW⟩
   rw [LA _ ?_]
   ·exact OM
   ·have hi : i < k2.es.length := (List.getElem?_eq_some_iff.1 Q3).1
    have hj : j < l2.L3 := by rw [<- a1]; exact (List.getElem?_eq_some_iff.1 hv).1
    rcases ij b2 k2 Fg hf with h5 | h5
    ·omega
    ·have m1 : (i + 1) * l2.L3 <= k2.es.length * l2.L3 := Nat.mul_le_mul_right _ hi
     have m2 : (k2.E5 + k2.es.length) * l2.L3 <= (k.E5 + p) * l2.L3 := Nat.mul_le_mul_right _ h5
     simp only [Nat.add_mul, Nat.one_mul] at m1 m2
     rw [<- fq]
     omega
 ·exact ⟨o, Fg, by rw [ho.other l2.mb Ek]; exact hr⟩
theorem Kd {xs ys : List (List VV)} {z : Nat} {old new rest : Array Value} (hx : ∀ cs ∈ xs, cs.length = z /\ cs.all H2 = true) (hy : ∀ cs ∈ ys, cs.length = z /\ cs.all H2 = true)
  (ho : P2 ρ xs.flatten old.toList) (hn : P2 ρ ys.flatten new.toList) :
  ∀ (i : Nat) cs, (xs ++ ys)[i]? = some cs -> cs.length = z /\ cs.all H2 = true /\ ∀ (j : Nat) v, cs[j]? = some v -> ∃ mv, (old ++ new ++ rest)[i * z + j]? = some mv /\ Y0 ρ v mv := by
 intro i cs Q3
 have X7 : ∀ cs ∈ xs ++ ys, cs.length = z /\ cs.all H2 = true := fun cs Q3 => by
  rcases List.mem_append.1 Q3 with h | h
  ·exact hx cs h
  ·exact hy cs h
 obtain ⟨a1, a2⟩ := X7 cs (List.mem_of_getElem? Q3)
 refine ⟨a1, a2, fun j v hv => ?_⟩
 have Qw := Cz z (xs ++ ys) i j cs v (fun cs Q3 => (X7 cs Q3).1) Q3 hv
 have U3 : P2 ρ (xs ++ ys).flatten (old.toList ++ new.toList) := by rw [List.flatten_append]; exact ho.append hn
 obtain ⟨mv, e1, e2⟩ := U3.at Qw
 refine ⟨mv, ?_, e2⟩
 have R3 : i * z + j < (old.toList ++ new.toList).length := (List.getElem?_eq_some_iff.1 e1).1
 have : (old ++ new ++ rest).toList[i * z + j]? = some mv := by
  rw [Array.toList_append, Array.toList_append, List.getElem?_append_left R3]
  exact e1
 rw [<- Array.getElem?_toList]; exact this
theorem JG {h : A0} (hw : WF h.get h.next) {b i n : Nat} {k : Es} (hg : h.get b = some (.cells k)) (h1 : A0)
  (Oh : h1 = match k.last && Nat.beq (i + n) k.es.length with
   | true => h.put b (.cells { k with Q2 := false, last := false })
   | false => (h.put b (.cells { k with Q2 := false, last := false })).kill k.Q1 (k.E5 + (i + n))) :
  (∀ b2, h1.get b2 = if b2 = b then (some (.cells { k with Q2 := false, last := false }) : Option F2).map (fun o => if k.last && Nat.beq (i + n) k.es.length then o else D5 k.Q1 (k.E5 + (i + n)) o)
   else (h.get b2).map (fun o => if k.last && Nat.beq (i + n) k.es.length then o else D5 k.Q1 (k.E5 + (i + n)) o)) /\
  (∀ b2 k2, h1.get b2 = some (.cells k2) -> ∃ k0, h.get b2 = some (.cells k0) /\ k2.Q1 = k0.Q1 /\ k2.E5 = k0.E5 /\ k2.ro = k0.ro /\ (k2.Q2 = true -> k0.Q2 = true /\ b2 ≠ b) /\
   (k2.es.length = 0 \/ (k2.es = k0.es)) /\ (k2.last = true -> k0.last = true /\ k2.es = k0.es /\ k2.Q1 ≠ k.Q1) /\ (k2.Q1 = k.Q1 -> k2.es.length = 0 \/ k2.E5 + k2.es.length <= k.E5 + (i + n))) /\
  ru h.get h1.get := by
 have R3 := A0.E7 hg
 
 have g1 : ∀ b2, h1.get b2 = if b2 = b then (some (.cells { k with Q2 := false, last := false }) : Option F2).map (fun o => if k.last && Nat.beq (i + n) k.es.length then o else D5 k.Q1 (k.E5 + (i + n)) o)
   else (h.get b2).map (fun o => if k.last && Nat.beq (i + n) k.es.length then o else D5 k.Q1 (k.E5 + (i + n)) o) := by
  intro b2
  rw [Oh]
  cases hc : (k.last && Nat.beq (i + n) k.es.length) with
  | true =>
   simp only [if_true]
   rw [A0.Cy _ _ _ R3]
   split <;> simp
  | false =>
   simp only [Bool.false_eq_true, if_false]
   rw [A0.Nc, A0.Cy _ _ _ R3]
   split <;> rfl
 
 have back : ∀ b2 k2, h1.get b2 = some (.cells k2) -> ∃ k0, h.get b2 = some (.cells k0) /\ k2.Q1 = k0.Q1 /\ k2.E5 = k0.E5 /\ k2.ro = k0.ro /\ (k2.Q2 = true -> k0.Q2 = true /\ b2 ≠ b) /\
   (k2.es.length = 0 \/ (k2.es = k0.es)) /\ (k2.last = true -> k0.last = true /\ k2.es = k0.es /\ k2.Q1 ≠ k.Q1) /\ (k2.Q1 = k.Q1 -> k2.es.length = 0 \/ k2.E5 + k2.es.length <= k.E5 + (i + n)) := by
  intro b2 k2 h2
  rw [g1] at h2
  cases hc : (k.last && Nat.beq (i + n) k.es.length) with
  | true =>
   rw [hc] at h2
   simp only [if_true, Option.map_id_fun', id_eq] at h2
   simp only [Bool.and_eq_true] at hc
   have ij : i + n = k.es.length := B6 hc.2
   split at h2
   ·rename_i e; subst e
    simp only [U0, F2.cells.injEq] at h2; subst h2
    exact ⟨k, hg, rfl, rfl, rfl, (fun e => by cases e), .inr rfl, (fun e => by cases e), fun _ => .inr (by simp only; omega)⟩
   ·rename_i Y3
    refine ⟨k2, h2, rfl, rfl, rfl, fun e => ⟨e, Y3⟩, .inr rfl, fun e => ⟨e, rfl, fun hf => Y3 (hw.Gq b k hg hc.1 b2 k2 h2 hf e)⟩, fun hf => ?_⟩
    rcases hw.last b k hg hc.1 b2 k2 h2 hf with h5 | h5
    ·exact .inl h5
    ·exact .inr (by omega)
  | false =>
   rw [hc] at h2
   simp only [Bool.false_eq_true, if_false] at h2
   split at h2
   ·rename_i e; subst e
    simp only [Option.map_some, U0, D5, if_true] at h2
    split at h2
    ·simp only [F2.cells.injEq] at h2; subst h2
     exact ⟨k, hg, rfl, rfl, rfl, (fun e => by cases e), .inl rfl, (fun e => by cases e), fun _ => .inl rfl⟩
    ·rename_i hk
     simp only [F2.cells.injEq] at h2; subst h2
     exact ⟨k, hg, rfl, rfl, rfl, (fun e => by cases e), .inr rfl, (fun e => by cases e), fun _ => .inr (by simp only at hk ⊢; omega)⟩
   ·rename_i Y3
    simp only [Option.map_eq_some_iff] at h2
    obtain ⟨o, Od, U9⟩ := h2
    cases o with
    | map es => simp [D5] at U9
    | cells k0 =>
     simp only [D5] at U9
     split at U9
     ·split at U9
      ·simp only [F2.cells.injEq] at U9; subst U9
       exact ⟨k0, Od, rfl, rfl, rfl, fun e => ⟨e, Y3⟩, .inl rfl, (fun e => by cases e), fun _ => .inl rfl⟩
      ·rename_i hk
       simp only [F2.cells.injEq] at U9; subst U9
       exact ⟨k0, Od, rfl, rfl, rfl, fun e => ⟨e, Y3⟩, .inr rfl, (fun e => by cases e), fun _ => .inr (by simp only; omega)⟩
     ·rename_i hk
      simp only [F2.cells.injEq] at U9; subst U9
      exact ⟨k0, Od, rfl, rfl, rfl, fun e => ⟨e, Y3⟩, .inr rfl, fun e => ⟨e, rfl, hk⟩, fun hf => absurd hf hk⟩
 refine ⟨g1, back, fun b2 o h2 => ?_⟩
 rw [g1]
 have key : ∀ k2 : Es, ∃ o', D5 k.Q1 (k.E5 + (i + n)) (.cells k2) = o' /\ (o' = .cells k2 \/ ∃ k0 k', F2.cells k2 = .cells k0 /\ o' = .cells k' /\ k'.ro = k0.ro /\ k'.L3 = k0.L3 /\ k'.Q1 = k0.Q1 /\ k'.E5 = k0.E5 /\ (k'.es = k0.es \/ k'.es = [])) := by
  intro k2
  simp only [D5]
  split
  ·split
   ·exact ⟨_, rfl, .inr ⟨k2, _, rfl, rfl, rfl, rfl, rfl, rfl, .inr rfl⟩⟩
   ·exact ⟨_, rfl, .inr ⟨k2, _, rfl, rfl, rfl, rfl, rfl, rfl, .inl rfl⟩⟩
  ·exact ⟨_, rfl, .inl rfl⟩
 split
 ·rename_i e; subst e
  rw [hg] at h2; simp only [U0] at h2; subst h2
  simp only [Option.map_some]
  split
  ·exact ⟨_, rfl, .inr ⟨k, _, rfl, rfl, rfl, rfl, rfl, rfl, .inl rfl⟩⟩
  ·obtain ⟨o', CV, h5 | ⟨k0, k', e0, e1, e2, e3, e4, e5, e6⟩⟩ := key { k with Q2 := false, last := false }
   ·refine ⟨o', by rw [CV], .inr ⟨k, _, rfl, h5, rfl, rfl, rfl, rfl, .inl rfl⟩⟩
   ·simp only [F2.cells.injEq] at e0; subst e0
    exact ⟨o', by rw [CV], .inr ⟨k, k', rfl, e1, e2, e3, e4, e5, e6⟩⟩
 ·rw [h2]
  simp only [Option.map_some]
  split
  ·exact ⟨o, rfl, .inl rfl⟩
  ·cases o with
   | map es => exact ⟨_, rfl, .inl rfl⟩
   | cells k2 =>
    obtain ⟨o', CV, h5⟩ := key k2
    exact ⟨o', by rw [CV], h5⟩
theorem PD {h : A0} {w w' : World} (hR : Rel ρ h.get w) (hw : WF h.get h.next) {b i n z : Nat} {k : Es} {l : Loc} (hb : ρ b = some l) (hg : h.get b = some (.cells k)) (B2 : k.ro = false)
  (U8 : i + n <= k.es.length) (xs : List (List VV)) (h1 : A0)
  (Oh : h1 = match k.last && Nat.beq (i + n) k.es.length with
   | true => h.put b (.cells { k with Q2 := false, last := false })
   | false => (h.put b (.cells { k with Q2 := false, last := false })).kill k.Q1 (k.E5 + (i + n)))
  (l' : Loc) (fx : Rel ρ h1.get w') (Wy : (w.heap.size <= l'.mb) \/ (l'.mb = l.mb /\ l'.L3 = l.L3 /\ l'.l6 = l.l6 + i * l.L3))
  (mN : w.heap.size <= l'.mb -> ∀ b2 l2, ρ b2 = some l2 -> l2.mb ≠ l'.mb)
  (ho : Cg ρ l' (.cells { es := (k.es.drop i).take n ++ xs, L3 := z, Q1 := k.Q1, E5 := k.E5 + i, Q2 := false, last := true, ro := false }) w'.heap[l'.mb]?)
  (Fc : w.heap.size <= w'.heap.size) (hold : ∀ B, B < w.heap.size -> B ≠ l.mb -> w'.heap[B]? = w.heap[B]?) (sR : w'.os = w.os) (qZ : w'.tape = w.tape) (Oc : w'.output = w.output) :
  Step ρ h.get h.next w (ρ.add h.next l') (h1.push (.cells { es := (k.es.drop i).take n ++ xs, L3 := z, Q1 := k.Q1, E5 := k.E5 + i, Q2 := false, last := true, ro := false })).get (h.next + 1) w' := by
 have R3 := A0.E7 hg
 have T6 : h1.next = h.next := by rw [Oh]; cases (k.last && Nat.beq (i + n) k.es.length) <;> rfl
 have jr := hR.none hw (Nat.le_refl h.next)
 obtain ⟨g1, back, _⟩ := JG hw hg h1 Oh
 
 have uv : Rel (ρ.add h.next l') (h1.push (.cells { es := (k.es.drop i).take n ++ xs, L3 := z, Q1 := k.Q1, E5 := k.E5 + i, Q2 := false, last := true, ro := false })).get w' := by
  refine fx.insert (o := _) jr (by rw [A0.V0, T6, if_pos rfl]) (fun b' H3 _ => by rw [A0.V0, T6, if_neg H3]) ho ?_
  intro b2 l2 o2 h2 Oi Ek
  rcases Wy with hc | ⟨c1, c2, c3⟩
  ·exact absurd Ek (mN hc b2 l2 h2)
  ·have al : ∃ k2, o2 = .cells k2 /\ k2.Q1 = k.Q1 /\ l2.L3 = l.L3 /\ l2.l6 + k.E5 * l2.L3 = l.l6 + k2.E5 * l2.L3 := by
    by_cases Cw : b2 = b
    ·subst Cw
     rw [hb] at h2; simp only [U0] at h2; subst h2
     obtain ⟨o, Od, _⟩ := fx.obj b2 l hb
     rw [Od] at Oi; simp only [U0] at Oi; subst Oi
     cases o with
     | map es =>
      rw [g1, if_pos rfl] at Od
      simp only [Option.map_some, U0] at Od
      split at Od
      ·cases Od
      ·simp only [D5, if_true] at Od; split at Od <;> cases Od
     | cells k2 =>
      obtain ⟨k0, e0, e1, e2, _⟩ := back b2 k2 Od
      rw [hg] at e0; simp only [U0, F2.cells.injEq] at e0; subst e0
      exact ⟨k2, rfl, e1, rfl, by rw [e2]⟩
    ·obtain ⟨ob, TD, _⟩ := fx.obj b l hb
     obtain ⟨k2, k1, rfl, e1, cD⟩ := fx.apart b2 b l2 l o2 ob h2 hb Oi TD Cw (Ek.trans c1)
     subst e1
     obtain ⟨k0, e0, e1, e2, e3, _⟩ := back b k1 TD
     rw [hg] at e0; simp only [U0, F2.cells.injEq] at e0; subst e0
     rcases cD with ⟨_, h5⟩ | ⟨hf, fq, Rl⟩
     ·rw [e3, B2] at h5; cases h5
     ·exact ⟨k2, rfl, hf.trans e1, fq, by rw [e2] at Rl; exact Rl⟩
   obtain ⟨k2, rfl, hf, fq, Rl⟩ := al
   refine ⟨_, k2, rfl, rfl, .inr ⟨hf.symm, c2.trans fq.symm, ?_⟩⟩
   simp only
   rw [c2, c3, Nat.add_mul]
   rw [fq] at Rl
   omega
 have xq : WF (h1.push (.cells { es := (k.es.drop i).take n ++ xs, L3 := z, Q1 := k.Q1, E5 := k.E5 + i, Q2 := false, last := true, ro := false })).get (h.next + 1) := by
  refine ⟨fun b2 o2 h2 => ?_, fun b2 k2 h2 => ?_, fun b2 k2 h2 hs b3 k3 h3 Y3 => ?_, fun b2 k2 h2 hl b3 k3 h3 hf => ?_, fun b2 k2 h2 hl b3 k3 h3 hf qz => ?_⟩
  ·have := A0.E7 h2
   simpa [T6] using this
  ·rw [A0.V0, T6] at h2
   split at h2
   ·simp only [U0, F2.cells.injEq] at h2; subst h2
    have := hw.Q1 b k hg
    simp only; omega
   ·obtain ⟨k0, e0, e1, _⟩ := back b2 k2 h2
    have := hw.Q1 b2 k0 e0
    omega
  ·rw [A0.V0, T6] at h2 h3
   split at h2
   ·simp only [U0, F2.cells.injEq] at h2; subst h2; cases hs
   ·obtain ⟨k0, e0, e1, _, _, e4, _⟩ := back b2 k2 h2
    obtain ⟨OZ, qu⟩ := e4 hs
    split at h3
    ·simp only [U0, F2.cells.injEq] at h3; subst h3
     simp only [e1]
     exact hw.Q2 b2 k0 e0 OZ b k hg (Ne.symm qu)
    ·obtain ⟨k1, f0, f1, _⟩ := back b3 k3 h3
     rw [e1, f1]
     exact hw.Q2 b2 k0 e0 OZ b3 k1 f0 Y3
  ·rw [A0.V0, T6] at h2 h3
   split at h2
   ·simp only [U0, F2.cells.injEq] at h2; subst h2
    split at h3
    ·simp only [U0, F2.cells.injEq] at h3; subst h3
     exact .inr (Nat.le_refl _)
    ·obtain ⟨k1, _, _, _, _, _, _, _, f7⟩ := back b3 k3 h3
     rcases f7 hf with h5 | h5
     ·exact .inl h5
     ·refine .inr ?_
      simp only [List.length_append, List.length_take, List.length_drop]
      omega
   ·obtain ⟨k0, e0, e1, e2, _, _, _, e6, _⟩ := back b2 k2 h2
    obtain ⟨PN, P8, TE⟩ := e6 hl
    split at h3
    ·rename_i e
     simp only [U0, F2.cells.injEq] at h3; subst h3
     exact absurd hf.symm TE
    ·obtain ⟨k1, f0, f1, f2, _, _, f5, _⟩ := back b3 k3 h3
     rcases hw.last b2 k0 e0 PN b3 k1 f0 (by rw [<- e1, <- f1]; exact hf) with h5 | h5
     ·rcases f5 with f5 | f5
      ·exact .inl f5
      ·exact .inl (by rw [f5]; exact h5)
     ·rcases f5 with f5 | f5
      ·exact .inl f5
      ·exact .inr (by rw [f5, P8, e2, f2]; exact h5)
  ·rw [A0.V0, T6] at h2 h3
   split at h2
   ·rename_i e2
    split at h3
    ·rename_i e3; exact e3.trans e2.symm
    ·simp only [U0, F2.cells.injEq] at h2; subst h2
     obtain ⟨k1, _, _, _, _, _, _, f6, _⟩ := back b3 k3 h3
     exact absurd hf (f6 qz).2.2
   ·obtain ⟨k0, e0, e1, _, _, _, _, e6, _⟩ := back b2 k2 h2
    split at h3
    ·simp only [U0, F2.cells.injEq] at h3; subst h3
     exact absurd hf.symm (e6 hl).2.2
    ·obtain ⟨k1, f0, f1, _, _, _, _, f6, _⟩ := back b3 k3 h3
     exact hw.Gq b2 k0 e0 (e6 hl).1 b3 k1 f0 (by rw [<- e1, <- f1]; exact hf) (f6 qz).1
 have uX : ∀ b2 k2, h.get b2 = some (.cells k2) -> ∃ k3, h1.get b2 = some (.cells k3) /\ k3.ro = k2.ro := by
  intro b2 k2 h2
  rw [g1]
  split
  ·rename_i e; subst e
   rw [hg] at h2; simp only [U0, F2.cells.injEq] at h2; subst h2
   simp only [Option.map_some]
   split
   ·exact ⟨_, rfl, rfl⟩
   ·simp only [D5, if_true]
    split
    ·exact ⟨_, rfl, rfl⟩
    ·exact ⟨_, rfl, rfl⟩
  ·rw [h2]
   simp only [Option.map_some]
   split
   ·exact ⟨_, rfl, rfl⟩
   ·simp only [D5]
    split
    ·split
     ·exact ⟨_, rfl, rfl⟩
     ·exact ⟨_, rfl, rfl⟩
    ·exact ⟨_, rfl, rfl⟩
 refine ⟨hR, uv, xq, Ren.NO jr, Nat.le_succ _, sR, qZ, Oc, Fc, fun B hB X7 => ?_, fun b2 l2 h2 => ?_, fun b2 k2 h2 => ?_, fun b2 es h2 => ?_⟩
 ·refine hold B hB fun e => ?_
  obtain ⟨k1, El, UC⟩ := X7 b l hb e.symm
  rw [hg] at El; simp only [U0, F2.cells.injEq] at El; subst El
  rw [B2] at UC; cases UC
 ·unfold Ren.add at h2
  split at h2
  ·rename_i e; subst e
   simp only [U0] at h2; subst h2
   rcases Wy with hc | ⟨c1, _, _⟩
   ·exact .inr ⟨Nat.le_refl _, .inl hc⟩
   ·exact .inr ⟨Nat.le_refl _, .inr ⟨b, l, k, hb, c1.symm, hg, B2⟩⟩
  ·exact .inl h2
 ·obtain ⟨k3, h3, e3⟩ := uX b2 k2 h2
  refine ⟨k3, ?_, e3⟩
  rw [A0.V0, T6, if_neg (by have := A0.E7 h2; omega)]
  exact h3
 ·refine ⟨es, ?_⟩
  rw [A0.V0, T6, if_neg (by have := A0.E7 h2; omega), g1, if_neg (fun e => by subst e; rw [hg] at h2; cases h2), h2]
  simp only [Option.map_some]
  split <;> rfl
end
end Go.Proofs.Ythlbahcggmbfaaa.V
namespace Go.Proofs.Ythlbahcggmbfaaa.V
open Go.RowKit
section
variable {P : Program} {ρ : Ren} {w : World}
theorem KH {g : Nat -> Option F2} (hR : Rel ρ g w) : Rel ρ g w.drew := ⟨hR.obj, hR.apart⟩
theorem SE {h : A0} {w' : World} (hR : Rel ρ h.get w) (hw : WF h.get h.next) (es : List (List VV)) (z : Nat) (c : Array Value) (t : TypeId) (hN : OJ w w' (.cells c t (0, 0)))
  (h0 : 0 < z) (U8 : es.length * z <= c.size)
  (hc : ∀ (i : Nat) cs, es[i]? = some cs -> cs.length = z /\ cs.all H2 = true /\ ∀ (j : Nat) v, cs[j]? = some v -> ∃ mv, c[i * z + j]? = some mv /\ Y0 ρ v mv) :
  Step ρ h.get h.next w (ρ.add h.next ⟨w.heap.size, 0, z, c.size, false⟩) (fresh h es z).get (fresh h es z).next w' :=
 SF hR hw _ _ hN ⟨w.heap.size, 0, z, c.size, false⟩ rfl
  (.cells _ c t (0, 0) (fun _ => rfl) rfl rfl h0 (by simpa using U8) (fun _ x _ => by simp) (fun i cs Q3 => by
   obtain ⟨a, b, d⟩ := hc i cs Q3
   exact ⟨a, b, fun j v hv => by simpa using d j v hv⟩)) (fun k hk => by cases hk; rfl)
theorem Ip {h h' : A0} {t u el ty : TypeId} {d : TypeDesc} {s x v : VV} {ms mx : Value} {xs : List (List VV)} (K0 : C5 P t s xs h = some (v, h')) (he : U5 (P.cellsOf el) h x = some xs)
  (ht : P.underlying t = some (.slice el)) (hu : P.underlying u = some d) (hd : (∃ e', d = .slice e') \/ d = .string) (hs : Y0 ρ s ms) (hx : Y0 ρ x mx) (hR : Rel ρ h.get w) (hw : WF h.get h.next) :
  ∃ mv ρ' w', (Builtin.append_ #[t, u] ty #[ms, mx]).run P w = .ok mv w' /\ Step ρ h.get h.next w ρ' h'.get h'.next w' /\ Y0 ρ' v mv := by
 obtain ⟨hlen, Dr, news, Wr, NX, _⟩ := DV (P := P) he hx hR (fun _ _ _ h => h)
 obtain ⟨_, _, Sm, VZ, Wu, _⟩ := DV (P := P) he hx (KH hR) (fun _ _ _ h => h)
 unfold C5 at K0
 rw [ht] at K0
 simp only at K0
 cases hz : D6 P el with
 | none => rw [hz] at K0; cases K0
 | some zz =>
 rw [hz] at K0
 simp only at K0
 obtain ⟨inf, zv, hi, DN, Re, bq, Wm⟩ := V7 (ρ := ρ) hz
 have VU : zv.cells.size = P.cellsOf el := by
  have := (Re.cells (BT bq)).1
  simp at this; omega
 split at K0
 ·cases K0
 rename_i h0
 have js : news.length = xs.length * P.cellsOf el := by rw [<- Wr.1, Q8 _ xs (fun cs Q3 => (Dr cs Q3).1)]
 have qt : Sm.length = xs.length * P.cellsOf el := by rw [<- VZ.1, Q8 _ xs (fun cs Q3 => (Dr cs Q3).1)]
 have rY : xs.length = 0 -> xs = [] := List.eq_nil_of_length_eq_zero
 split at K0
 · 
  cases hs
  split at K0
  ·rename_i hm
   simp only [U0, Prod.mk.injEq] at K0
   obtain ⟨rfl, rfl⟩ := K0
   have jg := rY hm
   subst jg
   have Y3 : news = [] := by simpa using js
   subst Y3
   exact ⟨_, ρ, w, Eg ht hu hd hi hlen (Nat.le_refl _) NX rfl, Step.refl hR hw, .nilslice⟩
  ·rename_i hm
   have Qr : xs.length ≠ 0 := hm
   split at K0
   ·rename_i hb
    simp only [U0, Prod.mk.injEq] at K0
    obtain ⟨rfl, rfl⟩ := K0
    have j4 := DY (w := w) (ty := ty) (base := none) (sLen := 0) (sCap := 0) (old := #[]) ht hu hd hi DN hlen (by omega) (by simpa using hb.1) (by simpa using hb.2) (by simp [Builtin.firstCells]) Wu
    rw [Nat.zero_add] at j4
    have og := grownCap_ge w xs.length 0 el
    have hle := grownCap_le_maxLen w xs.length 0 el (by have := hb.2; unfold R2 at this; unfold maxLen; omega)
    have EO : (#[] ++ Sm.toArray ++ Builtin.zeroCells zv.cells (grownCap w xs.length 0 el - xs.length)).size = grownCap w xs.length 0 el * P.cellsOf el := by
     simp only [Array.empty_append, Array.size_append, List.size_toArray, qt, size_zeroCells, VU, <- Nat.add_mul]
     congr 1; omega
    have E3 := SE (w' := w.drew.alloc (.cells (#[] ++ Sm.toArray ++ Builtin.zeroCells zv.cells (grownCap w xs.length 0 el - xs.length)) el)) hR hw xs (P.cellsOf el) _ el
     ⟨by simp, by rw [show w.heap.size = w.drew.heap.size from rfl, heap_alloc_new], fun k hk => Below.heap_alloc w.drew _ k hk, rfl, rfl, rfl⟩ (by omega) (by rw [EO]; exact Nat.mul_le_mul_right _ og)
     (by
      have := Kd (ρ := ρ) (xs := []) (ys := xs) (z := P.cellsOf el) (old := #[]) (new := Sm.toArray) (rest := Builtin.zeroCells zv.cells (grownCap w xs.length 0 el - xs.length)) (by simp) Dr (P2.nil ρ) (by simpa using VZ)
      simpa using this)
    refine ⟨_, _, _, j4, E3, ?_⟩
    refine Y0.slice h.next 0 xs.length none _ ⟨w.heap.size, 0, P.cellsOf el, (#[] ++ Sm.toArray ++ Builtin.zeroCells zv.cells (grownCap w xs.length 0 el - xs.length)).size, false⟩ _ _ (by simp [Ren.add]) rfl og hle (fun k hk => by cases hk) (fun _ _ => ?_) (.inl (by simp [addrAt]))
    simp only [Nat.zero_add]
    exact EO.symm
   ·cases K0
 · 
  rename_i b i n c z'
  cases hs with
  | slice _ _ _ _ _ l a o5 hb NU hn hm hc ho ha =>
  split at K0
  ·rename_i bw
   split at K0
   ·rename_i w6
    subst w6
    simp only [U0, Prod.mk.injEq] at K0
    obtain ⟨rfl, rfl⟩ := K0
    have jg := rY bw
    subst jg
    have Y3 : news = [] := by simpa using js
    subst Y3
    exact ⟨_, ρ, w, Eg ht hu hd hi hlen hn NX rfl, Step.refl hR hw, .slice b i n c _ l a o5 hb NU hn hm hc ho ha⟩
   ·cases K0
  ·rename_i bw
   have Qr : xs.length ≠ 0 := bw
   split at K0
   ·rename_i k hg
    split at K0
    ·cases K0
    rename_i Z6
    simp only [not_or, Decidable.not_not, Nat.not_lt] at Z6
    obtain ⟨w6, xU, U8⟩ := Z6
    subst w6
    obtain ⟨o, Fg, B2⟩ := hR.obj b l hb
    rw [hg] at Fg; simp only [U0] at Fg; subst Fg
    have Qp := B2
    generalize TH : w.heap[l.mb]? = mo at Qp
    cases Qp with
    | cells k mc mt fr Gi OZ sW wA hkin Ib rQ =>
    have iu : ∀ q, a = addrAt l i 0 -> a.add (q * P.cellsOf el) = addrAt l (i + q) 0 := fun q e => by rw [e, <- NU, Hl]
    
    have iQ : n + xs.length <= o5 -> k.ro = false -> i + n + xs.length <= k.es.length -> (n + xs.length <= o5 -> a = addrAt l i 0) -> (∀ q, c = some q -> n + xs.length <= q) ->
      ∃ mv ρ' w', (Builtin.append_ #[t, u] ty #[.slice (some a) n o5, mx]).run P w = .ok mv w' /\
       Step ρ h.get h.next w ρ' ((match k.Q2 with | true => h | false => h.kill k.Q1 (k.E5 + (i + n))).put b (.cells { k with es := k.es.take (i + n) ++ xs ++ k.es.drop (i + n + xs.length) })).get
        ((match k.Q2 with | true => h | false => h.kill k.Q1 (k.E5 + (i + n))).put b (.cells { k with es := k.es.take (i + n) ++ xs ++ k.es.drop (i + n + xs.length) })).next w' /\ Y0 ρ' (.slice b i (n + xs.length) c (P.cellsOf el)) mv := by
     intro LB NV N8 rS hcq
     have Vi := rS LB
     obtain ⟨w', J6, E3⟩ := KC (P := P) hR hw hb hg NV (i + n) xs N8 (fun cs Q3 => ⟨(Dr cs Q3).1.trans xU.symm, (Dr cs Q3).2⟩) news Wr
     refine ⟨_, ρ, w', run_append_fits ht hu hd hi hlen LB NX (by rw [iu n Vi]; simpa using J6), E3, ?_⟩
     exact .slice b i _ c _ l a o5 hb NU LB hm hc ho (.inl Vi)
    
    have YW : ((k.es.drop i).take n).length = n := by simp; omega
    have grow : o5 < n + xs.length -> (n + xs.length) * P.bytesOf el <= R2 -> n + xs.length <= R2 ->
      ∃ PJ C, (Builtin.append_ #[t, u] ty #[.slice (some a) n o5, mx]).run P w = .ok (.slice (some ⟨w.heap.size, 0, none⟩) (n + xs.length) PJ) (w.drew.alloc (.cells C el)) /\ n + xs.length <= PJ /\ PJ <= maxLen /\ C.size = PJ * P.cellsOf el /\
       ∀ (j : Nat) cs, ((k.es.drop i).take n ++ xs)[j]? = some cs -> cs.length = P.cellsOf el /\ cs.all H2 = true /\ ∀ (q : Nat) v, cs[q]? = some v -> ∃ mv, C[j * P.cellsOf el + q]? = some mv /\ Y0 ρ v mv := by
     intro uT Rk Er
     have Ka : U5 (P.cellsOf el) h (.slice b i n c (P.cellsOf el)) = some ((k.es.drop i).take n) := by
      simp only [U5, hg, true_and]
      rw [if_pos U8]
     obtain ⟨_, holds, qI, Wq, PL, _⟩ := DV (P := P) Ka (.slice b i n c _ l a o5 hb NU hn hm hc ho ha) (KH hR) (fun _ _ _ h => h)
     rw [YW] at PL
     have cJ : qI.length = n * P.cellsOf el := by rw [<- Wq.1, Q8 _ _ (fun cs Q3 => (holds cs Q3).1), YW]
     have j4 := DY (w := w) (ty := ty) (base := some a) (sLen := n) (sCap := o5) (old := qI.toArray) ht hu hd hi DN hlen uT Rk Er PL Wu
     refine ⟨_, _, j4, grownCap_ge w _ _ el, grownCap_le_maxLen w _ _ el (by unfold R2 at Er; unfold maxLen; omega), ?_, Kd holds Dr (by simpa using Wq) (by simpa using VZ)⟩
     have og := grownCap_ge w (n + xs.length) o5 el
     simp only [Array.size_append, List.size_toArray, cJ, qt, size_zeroCells, VU, <- Nat.add_mul]
     congr 1; omega
    have Wd : c = none -> k.ro = false -> l.l6 + (i + o5) * l.L3 = l.iI := fun e1 e2 => ho e1 (Gi e2)
    split at K0
    · 
     rename_i N8
     split at K0
     ·cases K0
     rename_i DH
     simp only [not_or, Nat.not_lt, Bool.not_eq_true] at DH
     simp only [U0, Prod.mk.injEq] at K0
     obtain ⟨rfl, rfl⟩ := K0
     have LB : n + xs.length <= o5 := by
      cases c with
      | some q => have := Nat.le_of_ble_eq_true N8; rw [hc q rfl]; exact this
      | none =>
       have h1 := Nat.le_of_ble_eq_true N8
       have h2 := Wd rfl DH.1
       have h3 : (i + n + xs.length) * l.L3 <= k.es.length * l.L3 := Nat.mul_le_mul_right _ h1
       have h4 : (i + n + xs.length) * l.L3 <= (i + o5) * l.L3 := by omega
       have := Nat.le_of_mul_le_mul_right h4 wA
       omega
     refine iQ LB DH.1 DH.2 (fun _ => ?_) (fun q e => by subst e; exact Nat.le_of_ble_eq_true N8)
     rcases ha with ha | ⟨e1, e2, _⟩
     ·exact ha
     ·omega
    ·rename_i N8
     split at K0
     ·cases K0
     rename_i DH
     simp only [not_or, Nat.not_lt] at DH
     cases c with
     | some q =>
      simp only [U0, Prod.mk.injEq] at K0
      obtain ⟨rfl, rfl⟩ := K0
      have uT : o5 < n + xs.length := by
       rw [hc q rfl]
       rcases Nat.lt_or_ge q (n + xs.length) with h5 | h5
       ·exact h5
       ·simp only [Nat.ble_eq_true_of_le h5] at N8; cases N8
      obtain ⟨PJ, C, j4, k1, k2, k3, k4⟩ := grow uT DH.1 DH.2
      have E3 := SE (w' := w.drew.alloc (.cells C el)) hR hw ((k.es.drop i).take n ++ xs) (P.cellsOf el) C el
       ⟨by simp, by rw [show w.heap.size = w.drew.heap.size from rfl, heap_alloc_new], fun k hk => Below.heap_alloc w.drew _ k hk, rfl, rfl, rfl⟩ (by omega)
       (by rw [k3, List.length_append, YW]; exact Nat.mul_le_mul_right _ k1) k4
      refine ⟨_, _, _, j4, E3, ?_⟩
      refine Y0.slice h.next 0 (n + xs.length) none _ ⟨w.heap.size, 0, P.cellsOf el, C.size, false⟩ _ _ (by simp [Ren.add]) rfl k1 k2 (fun k hk => by cases hk) (fun _ _ => ?_) (.inl (by simp [addrAt]))
      simp only [Nat.zero_add]
      exact k3.symm
     | none =>
      simp only at K0
      split at K0
      ·cases K0
      rename_i NV
      have NV : k.ro = false := by simpa using NV
      simp only [U0, Prod.mk.injEq] at K0
      obtain ⟨rfl, kA⟩ := K0
      obtain ⟨h1, Oh⟩ : ∃ h1 : A0, (match k.last && Nat.beq (i + n) k.es.length with
       | true => h.put b (.cells { k with Q2 := false, last := false })
       | false => (h.put b (.cells { k with Q2 := false, last := false })).kill k.Q1 (k.E5 + (i + n))) = h1 := ⟨_, rfl⟩
      have sZ : h' = h1.push (.cells { es := (k.es.drop i).take n ++ xs, L3 := P.cellsOf el, Q1 := k.Q1, E5 := k.E5 + i, Q2 := false, last := true, ro := false }) := by
       rw [<- Oh, <- kA]
       all_goals (cases (k.last && Nat.beq (i + n) k.es.length) <;> rfl)
      subst sZ
      clear kA
      obtain ⟨g1, back, soft⟩ := JG hw hg h1 Oh.symm
      have T6 : h1.next = h.next := by rw [<- Oh]; cases (k.last && Nat.beq (i + n) k.es.length) <;> rfl
      have fx := hR.soft soft
      have mF := Gi NV
      have cI := Wd rfl NV
      by_cases LB : n + xs.length <= o5
      ·have Vi : a = addrAt l i 0 := by
        rcases ha with ha | ⟨e1, e2, _⟩
        ·exact ha
        ·omega
       have hmul : (i + (n + xs.length)) * l.L3 <= (i + o5) * l.L3 := Nat.mul_le_mul_right _ (by omega)
       have hmul2 : (i + n) * l.L3 + xs.length * l.L3 = (i + (n + xs.length)) * l.L3 := by rw [<- Nat.add_mul]; congr 1; omega
       have uB : news.length = xs.length * l.L3 := by rw [js, NU]
       obtain ⟨w', c', J6, T9, hh, EO, LA, Yp, Of⟩ := n9 P l.mb (l.l6 + (i + n) * l.L3) mt fr news 0 mc w TH (by rw [uB, OZ]; omega) (by rw [OZ]; exact Ib NV) (Wr.one (Kh fun cs Q3 => (Dr cs Q3).2))
       simp only [Nat.add_zero] at LA Yp Of
       obtain ⟨ob, TD, _⟩ := fx.obj b l hb
       obtain ⟨k1, El⟩ : ∃ k1, ob = .cells k1 := by
        obtain ⟨o', CV, h5 | ⟨_, k', _, e1, _⟩⟩ := soft b _ hg
        ·rw [TD] at CV; simp only [U0] at CV; exact ⟨k, CV.trans h5⟩
        ·rw [TD] at CV; simp only [U0] at CV; exact ⟨k', CV.trans e1⟩
       subst El
       obtain ⟨k0, e0, e1, e2, e3, _⟩ := back b k1 TD
       rw [hg] at e0; simp only [U0, F2.cells.injEq] at e0; subst e0
       have uu : Rel ρ h1.get w' := fx.beyond hb TD (e3.trans NV) (i + n) (fun b2 k2 h2 hf => by
        obtain ⟨_, _, _, _, _, _, _, _, f7⟩ := back b2 k2 h2
        rw [e2]
        exact f7 (hf.trans e1)) TH EO LA hh T9
       have E3 := PD (z := P.cellsOf el) hR hw hb hg NV U8 xs h1 Oh.symm ⟨l.mb, l.l6 + i * l.L3, l.L3, l.iI, l.ro⟩ uu (.inr ⟨rfl, rfl, rfl⟩)
        (fun hc => by have := hR.lt hb; simp only at hc; omega)
        (by
         rw [hh]
         refine .cells _ c' mt fr (fun _ => mF) (EO.trans OZ) NU.symm wA ?_ (fun _ => Ib NV) ?_
         ·simp only [List.length_append, YW]
          rw [Nat.add_mul] at hmul
          omega
         ·intro j cs Q3
          by_cases hj : j < n
          ·rw [List.getElem?_append_left (by omega), List.getElem?_take, if_pos hj, List.getElem?_drop] at Q3
           obtain ⟨a1, a2, a3⟩ := rQ _ cs Q3
           refine ⟨a1, a2, fun q u hq => ?_⟩
           obtain ⟨mv, q1, q2⟩ := a3 q u hq
           refine ⟨mv, ?_, q2⟩
           have fj : q < l.L3 := by rw [<- a1]; exact (List.getElem?_eq_some_iff.1 hq).1
           have jz : (i + j + 1) * l.L3 <= (i + n) * l.L3 := Nat.mul_le_mul_right _ (by omega)
           simp only [Nat.add_mul, Nat.one_mul] at jz q1 ⊢
           rw [LA _ (by rw [Nat.add_mul]; omega), <- q1]
           congr 1
           omega
          ·rw [List.getElem?_append_right (by omega), YW] at Q3
           obtain ⟨a1, a2⟩ := Dr cs (List.mem_of_getElem? Q3)
           refine ⟨a1.trans NU.symm, a2, fun q u hq => ?_⟩
           have Qw := Cz (P.cellsOf el) xs (j - n) q cs u (fun cs Q3 => (Dr cs Q3).1) Q3 hq
           obtain ⟨mv, q1, q2⟩ := Wr.at Qw
           refine ⟨mv, ?_, q2⟩
           rw [<- Of _ mv q1]
           congr 1
           have jz : (i + j) * l.L3 = (i + n) * l.L3 + (j - n) * l.L3 := by rw [<- Nat.add_mul]; congr 1; omega
           rw [Nat.add_mul] at jz
           simp only
           rw [<- NU]
           omega)
        (by rw [T9.size]; exact Nat.le_refl _) (fun B _ Y3 => T9.other B Y3) T9.os T9.tape T9.output
       refine ⟨_, _, w', run_append_fits ht hu hd hi hlen LB NX (by rw [iu n Vi]; simpa [addrAt] using J6), by simpa [T6] using E3, ?_⟩
       refine Y0.slice h.next 0 (n + xs.length) none _ ⟨l.mb, l.l6 + i * l.L3, l.L3, l.iI, l.ro⟩ _ _ (by simp [Ren.add]) NU LB hm (fun k hk => by cases hk) (fun _ _ => ?_) (.inl ?_)
       ·simp only [Nat.zero_add]
        rw [Nat.add_mul] at cI
        omega
       ·rw [Vi]; simp [addrAt]
      ·obtain ⟨PJ, C, j4, k1, k2, k3, k4⟩ := grow (by omega) DH.1 DH.2
       have uu : Rel ρ h1.get (w.drew.alloc (.cells C el)) := fx.world fun k hk => Below.heap_alloc w.drew _ k hk
       have E3 := PD (z := P.cellsOf el) hR hw hb hg NV U8 xs h1 Oh.symm ⟨w.heap.size, 0, P.cellsOf el, C.size, false⟩ uu (.inl (Nat.le_refl _))
        (fun _ b2 l2 h2 e => by have := hR.lt h2; simp only at e; omega)
        (by
         rw [show w.heap.size = w.drew.heap.size from rfl, heap_alloc_new]
         refine .cells _ C el (0, 0) (fun _ => rfl) rfl rfl (by simp only; omega) ?_ (fun _ x _ => by simp) ?_
         ·simp only [List.length_append, YW, Nat.zero_add, k3]
          exact Nat.mul_le_mul_right _ k1
         ·intro j cs Q3
          obtain ⟨a1, a2, a3⟩ := k4 j cs Q3
          exact ⟨a1, a2, fun q u hq => by simpa using a3 q u hq⟩)
        (by simp) (fun B hB _ => Below.heap_alloc w.drew _ B hB) rfl rfl rfl
       refine ⟨_, _, _, j4, by simpa [T6] using E3, ?_⟩
       refine Y0.slice h.next 0 (n + xs.length) none _ ⟨w.heap.size, 0, P.cellsOf el, C.size, false⟩ _ _ (by simp [Ren.add]) rfl k1 k2 (fun k hk => by cases hk) (fun _ _ => ?_) (.inl (by simp [addrAt]))
       simp only [Nat.zero_add]
       exact k3.symm
   ·cases K0
 ·cases K0
end
end Go.Proofs.Ythlbahcggmbfaaa.V
