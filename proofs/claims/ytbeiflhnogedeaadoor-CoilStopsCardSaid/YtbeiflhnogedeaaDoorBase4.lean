import Derived.Test.YtbeiflhnogedeaaDoorBase3
import Derived.KernelRfl
import Derived.Lib.Bytealg
import Derived.Lib.IndexLaws
import Derived.Laws.AppendOwn
import Derived.Maps.Own
import Derived.Sort.KeysCollected
import Derived.Sort.Walk0
import Derived.Lib.SlKeysI
import Derived.Sort.Row
import Derived.Test.YtbeiflhnogedeaaDoorChecked
import Derived.WalkKit
import Derived.LaidEql
import Derived.Stop.Asserts
import Derived.RowKitTokens
import Derived.Below
set_option linter.unusedVariables false
set_option linter.unusedSimpArgs false

/- U: its run: functions and pieces that are told, all others run. -/
namespace Go.Proofs.YtbeiflhnogedeaaDoor.V

/-- A function that is run: none that has a contract. -/
def ufn (P : Program) (g : FuncId) : Option Func := match seatX g with
  | none => P.funcs[g]?
  | some _ => none

theorem ufn_some {P : Program} {g : FuncId} {fn : Func} (h : ufn P g = some fn) : seatX g = none ∧ P.funcs[g]? = some fn := by
  unfold ufn at h
  split at h
  · rename_i hx; exact ⟨hx, h⟩
  · cases h

mutual
def UV.refs : UV → List Nat
  | .ptr o _ => [o]
  | .eptr o _ _ => [o]
  | .aptr _ o _ _ _ _ => [o]
  | .own o => [o]
  | .map o => [o]
  | .iface _ v => UV.refs v
  | .agg cs => UV.refsL cs
  | .tuple cs => UV.refsL cs
  | _ => []
def UV.refsL : List UV → List Nat
  | [] => []
  | v :: vs => UV.refs v ++ UV.refsL vs
end

def UO.refs : UO → List Nat
  | .obj cs => UV.refsL cs
  | _ => []

def hasN : List Nat → Nat → Bool
  | [], _ => false
  | a :: l, o => Nat.beq a o || hasN l o

def nodupN : List Nat → Bool
  | [] => true
  | a :: l => !hasN l a && nodupN l

/-- What can be come to. -/
def reach (s : USt) : Nat → List Nat → List Nat → List Nat
  | 0, _, acc => acc
  | _ + 1, [], acc => acc
  | k + 1, o :: todo, acc => match hasN acc o with
    | true => reach s k todo acc
    | false => reach s k (todo ++ (s.get o).refs) (acc ++ [o])

def idx : List Nat → Nat → Option Nat
  | [], _ => none
  | a :: l, o => match Nat.beq a o with
    | true => some 0
    | false => (idx l o).map Nat.succ

mutual
def UV.pick (ids : List Nat) : UV → UV
  | .ptr o f => match idx ids o with | some j => .ptr j f | none => .undef
  | .eptr o i f => match idx ids o with | some j => .eptr j i f | none => .undef
  | .aptr fts o g n j f => match idx ids o with | some p => .aptr fts p g n j f | none => .undef
  | .own o => match idx ids o with | some j => .own j | none => .undef
  | .map o => match idx ids o with | some j => .map j | none => .undef
  | .iface t v => .iface t (UV.pick ids v)
  | .agg cs => .agg (UV.picks ids cs)
  | .tuple cs => .tuple (UV.picks ids cs)
  | v => v
def UV.picks (ids : List Nat) : List UV → List UV
  | [] => []
  | v :: vs => UV.pick ids v :: UV.picks ids vs
end

def UO.pick (ids : List Nat) : UO → UO
  | .obj cs => .obj (UV.picks ids cs)
  | u => u

def USt.pick (s : USt) (ids : List Nat) : List Nat → USt
  | [] => []
  | o :: l => (s.get o).pick ids :: USt.pick s ids l

mutual
def UV.ren (f : Nat → Nat) : UV → UV
  | .ptr o g => .ptr (f o) g
  | .eptr o i g => .eptr (f o) i g
  | .aptr fts o g n j q => .aptr fts (f o) g n j q
  | .own o => .own (f o)
  | .map o => .map (f o)
  | .iface t v => .iface t (UV.ren f v)
  | .agg cs => .agg (UV.rens f cs)
  | .tuple cs => .tuple (UV.rens f cs)
  | v => v
def UV.rens (f : Nat → Nat) : List UV → List UV
  | [] => []
  | v :: vs => UV.ren f v :: UV.rens f vs
end

def UO.ren (f : Nat → Nat) : UO → UO
  | .obj cs => .obj (UV.rens f cs)
  | u => u

def nth : List Nat → Nat → Nat
  | [], _ => 0
  | a :: _, 0 => a
  | _ :: l, n + 1 => nth l n

def lenN : List Nat → Nat
  | [] => 0
  | _ :: l => Nat.succ (lenN l)

/-- Back from a small store into the one that it is of. -/
def backTo (ids : List Nat) (n : Nat) (j : Nat) : Nat := match Nat.ble (lenN ids) j with
  | true => n + (j - lenN ids)
  | false => nth ids j

def USt.pushAll (s : USt) (f : Nat → Nat) : USt → USt
  | [] => s
  | u :: us => USt.pushAll (s.push (u.ren f)) f us

def writeBack (f : Nat → Nat) : USt → List Nat → USt → Option USt
  | s, [], rest => some (s.pushAll f rest)
  | _, _ :: _, [] => none
  | s, o :: ids, u :: us => writeBack f (s.upd o (u.ren f)) ids us

mutual
def UV.scal : UV → Bool
  | .bool _ | .int _ _ | .str _ | .nilptr | .nilslice | .nilmap | .nilfunc | .niliface => true
  | .agg cs => UV.scals cs
  | .tuple cs => UV.scals cs
  | .iface _ v => UV.scal v
  | _ => false
def UV.scals : List UV → Bool
  | [] => true
  | v :: vs => UV.scal v && UV.scals vs
end

/-- A row that is lent is data. -/
def lend1 (s : USt) : UV → UV
  | .own o => match rowOf (s.get o) with
    | some (fts, es) => .fz fts es false
    | none => .undef
  | v => v

def lend (s : USt) : UV → UV
  | .agg cs => .agg (cs.map (lend1 s))
  | v => lend1 s v

/-- The piece of code at a place: 1 is the whole; left 2p, right 2p+1. -/
def codeSub : Code → Bool → Option Code
  | .seq a b, right => some (match right with | true => b | false => a)
  | .cond _ a b, right => some (match right with | true => b | false => a)
  | .block _ c, false => some c
  | .loop c, false => some c
  | _, _ => none

def codeWay : Nat → Nat → List Bool → List Bool
  | 0, _, acc => acc
  | k + 1, p, acc => match Nat.ble p 1 with
    | true => acc
    | false => codeWay k (p / 2) (Nat.beq (p % 2) 1 :: acc)

def codeGo : Code → List Bool → Option Code
  | c, [] => some c
  | c, b :: l => match codeSub c b with
    | some d => codeGo d l
    | none => none

def codeAt (c : Code) (p : Nat) : Option Code := codeGo c (codeWay p p [])

abbrev ToldF := (R : Type) → List UV → USt → (UV → USt → Option R) → Option R
abbrev ToldP := (R : Type) → UEnv → USt → (VExit → UEnv → USt → Option R) → Option R

/-- What is told: functions; pieces of the function that runs. -/
structure Known where
  F : FuncId → Option (Bool × ToldF)
  Pc : Nat → Option ToldP

def Known.bare (T : Known) : Known := ⟨T.F, fun _ => none⟩

section
variable (P : Program) {R : Type}

def allLt : List Nat → Nat → Bool
  | [], _ => true
  | a :: l, n => Nat.ble (a + 1) n && allLt l n

def isNilN : List Nat → Bool
  | [] => true
  | _ => false

def toldIds (own : Bool) (args : List UV) (s : USt) : List Nat :=
  match own with
  | true => reach s 200 (UV.refsL args) []
  | false => reach s 200 (UV.refsL (args.map (lend s))) []

def toldArgs (own : Bool) (args : List UV) (s : USt) : List UV :=
  match own with
  | true => args
  | false => args.map (lend s)

def toldCells (own : Bool) (args : List UV) : List UV :=
  match own with
  | true => []
  | false => (args.map ucells).flatten

/-- A call of a function that is told: it sees what it can come to. -/
def utold (own : Bool) (told : ToldF) (args : List UV) (s : USt) (K : UV → USt → Option R) : Option R :=
  let ids := toldIds own args s
  let s1 := freeze s (toldCells own args)
  match nodupN ids && allLt ids s.len with
  | true => told R (UV.picks ids (toldArgs own args s)) (s1.pick ids ids) fun v st =>
      match isNilN ids && v.scal with
      | true => K v s
      | false => match writeBack (backTo ids s.len) s1 ids st with
        | some s2 => K (v.ren (backTo ids s.len)) s2
        | none => none
  | false => none

def uresult (e : UEnv) (s : USt) : ResultVar → Option UV
  | .tmp t => some (e.get t)
  | .cell a t => uload P t s (e.get a)

def uresultsL (e : UEnv) (s : USt) : List ResultVar → Option (List UV)
  | [] => some []
  | r :: rs => match uresult P e s r, uresultsL e s rs with
    | some v, some vs => some (v :: vs)
    | _, _ => none

def uresults (fn : Func) (e : UEnv) (s : USt) : Option UV :=
  match uresultsL P e s fn.results.toList with
  | some [v] => some v
  | some vs => some (.tuple vs)
  | none => none

def leList : List UV → Nat → Bool
  | [], _ => true
  | _ :: _, 0 => false
  | _ :: l, n + 1 => leList l n

def uskip : UV := .tuple []

/-- A method of an interface that is data: by its types. -/
def uinvoke (call : FuncId → List UV → USt → (UV → USt → Option R) → Option R) (name : String) (args : List UV) (d : D) (s : USt) (K : UV → USt → Option R) : List Nat → List FT → Option R
  | t :: ts, ft :: fts => cond (tagIs t d) (match vmethod P t name with
    | some g => match plainFunc P g with
      | true => call g (ofD ft (payD d) :: args) s K
      | false => none
    | none => none) (uinvoke call name args d s K ts fts)
  | _, _ => none

/-- One operation, or a call. -/
def ustep (call : FuncId → List UV → USt → (UV → USt → Option R) → Option R) (o : Oper) (e : UEnv) (s : USt) (K : UV → USt → Option R) : Option R :=
  match o.op with
  | .call c => match c.callee with
    | .builtin _ => uop P o e s K
    | .value f => match uev e f with
      | .func g => match plainFunc P g with
        | true => call g (uargs e c.args) s K
        | false => none
      | _ => none
    | .invoke r name => match uev e r with
      | .iface t v => match vmethod P t name with
        | some g => match plainFunc P g with
          | true => call g (v :: uargs e c.args) s K
          | false => none
        | none => none
      | .ifz ts fts d => uinvoke P call name (uargs e c.args) d s K ts fts
      | _ => none
  | _ => uop P o e s K

def guardTmp (ops : Array Oper) (j : Nat) : Option Tmp := (ops[j]?).bind (·.dst)

def uops (call : FuncId → List UV → USt → (UV → USt → Option R) → Option R) (ops : Array Oper) : List Oper → UEnv → USt → (UEnv → USt → Option R) → Option R
  | [], e, s, K => K e s
  | o :: l, e, s, K =>
    match o.guard with
    | none => ustep P call o e s fun v s => uops call ops l (e.put o.dst v) s K
    | some (j, want) => match guardTmp ops j with
      | none => none
      | some t => match e.get t with
        | .bool p => cond p
            (match want with
              | true => ustep P call o (e.set t (.bool true)) s fun v s => uops call ops l ((e.set t (.bool true)).put o.dst v) s K
              | false => uops call ops l ((e.set t (.bool true)).put o.dst uskip) s K)
            (match want with
              | false => ustep P call o (e.set t (.bool false)) s fun v s => uops call ops l ((e.set t (.bool false)).put o.dst v) s K
              | true => uops call ops l ((e.set t (.bool false)).put o.dst uskip) s K)
        | .tuple [] => uops call ops l (e.put o.dst uskip) s K
        | _ => none

/-! Regions whose order is open. What is read: a variable, data, or what is not followed. -/
inductive Src where
  | var (o : Nat)
  | row (o : Nat)
  | data
  | other

def srcOf (o : Oper) (e : UEnv) (s : USt) : Src :=
  match o.op with
  | .load _ a => match uev e a with
    | .ptr o _ => .var o
    | .aptr _ o _ _ _ _ => .var o
    | .eptr o _ _ => match s.get o with
      | .row _ _ => .row o
      | _ => .other
    | .fptr _ _ _ _ => .data
    | .pn _ _ _ => .data
    | _ => .other
  | _ => .other

/-- What is kept in mind of a read. -/
def Src.log : Src → Src
  | .row _ => .other
  | x => x

structure RLog where
  at_ : Nat
  src : Src
  stale : Bool

structure ELog where
  at_ : Nat
  touched : List Nat
  n : Nat

def reads (bef : Nat) : Src → List Nat → List ELog → Bool
  | _, _, [] => true
  | .row o, acc, l :: ls => (bef.testBit l.at_ || (Nat.blt o l.n && !hasN (l.touched ++ acc) o)) && reads bef (.row o) (l.touched ++ acc) ls
  | .var o, acc, l :: ls => (bef.testBit l.at_ || (Nat.blt o l.n && !hasN (l.touched ++ acc) o)) && reads bef (.var o) (l.touched ++ acc) ls
  | x, acc, l :: ls => bef.testBit l.at_ && reads bef x (l.touched ++ acc) ls

def RLog.turn (t : List Nat) (l : RLog) : RLog :=
  match l.src with
  | .var o => { l with stale := l.stale || hasN t o }
  | .row _ => { l with stale := true }
  | .data => l
  | .other => { l with stale := true }

def writes (bef : Nat) : List RLog → Bool
  | [] => true
  | l :: ls => (bef.testBit l.at_ || !l.stale) && writes bef ls

def rangeN : Nat → List Nat
  | 0 => []
  | n + 1 => n :: rangeN n

/-- What a call may write. -/
def callTouch (T : Known) (f : FuncId) (args : List UV) (s : USt) : List Nat :=
  match seatX f, seatT f with
  | some _, false => []
  | _, _ => match T.F f with
    | some (own, _) => toldIds own args s
    | none => rangeN s.len

def stepTouch (T : Known) (o : Oper) (e : UEnv) (s : USt) : List Nat :=
  match o.op with
  | .call c => match c.callee with
    | .builtin _ => touches o e
    | .value f => match uev e f with
      | .func g => callTouch T g (uargs e c.args) s
      | _ => []
    | .invoke r name => match uev e r with
      | .iface t v => match vmethod P t name with
        | some g => callTouch T g (v :: uargs e c.args) s
        | none => []
      | .ifz _ _ _ => rangeN s.len
      | _ => []
  | _ => touches o e

mutual
def UV.def? : UV → Bool
  | .undef => false
  | .func _ => false
  | .iface _ v => UV.def? v
  | .agg cs => UV.defs? cs
  | .tuple cs => UV.defs? cs
  | _ => true
def UV.defs? : List UV → Bool
  | [] => true
  | v :: vs => UV.def? v && UV.defs? vs
end

def udraw (T : Known) (call : FuncId → List UV → USt → (UV → USt → Option R) → Option R) (ops : Array Oper) (bef : Array Nat) : Nat → List Oper → UEnv → USt → List RLog → List ELog → (UEnv → USt → Option R) → Option R
  | _, [], e, s, _, _, K => K e s
  | i, o :: l, e, s, rs, es, K =>
    let run (e : UEnv) : Option R := match kindOf P o with
      | .read => match reads (bef.getD i 0) (srcOf o e s) [] es with
        | true => ustep P call o e s fun v s' => match v.def? with
          | true => udraw T call ops bef (i + 1) l (e.put o.dst v) s' (⟨i, srcOf o e s, false⟩ :: rs) es K
          | false => none
        | false => none
      | .eff =>
        let t := stepTouch P T o e s
        let rs' := rs.map (RLog.turn t)
        match writes (bef.getD i 0) rs' with
        | true => ustep P call o e s fun v s' => udraw T call ops bef (i + 1) l (e.put o.dst v) s' rs' (⟨i, t, s.len⟩ :: es) K
        | false => none
      | _ => ustep P call o e s fun v s => udraw T call ops bef (i + 1) l (e.put o.dst v) s rs es K
    match o.guard with
    | none => run e
    | some (j, want) => match guardTmp ops j with
      | none => none
      | some t => match e.get t with
        | .bool p => cond p
            (match want with
              | true => run (e.set t (.bool true))
              | false => udraw T call ops bef (i + 1) l ((e.set t (.bool true)).put o.dst uskip) s rs es K)
            (match want with
              | false => run (e.set t (.bool false))
              | true => udraw T call ops bef (i + 1) l ((e.set t (.bool false)).put o.dst uskip) s rs es K)
        | .tuple [] => udraw T call ops bef (i + 1) l (e.put o.dst uskip) s rs es K
        | _ => none

def uexec (F : FuncId → Option (Bool × ToldF)) : Nat → (Nat → Option ToldP) → Nat → Code → UEnv → USt → (VExit → UEnv → USt → Option R) → Option R
  | 0, _, _, _, _, _, _ => none
  | k + 1, Pc, p, c, e, s, K =>
    match Pc p with
    | some told => told R e s K
    | none =>
      match c with
      | .skip => K .normal e s
      | .label _ => K .normal e s
      | .region _ ops draw =>
        let call : FuncId → List UV → USt → (UV → USt → Option R) → Option R := fun g args s K =>
          match F g with
          | some (own, told) => utold own told args s K
          | none => match ufn P g with
            | some fn => match fn.body with
              | some c => match leList args fn.ntmps with
                | true => uexec F k (fun _ => none) 1 c args s fun x e s => match x with
                  | .exit _ => none
                  | _ => match uresults P fn e s with
                    | some v => K v s
                    | none => none
                | false => none
              | none => none
            | none => none
        match draw with
        | false => uops P call ops ops.toList e s fun e s => K .normal e s
        | true => match drawOK P ops with
          | true => udraw P ⟨F, fun _ => none⟩ call ops (Region.before ops) 0 ops.toList e s [] [] fun e s => K .normal e s
          | false => none
      | .seq a b => uexec F k Pc (2 * p) a e s fun x e s => match x with
        | .normal => uexec F k Pc (2 * p + 1) b e s K
        | x => K x e s
      | .cond c a b => match uev e c with
        | .bool q => cond q (uexec F k Pc (2 * p) a e s K) (uexec F k Pc (2 * p + 1) b e s K)
        | _ => none
      | .block id c => uexec F k Pc (2 * p) c e s fun x e s => match x with
        | .exit id' => match Nat.beq id' id with
          | true => K .normal e s
          | false => K (.exit id') e s
        | x => K x e s
      | .loop c => uexec F k Pc (2 * p) c e s fun x e s => match x with
        | .normal => uexec F k Pc p (.loop c) e s K
        | x => K x e s
      | .exit id => K (.exit id) e s
      | .ret => K .ret e s
      | _ => none

/-- A function's run. -/
def ufun (T : Known) (k : Nat) (f : FuncId) (args : List UV) (s : USt) (K : UV → USt → Option R) : Option R :=
  match ufn P f with
  | some fn => match fn.body with
    | some c => match leList args fn.ntmps with
      | true => uexec P T.F k T.Pc 1 c args s fun x e s => match x with
        | .exit _ => none
        | _ => match uresults P fn e s with
          | some v => K v s
          | none => none
      | false => none
    | none => none
  | none => none

end
end Go.Proofs.YtbeiflhnogedeaaDoor.V

/- U: a call of a function that is told. -/
namespace Go.Proofs.YtbeiflhnogedeaaDoor.V

section
variable {P : Program}

/-- What a function that is told comes to. -/
def Tells (P : Program) (f : FuncId) (told : ToldF) : Prop :=
  ∀ (R : Type) args st (K : UV → USt → Option R) r, told R args st K = some r → ∀ (c : Cx) (h : VHeap) vargs, RSt c h st → RVs c h.get args vargs →
    VC P seatX f vargs h fun v h' => ∃ u s1 c1, RSt c1 h' s1 ∧ RV c1 h'.get u v ∧ Later c h c1 h' c.fams ∧ K u s1 = some r

/-- Later, as the first objects have it. -/
structure LaterM (m : Nat) (c : Cx) (h : VHeap) (c' : Cx) (h' : VHeap) (T : Nat → Prop) : Prop where
  n : m ≤ c'.n
  ρ : ∀ o, o < m → c'.ρ o = c.ρ o
  K : ∀ f, c.K f → c'.K f
  next : h.next ≤ h'.next
  same : ∀ b o, h.get b = some o → ¬ T (match o with | .cells k => k.fam | .map _ => b) → h'.get b = some o
  fam : ∀ b k, h.get b = some (.cells k) → ∃ k', h'.get b = some (.cells k') ∧ k'.fam = k.fam
  mp : ∀ b es, h.get b = some (.map es) → ∃ es', h'.get b = some (.map es')
  newK : ∀ f, c'.K f → c.K f ∨ h.next ≤ f ∨ ∃ o, c.φ o = some f
  newφ : ∀ o f, c'.φ o = some f → h.next ≤ f ∨ ∃ o, c.φ o = some f
  oldφ : ∀ o f, o < m → c'.φ o = some f → c.φ o = some f

theorem Later.toM {m : Nat} {c c' : Cx} {h h' : VHeap} {T : Nat → Prop} (hL : Later c h c' h' T) (hm : m ≤ c.n) : LaterM m c h c' h' T :=
  ⟨Nat.le_trans hm hL.n, fun o ho => hL.ρ o (Nat.lt_of_lt_of_le ho hm), hL.K, hL.next, hL.same, hL.fam, hL.mp, hL.newK, hL.newφ, fun o f ho => hL.oldφ o f (Nat.lt_of_lt_of_le ho hm)⟩

theorem LaterM.full {c c' : Cx} {h h' : VHeap} {T : Nat → Prop} (hL : LaterM c.n c h c' h' T) : Later c h c' h' T := ⟨hL.n, hL.ρ, hL.K, hL.next, hL.same, hL.fam, hL.mp, hL.newK, hL.newφ, hL.oldφ⟩

theorem LaterM.refl {m : Nat} {c : Cx} (hm : m ≤ c.n) (h : VHeap) (T : Nat → Prop) : LaterM m c h c h T := (Later.refl c h T).toM hm

theorem LaterM.trans {m : Nat} {c c1 c' : Cx} {h h1 h' : VHeap} (hL : LaterM m c h c1 h1 c.fams) (hM : LaterM m c1 h1 c' h' c1.fams) (hw : WF h.get h.next) : LaterM m c h c' h' c.fams := by
  refine ⟨hM.n, fun o ho => (hM.ρ o ho).trans (hL.ρ o ho), fun f hf => hM.K f (hL.K f hf), Nat.le_trans hL.next hM.next, ?_, ?_, ?_, ?_, ?_, fun o f ho hf => hL.oldφ o f ho (hM.oldφ o f ho hf)⟩
  · intro b o hb hn
    refine hM.same b o (hL.same b o hb hn) (fun ⟨p, ht⟩ => ?_)
    rcases hL.newφ p _ ht with h2 | h2
    · cases o with
      | cells k => have := hw.fam b k hb; simp only at h2; omega
      | map es => have := hw.lt b _ hb; simp only at h2; omega
    · exact hn h2
  · intro b k hb
    obtain ⟨k1, h2, e1⟩ := hL.fam b k hb
    obtain ⟨k2, h3, e2⟩ := hM.fam b k1 h2
    exact ⟨k2, h3, e2.trans e1⟩
  · intro b es hb
    obtain ⟨k1, h2⟩ := hL.mp b es hb
    exact hM.mp b k1 h2
  · intro f hf
    rcases hM.newK f hf with h2 | h2 | ⟨o, h2⟩
    · exact hL.newK f h2
    · exact .inr (.inl (Nat.le_trans hL.next h2))
    · rcases hL.newφ o f h2 with h3 | h3
      · exact .inr (.inl h3)
      · exact .inr (.inr h3)
  · intro o f hf
    rcases hM.newφ o f hf with h2 | ⟨o', h2⟩
    · exact .inl (Nat.le_trans hL.next h2)
    · exact hL.newφ o' f h2

/-- A piece that is told; m: the function's own first objects. -/
def SoundP (P : Program) (m : Nat) (code : Code) (told : ToldP) : Prop :=
  ∀ (R : Type) e st (K : VExit → UEnv → USt → Option R) r, told R e st K = some r → ∀ (c : Cx) (h : VHeap) e', m ≤ c.n → RSt c h st → REnv c h.get e e' →
    WP P seatX code e' h fun x e1 h1 => ∃ u1 s1 c1, RSt c1 h1 s1 ∧ REnv c1 h1.get u1 e1 ∧ LaterM m c h c1 h1 c.fams ∧ K x u1 s1 = some r

theorem hasN_iff {l : List Nat} {o : Nat} : hasN l o = true ↔ o ∈ l := by
  induction l with
  | nil => simp [hasN]
  | cons a l ih =>
    simp only [hasN, Bool.or_eq_true, ih, List.mem_cons]
    constructor
    · rintro (h | h)
      · exact .inl (Nat.eq_of_beq_eq_true h).symm
      · exact .inr h
    · rintro (rfl | h)
      · exact .inl (Nat.beq_refl _)
      · exact .inr h

theorem nodupN_iff {l : List Nat} (h : nodupN l = true) : l.Nodup := by
  induction l with
  | nil => exact List.nodup_nil
  | cons a l ih =>
    simp only [nodupN, Bool.and_eq_true, Bool.not_eq_true'] at h
    refine List.nodup_cons.2 ⟨fun hm => ?_, ih h.2⟩
    rw [hasN_iff.2 hm] at h; cases h.1

theorem lenN_eq (l : List Nat) : lenN l = l.length := by
  induction l with
  | nil => rfl
  | cons a l ih => simp [lenN, ih]

theorem idx_some {l : List Nat} {o j : Nat} (h : idx l o = some j) : l[j]? = some o := by
  induction l generalizing j with
  | nil => cases h
  | cons a l ih =>
    simp only [idx] at h
    split at h
    · rename_i hb; simp only [Option.some.injEq] at h; subst h; simp [Nat.eq_of_beq_eq_true hb]
    · simp only [Option.map_eq_some_iff] at h
      obtain ⟨k, hk, rfl⟩ := h
      simpa using ih hk

theorem nth_eq {l : List Nat} {j o : Nat} (h : l[j]? = some o) : nth l j = o := by
  induction l generalizing j with
  | nil => cases h
  | cons a l ih => cases j with
    | zero => simp at h; simp [nth, h]
    | succ j => simp at h; simp [nth, ih h]

theorem nodup_at {l : List Nat} (hnd : l.Nodup) {j k o : Nat} (hj : l[j]? = some o) (hk : l[k]? = some o) : j = k := by
  induction l generalizing j k with
  | nil => cases hj
  | cons a l ih =>
    obtain ⟨hna, hnd⟩ := List.nodup_cons.1 hnd
    cases j with
    | zero => cases k with
      | zero => rfl
      | succ k => simp at hj hk; subst hj; exact absurd (List.mem_of_getElem? hk) hna
    | succ j => cases k with
      | zero => simp at hj hk; subst hk; exact absurd (List.mem_of_getElem? hj) hna
      | succ k => simp at hj hk; rw [ih hnd hj hk]

/-- The part of a state that some objects are. -/
def Cx.pick (c : Cx) (ids : List Nat) : Cx := ⟨ids.length, fun j => match ids[j]? with | some o => c.ρ o | none => .undef, c.K, fun j => match ids[j]? with | some o => c.φ o | none => none⟩

section
variable {c : Cx} {h : VHeap} {s : USt} {ids : List Nat}

theorem Cx.pick_ρ {j o : Nat} (h : ids[j]? = some o) : (c.pick ids).ρ j = c.ρ o := by simp only [Cx.pick, h]

mutual
theorem RV.pick {g : VG} : ∀ {u : UV} {v : VV}, RV c g u v → RV (c.pick ids) g (u.pick ids) v
  | .undef, _, _ => .undef _
  | .bool b, _, h => by cases h; exact .bool b
  | .int k n, _, h => by cases h; exact .int k n
  | .str x, _, h => by cases h; exact .str x
  | .nilptr, _, h => by cases h; exact .nilptr
  | .ptr o f, _, h => by
    cases h with
    | ptr _ _ b ho hb =>
      simp only [UV.pick]
      split
      · rename_i j hj
        have := idx_some hj
        exact .ptr j f b (List.getElem?_eq_some_iff.1 this).1 (by rw [Cx.pick_ρ this]; exact hb)
      · exact .undef _
  | .aptr fts o g n q f, _, h => by
    cases h with
    | aptr _ _ _ _ _ _ b ho hb hj =>
      simp only [UV.pick]
      split
      · rename_i j hq
        have := idx_some hq
        exact .aptr fts j g n q f b (List.getElem?_eq_some_iff.1 this).1 (by rw [Cx.pick_ρ this]; exact hb) hj
      · exact .undef _
  | .eptr o i f, _, h => by
    cases h with
    | eptr _ _ _ b i0 n cp z ho hb hi =>
      simp only [UV.pick]
      split
      · rename_i j hj
        have := idx_some hj
        exact .eptr j i f b i0 n cp z (List.getElem?_eq_some_iff.1 this).1 (by rw [Cx.pick_ρ this]; exact hb) hi
      · exact .undef _
  | .fptr fts es i f, _, h => by
    cases h with
    | fptr _ _ _ _ b i0 n cp z hb hi => exact .fptr _ _ _ _ b i0 n cp z hb hi
  | .nilslice, _, h => by cases h; exact .nilslice
  | .own o, _, h => by
    cases h with
    | own _ _ ho hb hv =>
      simp only [UV.pick]
      split
      · rename_i j hj
        have := idx_some hj
        exact .own j _ (List.getElem?_eq_some_iff.1 this).1 (by rw [Cx.pick_ρ this]; exact hb) hv
      · exact .undef _
  | .fz fts es cut, _, h => by
    cases h with
    | fz _ _ _ _ hrd hc => exact .fz _ _ _ _ hrd hc
  | .nn fts es, _, h => by
    cases h with
    | nn _ _ _ hrd hv => exact .nn _ _ _ hrd hv
  | .nilmap, _, h => by cases h; exact .nilmap
  | .map o, _, h => by
    cases h with
    | map _ b ho hb =>
      simp only [UV.pick]
      split
      · rename_i j hj
        have := idx_some hj
        exact .map j b (List.getElem?_eq_some_iff.1 this).1 (by rw [Cx.pick_ρ this]; exact hb)
      · exact .undef _
  | .nilfunc, _, h => by cases h; exact .nilfunc
  | .func f, _, h => by cases h; exact .func f
  | .pz _ _, _, h => by
    cases h with
    | pz _ _ _ hrd => exact .pz _ _ _ hrd
  | .pn _ _ _, _, h => by
    cases h with
    | pn _ _ _ b hrd => exact .pn _ _ _ b hrd
  | .ifz _ _ _, _, h => by
    cases h with
    | ifz _ _ _ _ hrd => exact .ifz _ _ _ _ hrd
  | .niliface, _, h => by cases h; exact .niliface
  | .iface t u, _, h => by
    cases h with
    | iface _ _ v hv => exact .iface t _ v (RV.pick hv)
  | .agg us, _, h => by
    cases h with
    | agg _ vs hl hp => exact RV.agg' (RVs.picks ⟨hl, hp⟩)
  | .tuple us, _, h => by
    cases h with
    | tuple _ vs hl hp => exact RV.tuple' (RVs.picks ⟨hl, hp⟩)
theorem RVs.picks {g : VG} : ∀ {us : List UV} {vs : List VV}, RVs c g us vs → RVs (c.pick ids) g (UV.picks ids us) vs
  | [], vs, h => by
    have := h.1
    match vs, this with
    | [], _ => exact RVs.nil _ _
  | u :: us, vs, h => by
    have := h.1
    match vs, this, h with
    | v :: vs, _, h => exact RVs.cons (RV.pick h.head) (RVs.picks h.tail)
end

theorem picks_len (us : List UV) : (UV.picks ids us).length = us.length := by
  induction us with
  | nil => rfl
  | cons u us ih => simp [UV.picks, ih]

theorem RO.pick {g : VG} {u : UO} {v : VV} {fm : Option Nat} (hr : RO c g u v fm) : RO (c.pick ids) g (u.pick ids) v fm := by
  cases hr with
  | obj cs b k xs hg hes hz hro hso hx hr => exact .obj _ b k xs hg hes (by rw [picks_len]; exact hz) hro hso hx hr.picks
  | rowNil fts => exact .rowNil fts
  | rowCut fts b i z k hg hK hz hz' h0 hi => exact .rowCut fts b i z k hg hK hz hz' h0 hi
  | row fts es b i n cp z k hg hro hz hz' h0 hn hcp hs => exact .row fts es b i n cp z k hg hro hz hz' h0 hn hcp hs
  | old fts es v h => exact .old fts es v h
  | map kf ag fts es b ves hg hk hl h => exact .map kf ag fts es b ves hg hk hl h
  | gone v hv => exact .gone v hv

theorem pick_get (l : List Nat) (j : Nat) : USt.get (s.pick ids l) j = match l[j]? with | some o => (s.get o).pick ids | none => .gone := by
  induction l generalizing j with
  | nil => rfl
  | cons a l ih => cases j with
    | zero => rfl
    | succ j => simp only [USt.pick, USt.get, ih, List.getElem?_cons_succ]

theorem pick_len (l : List Nat) : USt.len (s.pick ids l) = l.length := by
  induction l with
  | nil => rfl
  | cons a l ih => simp [USt.pick, USt.len, ih]

/-- Some objects, by themselves. -/
theorem RSt.pick (hs : RSt c h s) (hnd : ids.Nodup) : RSt (c.pick ids) h (s.pick ids ids) := by
  refine ⟨hs.wf, pick_len ids, fun j => ?_, fun j k f h1 h2 => ?_, fun j f h1 hK => ?_, fun j f h1 => ?_, hs.ltK, fun j hj => ?_⟩
  · rw [pick_get]
    show RO _ _ _ (match ids[j]? with | some o => c.ρ o | none => .undef) (match ids[j]? with | some o => c.φ o | none => none)
    cases ids[j]? with
    | none => exact .gone _ (by intro b i f e; cases e)
    | some o => exact (hs.obj o).pick
  · simp only [Cx.pick] at h1 h2
    cases hj : ids[j]? with
    | none => rw [hj] at h1; cases h1
    | some o =>
      cases hk : ids[k]? with
      | none => rw [hk] at h2; cases h2
      | some p =>
        rw [hj] at h1; rw [hk] at h2
        have := hs.dis o p f h1 h2
        subst this
        exact nodup_at hnd hj hk
  · simp only [Cx.pick] at h1
    cases hj : ids[j]? with
    | none => rw [hj] at h1; cases h1
    | some o => rw [hj] at h1; exact hs.ndK o f h1 hK
  · simp only [Cx.pick] at h1
    cases hj : ids[j]? with
    | none => rw [hj] at h1; cases h1
    | some o => rw [hj] at h1; exact hs.ltφ o f h1
  · have hj : ids.length ≤ j := hj
    simp only [Cx.pick, List.getElem?_eq_none hj]

theorem Cx.pick_fams {f : Nat} (hf : (c.pick ids).fams f) : ∃ o, o ∈ ids ∧ c.φ o = some f := by
  obtain ⟨j, hj⟩ := hf
  simp only [Cx.pick] at hj
  cases ho : ids[j]? with
  | none => rw [ho] at hj; cases hj
  | some o => rw [ho] at hj; exact ⟨o, List.mem_of_getElem? ho, hj⟩

mutual
theorem RV.ren {c2 : Cx} {g : VG} {f : Nat → Nat} (hf : ∀ j, j < c2.n → f j < c.n ∧ c.ρ (f j) = c2.ρ j) (hK : c.K = c2.K) : ∀ {u : UV} {v : VV}, RV c2 g u v → RV c g (u.ren f) v
  | .undef, _, _ => .undef _
  | .bool b, _, h => by cases h; exact .bool b
  | .int k n, _, h => by cases h; exact .int k n
  | .str x, _, h => by cases h; exact .str x
  | .nilptr, _, h => by cases h; exact .nilptr
  | .ptr o q, _, h => by
    cases h with
    | ptr _ _ b ho hb => exact .ptr _ _ b (hf o ho).1 ((hf o ho).2.trans hb)
  | .aptr fts o g n j q, _, h => by
    cases h with
    | aptr _ _ _ _ _ _ b ho hb hj => exact .aptr fts _ g n j q b (hf o ho).1 ((hf o ho).2.trans hb) hj
  | .eptr o i q, _, h => by
    cases h with
    | eptr _ _ _ b i0 n cp z ho hb hi => exact .eptr _ _ _ b i0 n cp z (hf o ho).1 ((hf o ho).2.trans hb) hi
  | .fptr fts es i q, _, h => by
    cases h with
    | fptr _ _ _ _ b i0 n cp z hb hi => exact .fptr _ _ _ _ b i0 n cp z (by rw [hK]; exact hb) hi
  | .nilslice, _, h => by cases h; exact .nilslice
  | .own o, _, h => by
    cases h with
    | own _ _ ho hb hv => exact .own _ _ (hf o ho).1 ((hf o ho).2.trans hb) hv
  | .fz fts es cut, _, h => by
    cases h with
    | fz _ _ _ _ hrd hc => exact .fz _ _ _ _ (by rw [hK]; exact hrd) hc
  | .nn fts es, _, h => by
    cases h with
    | nn _ _ _ hrd hv => exact .nn _ _ _ (by rw [hK]; exact hrd) hv
  | .nilmap, _, h => by cases h; exact .nilmap
  | .map o, _, h => by
    cases h with
    | map _ b ho hb => exact .map _ b (hf o ho).1 ((hf o ho).2.trans hb)
  | .nilfunc, _, h => by cases h; exact .nilfunc
  | .func q, _, h => by cases h; exact .func q
  | .pz _ _, _, h => by
    cases h with
    | pz _ _ _ hrd => exact .pz _ _ _ (by rw [hK]; exact hrd)
  | .pn _ _ _, _, h => by
    cases h with
    | pn _ _ _ b hrd => exact .pn _ _ _ b (by rw [hK]; exact hrd)
  | .ifz _ _ _, _, h => by
    cases h with
    | ifz _ _ _ _ hrd => exact .ifz _ _ _ _ (by rw [hK]; exact hrd)
  | .niliface, _, h => by cases h; exact .niliface
  | .iface t u, _, h => by
    cases h with
    | iface _ _ v hv => exact .iface t _ v (RV.ren hf hK hv)
  | .agg us, _, h => by
    cases h with
    | agg _ vs hl hp => exact RV.agg' (RVs.rens hf hK ⟨hl, hp⟩)
  | .tuple us, _, h => by
    cases h with
    | tuple _ vs hl hp => exact RV.tuple' (RVs.rens hf hK ⟨hl, hp⟩)
theorem RVs.rens {c2 : Cx} {g : VG} {f : Nat → Nat} (hf : ∀ j, j < c2.n → f j < c.n ∧ c.ρ (f j) = c2.ρ j) (hK : c.K = c2.K) : ∀ {us : List UV} {vs : List VV}, RVs c2 g us vs → RVs c g (UV.rens f us) vs
  | [], vs, h => by
    have := h.1
    match vs, this with
    | [], _ => exact RVs.nil _ _
  | u :: us, vs, h => by
    have := h.1
    match vs, this, h with
    | v :: vs, _, h => exact RVs.cons (RV.ren hf hK h.head) (RVs.rens hf hK h.tail)
end

theorem rens_len (f : Nat → Nat) (us : List UV) : (UV.rens f us).length = us.length := by
  induction us with
  | nil => rfl
  | cons u us ih => simp [UV.rens, ih]

theorem RO.ren {c2 : Cx} {g : VG} {f : Nat → Nat} (hf : ∀ j, j < c2.n → f j < c.n ∧ c.ρ (f j) = c2.ρ j) (hK : c.K = c2.K) {u : UO} {v : VV} {fm : Option Nat} (hr : RO c2 g u v fm) : RO c g (u.ren f) v fm := by
  cases hr with
  | obj cs b k xs hg hes hz hro hso hx hr => exact .obj _ b k xs hg hes (by rw [rens_len]; exact hz) hro hso hx (hr.rens hf hK)
  | rowNil fts => exact .rowNil fts
  | rowCut fts b i z k hg hKf hz hz' h0 hi => exact .rowCut fts b i z k hg (by rw [hK]; exact hKf) hz hz' h0 hi
  | row fts es b i n cp z k hg hro hz hz' h0 hn hcp hs => exact .row fts es b i n cp z k hg hro hz hz' h0 hn hcp (by rw [hK]; exact hs)
  | old fts es v h => exact .old fts es v (by rw [hK]; exact h)
  | map kf ag fts es b ves hg hk hl h => exact .map kf ag fts es b ves hg hk hl (by rw [hK]; exact h)
  | gone v hv => exact .gone v hv

theorem pushAll_len (f : Nat → Nat) (rest : USt) (s : USt) : (s.pushAll f rest).len = s.len + rest.len := by
  induction rest generalizing s with
  | nil => rfl
  | cons u us ih => simp only [USt.pushAll, ih, USt.len_push, USt.len]; omega

theorem pushAll_get (f : Nat → Nat) (rest : USt) (s : USt) (o : Nat) : (s.pushAll f rest).get o = if o < s.len then s.get o else (rest.get (o - s.len)).ren f := by
  induction rest generalizing s with
  | nil =>
    simp only [USt.pushAll, USt.get]
    split
    · rfl
    · exact USt.get_out s o (by omega)
  | cons u us ih =>
    simp only [USt.pushAll]
    rw [ih, USt.len_push]
    by_cases h1 : o < s.len
    · rw [if_pos (by omega), if_pos h1, USt.get_push, if_neg (by omega)]
    · by_cases h2 : o = s.len
      · subst h2; rw [if_pos (by omega), if_neg (by omega), USt.get_push, if_pos rfl, Nat.sub_self]; rfl
      · rw [if_neg (by omega), if_neg (by omega), show o - s.len = (o - (s.len + 1)) + 1 by omega]; rfl

/-- What stands behind the objects' going back. -/
theorem writeBack_get (f : Nat → Nat) : ∀ (ids : List Nat) (s st s2 : USt), writeBack f s ids st = some s2 → ids.Nodup → (∀ o ∈ ids, o < s.len) →
    ids.length ≤ st.len ∧ s2.len = s.len + (st.len - ids.length) ∧ (∀ o, o < s.len → o ∉ ids → s2.get o = s.get o) ∧ (∀ j o, ids[j]? = some o → s2.get o = (st.get j).ren f) ∧
    (∀ o, s.len ≤ o → s2.get o = (st.get (ids.length + (o - s.len))).ren f)
  | [], s, st, s2, h, _, _ => by
    simp only [writeBack, Option.some.injEq] at h; subst h
    refine ⟨Nat.zero_le _, by rw [pushAll_len]; simp, fun o ho _ => by rw [pushAll_get, if_pos ho], by simp, fun o ho => by rw [pushAll_get, if_neg (by omega)]; simp⟩
  | _ :: _, s, [], s2, h, _, _ => by simp [writeBack] at h
  | a :: ids, s, u :: us, s2, h, hnd, hlt => by
    simp only [writeBack] at h
    obtain ⟨hna, hnd⟩ := List.nodup_cons.1 hnd
    obtain ⟨h1, h2, h3, h4, h5⟩ := writeBack_get f ids _ us s2 h hnd (fun o ho => by rw [USt.len_upd]; exact hlt o (by simp [ho]))
    rw [USt.len_upd] at h2 h3 h5
    refine ⟨by simp [USt.len]; omega, by simp [USt.len]; omega, fun o ho hn => ?_, fun j o hj => ?_, fun o ho => ?_⟩
    · simp only [List.mem_cons, not_or] at hn
      rw [h3 o ho hn.2, USt.get_upd, if_neg (fun hh => hn.1 hh.1)]
    · cases j with
      | zero =>
        simp only [List.getElem?_cons_zero, Option.some.injEq] at hj; subst hj
        rw [h3 a (hlt a (by simp)) hna, USt.get_upd, if_pos ⟨rfl, hlt a (by simp)⟩]; rfl
      | succ j =>
        simp only [List.getElem?_cons_succ] at hj
        rw [h4 j o hj]; rfl
    · rw [h5 o ho, List.length_cons, show ids.length + 1 + (o - s.len) = (ids.length + (o - s.len)) + 1 by omega]; rfl

end
end
end Go.Proofs.YtbeiflhnogedeaaDoor.V

/- U: a call of a function that is told: back in the caller's store. -/
namespace Go.Proofs.YtbeiflhnogedeaaDoor.V

section
variable {P : Program} {R : Type} {c : Cx} {h h' : VHeap} {s : USt} {ids : List Nat}

/-- What the caller knows behind it. -/
def Cx.back (c : Cx) (ids : List Nat) (c2 : Cx) : Cx :=
  ⟨c.n + (c2.n - ids.length), fun o => if o < c.n then c.ρ o else c2.ρ (ids.length + (o - c.n)), c2.K, fun o => match idx ids o with | some j => c2.φ j | none => if o < c.n then c.φ o else c2.φ (ids.length + (o - c.n))⟩

theorem idx_mem {l : List Nat} {o : Nat} (h : o ∈ l) : ∃ j, idx l o = some j := by
  induction l with
  | nil => cases h
  | cons a l ih =>
    simp only [idx]
    split
    · exact ⟨0, rfl⟩
    · rename_i hb
      rcases List.mem_cons.1 h with rfl | h
      · rw [Nat.beq_refl] at hb; cases hb
      · obtain ⟨j, hj⟩ := ih h; exact ⟨j + 1, by rw [hj]; rfl⟩

theorem idx_none {l : List Nat} {o : Nat} (h : idx l o = none) : o ∉ l := fun hm => by
  obtain ⟨j, hj⟩ := idx_mem hm; rw [hj] at h; cases h

theorem Cx.back_later (hs : RSt c h s) {c2 : Cx} {st : USt} (h2 : RSt c2 h' st) (hL : Later (c.pick ids) h c2 h' (c.pick ids).fams) (hid : ∀ o ∈ ids, o < c.n) : Later c h (c.back ids c2) h' (fun f => ∃ o, o ∈ ids ∧ c.φ o = some f) := by
  refine ⟨Nat.le_add_right _ _, fun o ho => ?_, hL.K, hL.next, fun b o hb hn => hL.same b o hb (fun ht => hn (Cx.pick_fams ht)), hL.fam, hL.mp, fun f hf => ?_, fun o f hf => ?_, fun o f ho hf => ?_⟩
  · show (if o < c.n then _ else _) = _
    rw [if_pos ho]
  · rcases hL.newK f hf with h3 | h3 | h3
    · exact .inl h3
    · exact .inr (.inl h3)
    · obtain ⟨o, _, ho⟩ := Cx.pick_fams h3
      exact .inr (.inr ⟨o, ho⟩)
  · have key : ∀ j, c2.φ j = some f → h.next ≤ f ∨ ∃ o, c.φ o = some f := fun j hj => by
      rcases hL.newφ j f hj with h3 | h3
      · exact .inl h3
      · obtain ⟨o, _, ho⟩ := Cx.pick_fams h3
        exact .inr ⟨o, ho⟩
    have hf : (match idx ids o with | some j => c2.φ j | none => if o < c.n then c.φ o else c2.φ (ids.length + (o - c.n))) = some f := hf
    split at hf
    · exact key _ hf
    · split at hf
      · exact .inr ⟨o, hf⟩
      · exact key _ hf
  · have hf : (match idx ids o with | some j => c2.φ j | none => if o < c.n then c.φ o else c2.φ (ids.length + (o - c.n))) = some f := hf
    split at hf
    · rename_i j hj
      have hj := idx_some hj
      have := hL.oldφ j f (List.getElem?_eq_some_iff.1 hj).1 hf
      simpa only [Cx.pick, hj] using this
    · rwa [if_pos ho] at hf

theorem back_rel (hs : RSt c h s) {c2 : Cx} {st s2 : USt} (h2 : RSt c2 h' st) (hL : Later (c.pick ids) h c2 h' (c.pick ids).fams) (hnd : ids.Nodup) (hid : ∀ o ∈ ids, o < c.n)
    (hw : writeBack (backTo ids s.len) s ids st = some s2) : RSt (c.back ids c2) h' s2 ∧ ∀ {u : UV} {v : VV}, RV c2 h'.get u v → RV (c.back ids c2) h'.get (u.ren (backTo ids s.len)) v := by
  obtain ⟨w1, w2, w3, w4, w5⟩ := writeBack_get _ ids s st s2 hw hnd (fun o ho => by rw [hs.len]; exact hid o ho)
  have hlat := Cx.back_later hs h2 hL hid
  have hTK : ∀ f, c.K f → ¬ (∃ o, o ∈ ids ∧ c.φ o = some f) := fun f hK ⟨o, _, ho⟩ => hs.ndK o f ho hK
  have hcn : ids.length ≤ c2.n := by rw [← h2.len]; exact w1
  have hf : ∀ j, j < c2.n → backTo ids s.len j < (c.back ids c2).n ∧ (c.back ids c2).ρ (backTo ids s.len j) = c2.ρ j := by
    intro j hj
    unfold backTo
    rw [lenN_eq]
    cases hb : Nat.ble ids.length j with
    | true =>
      have := Nat.le_of_ble_eq_true hb
      simp only
      rw [hs.len]
      refine ⟨by show c.n + (j - ids.length) < c.n + (c2.n - ids.length); omega, ?_⟩
      show (if c.n + (j - ids.length) < c.n then _ else c2.ρ (ids.length + (c.n + (j - ids.length) - c.n))) = _
      rw [if_neg (by omega), show ids.length + (c.n + (j - ids.length) - c.n) = j by omega]
    | false =>
      have hlt : j < ids.length := by
        rcases Nat.lt_or_ge j ids.length with h3 | h3
        · exact h3
        · rw [Nat.ble_eq_true_of_le h3] at hb; cases hb
      have hj' : ids[j]? = some ids[j] := List.getElem?_eq_getElem hlt
      simp only
      rw [nth_eq hj']
      have hm := hid _ (List.mem_of_getElem? hj')
      refine ⟨Nat.lt_of_lt_of_le hm (Nat.le_add_right _ _), ?_⟩
      show (if ids[j] < c.n then c.ρ ids[j] else _) = _
      rw [if_pos hm, hL.ρ j hlt, Cx.pick_ρ hj']
  have hK : (c.back ids c2).K = c2.K := rfl
  have phi : ∀ o, (c.back ids c2).φ o = match idx ids o with | some j => c2.φ j | none => if o < c.n then c.φ o else c2.φ (ids.length + (o - c.n)) := fun _ => rfl
  have small : ∀ j f, c2.φ j = some f → h.next ≤ f ∨ ∃ o, o ∈ ids ∧ c.φ o = some f := fun j f hj => by
    rcases hL.newφ j f hj with h3 | h3
    · exact .inl h3
    · exact .inr (Cx.pick_fams h3)
  -- an object of the caller's own
  have other : ∀ o f, o ∉ ids → c.φ o = some f → ∀ j, c2.φ j = some f → False := by
    intro o f hno ho j hj
    rcases small j f hj with h3 | ⟨p, hp, h3⟩
    · have := hs.ltφ o f ho; omega
    · exact hno (hs.dis o p f ho h3 ▸ hp)
  refine ⟨⟨h2.wf, ?_, fun o => ?_, fun o p f g1 g2 => ?_, fun o f g1 hKf => ?_, fun o f g1 => ?_, h2.ltK, fun o ho => ?_⟩, fun hr => hr.ren hf hK⟩
  · rw [w2, hs.len, h2.len]; rfl
  · rw [phi]
    cases hi : idx ids o with
    | some j =>
      have hj := idx_some hi
      have hm := hid o (List.mem_of_getElem? hj)
      rw [w4 j o hj]
      show RO _ _ _ (if o < c.n then c.ρ o else _) _
      rw [if_pos hm]
      have hr := (h2.obj j).ren hf hK
      rwa [hL.ρ j (List.getElem?_eq_some_iff.1 hj).1, Cx.pick_ρ hj] at hr
    | none =>
      have hno := idx_none hi
      simp only
      by_cases hlt : o < c.n
      · rw [if_pos hlt, w3 o (by rw [hs.len]; exact hlt) hno]
        show RO _ _ _ (if o < c.n then c.ρ o else _) _
        rw [if_pos hlt]
        exact (hs.obj o).later hlat hTK (fun f hfo ⟨p, hp, h3⟩ => hno (hs.dis o p f hfo h3 ▸ hp))
      · rw [if_neg hlt, w5 o (by rw [hs.len]; omega), show o - s.len = o - c.n by rw [hs.len]]
        show RO _ _ _ (if o < c.n then c.ρ o else _) _
        rw [if_neg hlt]
        exact (h2.obj _).ren hf hK
  · rw [phi] at g1 g2
    cases hi : idx ids o with
    | some j =>
      rw [hi] at g1
      cases hk : idx ids p with
      | some k =>
        rw [hk] at g2
        have := h2.dis j k f g1 g2
        subst this
        have a := idx_some hi
        have b := idx_some hk
        rw [a] at b; simpa using b
      | none =>
        rw [hk] at g2
        simp only at g1 g2
        split at g2
        · exact (other p f (idx_none hk) g2 j g1).elim
        · have e := h2.dis j _ f g1 g2
          have a := (List.getElem?_eq_some_iff.1 (idx_some hi)).1
          omega
    | none =>
      rw [hi] at g1
      cases hk : idx ids p with
      | some k =>
        rw [hk] at g2
        simp only at g1 g2
        split at g1
        · exact (other o f (idx_none hi) g1 k g2).elim
        · have e := h2.dis _ k f g1 g2
          have a := (List.getElem?_eq_some_iff.1 (idx_some hk)).1
          omega
      | none =>
        rw [hk] at g2
        simp only at g1 g2
        split at g1 <;> split at g2
        · exact hs.dis o p f g1 g2
        · exact (other o f (idx_none hi) g1 _ g2).elim
        · exact (other p f (idx_none hk) g2 _ g1).elim
        · have e := h2.dis _ _ f g1 g2
          omega
  · rw [phi] at g1
    split at g1
    · exact h2.ndK _ f g1 hKf
    · rename_i hi
      split at g1
      · rcases hL.newK f hKf with h3 | h3 | h3
        · exact hs.ndK o f g1 h3
        · have := hs.ltφ o f g1; omega
        · obtain ⟨p, hp, h4⟩ := Cx.pick_fams h3
          exact idx_none hi (hs.dis o p f g1 h4 ▸ hp)
      · exact h2.ndK _ f g1 hKf
  · rw [phi] at g1
    split at g1
    · exact h2.ltφ _ f g1
    · split at g1
      · exact Nat.lt_of_lt_of_le (hs.ltφ o f g1) hL.next
      · exact h2.ltφ _ f g1
  · have ho : c.n + (c2.n - ids.length) ≤ o := ho
    show (if o < c.n then c.ρ o else c2.ρ (ids.length + (o - c.n))) = _
    rw [if_neg (by omega)]
    exact h2.und _ (by omega)

mutual
theorem scal_rel {c1 c2 : Cx} {g1 g2 : VG} : ∀ {u : UV} {v : VV}, RV c1 g1 u v → u.scal = true → RV c2 g2 u v
  | .bool b, _, h, _ => by cases h; exact .bool b
  | .int k n, _, h, _ => by cases h; exact .int k n
  | .str x, _, h, _ => by cases h; exact .str x
  | .nilptr, _, h, _ => by cases h; exact .nilptr
  | .nilslice, _, h, _ => by cases h; exact .nilslice
  | .nilmap, _, h, _ => by cases h; exact .nilmap
  | .nilfunc, _, h, _ => by cases h; exact .nilfunc
  | .niliface, _, h, _ => by cases h; exact .niliface
  | .iface t u, _, h, hs => by
    cases h with
    | iface _ _ v hv => exact .iface t _ v (scal_rel hv (by simpa [UV.scal] using hs))
  | .agg us, _, h, hs => by
    cases h with
    | agg _ vs hl hp => exact RV.agg' (scals_rel ⟨hl, hp⟩ (by simpa [UV.scal] using hs))
  | .tuple us, _, h, hs => by
    cases h with
    | tuple _ vs hl hp => exact RV.tuple' (scals_rel ⟨hl, hp⟩ (by simpa [UV.scal] using hs))
  | .undef, _, _, hs => by simp [UV.scal] at hs
  | .ptr _ _, _, _, hs => by simp [UV.scal] at hs
  | .eptr _ _ _, _, _, hs => by simp [UV.scal] at hs
  | .aptr _ _ _ _ _ _, _, _, hs => by simp [UV.scal] at hs
  | .fptr _ _ _ _, _, _, hs => by simp [UV.scal] at hs
  | .own _, _, _, hs => by simp [UV.scal] at hs
  | .fz _ _ _, _, _, hs => by simp [UV.scal] at hs
  | .nn _ _, _, _, hs => by simp [UV.scal] at hs
  | .map _, _, _, hs => by simp [UV.scal] at hs
  | .func _, _, _, hs => by simp [UV.scal] at hs
theorem scals_rel {c1 c2 : Cx} {g1 g2 : VG} : ∀ {us : List UV} {vs : List VV}, RVs c1 g1 us vs → UV.scals us = true → RVs c2 g2 us vs
  | [], vs, h, _ => by
    have := h.1
    match vs, this with
    | [], _ => exact RVs.nil _ _
  | u :: us, vs, h, hs => by
    have := h.1
    simp only [UV.scals, Bool.and_eq_true] at hs
    match vs, this, h with
    | v :: vs, _, h => exact RVs.cons (scal_rel h.head hs.1) (scals_rel h.tail hs.2)
end

theorem lend1_rel {c1 : Cx} (hs : RSt c h s) {u : UV} {v : VV} (hr : RV c h.get u v) (hL : Later c h c1 h (fun _ => False)) (hd : ∀ ft d, toD s ft u = some d → RD h.get c1.K ft d v) : RV c1 h.get (lend1 s u) v := by
  cases u with
  | own o =>
    simp only [lend1]
    split
    · rename_i fts es hrow
      exact .fz fts es false v (hd (.row 0 fts) (.row es) (by simp only [toD, hrow, FT.sames_refl])) (fun e => by cases e)
    · exact .undef _
  | _ => exact hr.later hL (fun _ _ h => h)

theorem lend_rel {args : List UV} {vargs : List VV} (hs : RSt c h s) (hr : RVs c h.get args vargs) :
    ∃ c1, RSt c1 h (freeze s (args.map ucells).flatten) ∧ Later c h c1 h (fun _ => False) ∧ c1.n = c.n ∧ c1.ρ = c.ρ ∧ (∀ p f, c1.φ p = some f → c.φ p = some f) ∧ RVs c1 h.get (args.map (lend s)) vargs := by
  obtain ⟨c1, s1, l1, n1, r1, p1, d1⟩ := freeze_pt hs (args.map ucells).flatten
  refine ⟨c1, s1, l1, n1, r1, p1, by rw [List.length_map]; exact hr.1, fun i u v hu hv => ?_⟩
  rw [List.getElem?_map] at hu
  cases ha : args[i]? with
  | none => rw [ha] at hu; cases hu
  | some a =>
    rw [ha] at hu
    simp only [Option.map_some, Option.some.injEq] at hu
    subst hu
    have hra := hr.2 i a v ha hv
    have mem : ∀ x, x ∈ ucells a → ∃ m, (args.map ucells).flatten[m]? = some x := fun x hx =>
      List.getElem?_of_mem (List.mem_flatten.2 ⟨ucells a, List.mem_map.2 ⟨a, List.mem_of_getElem? ha, rfl⟩, hx⟩)
    cases a with
    | agg cs =>
      cases hra with
      | agg _ vs hl hp =>
        show RV c1 h.get (.agg (cs.map (lend1 s))) (.agg vs)
        refine RV.agg' ⟨by rw [List.length_map]; exact hl, fun j x y hx hy => ?_⟩
        rw [List.getElem?_map] at hx
        cases hc : cs[j]? with
        | none => rw [hc] at hx; cases hx
        | some q =>
          rw [hc] at hx
          simp only [Option.map_some, Option.some.injEq] at hx
          subst hx
          have hq := hp j q y hc hy
          obtain ⟨m, hm⟩ := mem q (List.mem_of_getElem? hc)
          exact lend1_rel hs hq l1 (fun ft d hd => d1 m q y hm hq ft d hd)
    | _ =>
      obtain ⟨m, hm⟩ := mem _ (List.mem_cons_self ..)
      exact lend1_rel hs hra l1 (fun ft d hd => d1 m _ v hm hra ft d hd)

theorem allLt_iff {l : List Nat} {n : Nat} (h : allLt l n = true) : ∀ o ∈ l, o < n := by
  induction l with
  | nil => intro o ho; cases ho
  | cons a l ih =>
    simp only [allLt, Bool.and_eq_true] at h
    intro o ho
    rcases List.mem_cons.1 ho with rfl | ho
    · have := Nat.le_of_ble_eq_true h.1; omega
    · exact ih h.2 o ho

/-- A call of a function that is told. -/
theorem utold_rel {f : FuncId} {own : Bool} {told : ToldF} (ht : Tells P f told) {args : List UV} {vargs : List VV} {K : UV → USt → Option R} {r : R} (hu : utold own told args s K = some r) (hs : RSt c h s) (hr : RVs c h.get args vargs) :
    VC P seatX f vargs h fun v h' => ∃ u s1 c1, RSt c1 h' s1 ∧ RV c1 h'.get u v ∧ Later c h c1 h' (fun f => ∃ o, o ∈ toldIds own args s ∧ c.φ o = some f) ∧ K u s1 = some r := by
  unfold utold at hu
  simp only at hu
  split at hu
  · rename_i hok
    simp only [Bool.and_eq_true] at hok
    have hnd := nodupN_iff hok.1
    have hlt := allLt_iff hok.2
    generalize hids : toldIds own args s = ids at hu hnd hlt ⊢
    -- what is lent is data
    have hlend : ∃ c1, RSt c1 h (freeze s (toldCells own args)) ∧ Later c h c1 h (fun _ => False) ∧ c1.n = c.n ∧ c1.ρ = c.ρ ∧ (∀ p f, c1.φ p = some f → c.φ p = some f) ∧ RVs c1 h.get (toldArgs own args s) vargs := by
      cases own with
      | true => exact ⟨c, hs, Later.refl _ _ _, rfl, rfl, fun _ _ h => h, hr⟩
      | false => exact lend_rel hs hr
    obtain ⟨c1, s1, l1, n1, r1, p1, a1⟩ := hlend
    have hlt1 : ∀ o ∈ ids, o < c1.n := fun o ho => by rw [n1, ← hs.len]; exact hlt o ho
    have hpick := s1.pick hnd
    obtain ⟨k, v, h', hrun, u, st, c2, q1, q2, q3, q4⟩ := ht R _ _ _ r hu (c1.pick ids) h vargs hpick a1.picks
    refine ⟨k, v, h', hrun, ?_⟩
    have hTsub : ∀ f, (∃ o, o ∈ ids ∧ c1.φ o = some f) → h.next ≤ f ∨ ∃ o, o ∈ ids ∧ c.φ o = some f := fun f ⟨o, ho, hf⟩ => .inr ⟨o, ho, p1 o f hf⟩
    split at q4
    · -- it saw nothing, and tells nothing that lies there
      rename_i hsc
      simp only [Bool.and_eq_true] at hsc
      have hnil : ids = [] := by cases ids with | nil => rfl | cons _ _ => cases hsc.1
      subst hnil
      have hH : HStep h h' (fun _ => False) := ⟨q3.next, fun b o hb _ => q3.same b o hb (fun ⟨j, hj⟩ => by simp [Cx.pick] at hj), q3.fam, q3.mp⟩
      have hL := hH.later c
      refine ⟨u, s, c, ⟨q1.wf, hs.len, fun o => (hs.obj o).later hL (fun _ _ h => h) (fun _ _ h => h), hs.dis, hs.ndK, fun o f hf => Nat.lt_of_lt_of_le (hs.ltφ o f hf) hL.next, fun f hf => Nat.lt_of_lt_of_le (hs.ltK f hf) hL.next, hs.und⟩,
        scal_rel q2 hsc.2, hL.mono (fun _ h => h.elim), q4⟩
    · split at q4
      · rename_i s2 hw
        have hlen : (freeze s (toldCells own args)).len = s.len := freeze_len _ _
        rw [← hlen] at hw q4
        obtain ⟨b1, b2⟩ := back_rel s1 q1 q3 hnd hlt1 hw
        have hlat := Cx.back_later s1 q1 q3 hlt1
        exact ⟨_, s2, _, b1, b2 q2, (l1.mono (fun _ h => h.elim)).trans hlat hs.wf hTsub, q4⟩
      · cases q4
  · cases hu

end
end Go.Proofs.YtbeiflhnogedeaaDoor.V

/- U: what it answers, V answers. -/
namespace Go.Proofs.YtbeiflhnogedeaaDoor.V

section
variable {P : Program} {X : Ext}

theorem vc_wo {o : Oper} {c : Call} (ho : o.op = .call c) {name : String} {rr : Operand} (hc : c.callee = .invoke rr name) {t : TypeId} {v : VV} {e : Env} {h : VHeap} (hf : ev e rr = .iface t v) {g : FuncId} (hm : vmethod P t name = some g) (hp : plainFunc P g = true) {Q : VV → VHeap → Prop}
    (hw : VC P X g (v :: argsOf e c.args) h Q) : WO P X o e h Q := by
  obtain ⟨k, w, h1, r1, q1⟩ := hw
  refine ⟨k, w, h1, ?_, q1⟩
  obtain ⟨dst, op, ty, pos, after, guard⟩ := o
  simp only at ho
  subst ho
  show vcall P _ c e h = _
  unfold vcall
  rw [hc]
  simp only [hf, hm, hp, if_true]
  exact r1

theorem WD.nil {ops : Array Oper} {bef : Array Nat} {i : Nat} {e : Env} {h : VHeap} {rs : List (Nat × Oper × Env × VV)} {es : List (Nat × VHeap)} {Q : Env → VHeap → Prop} (hq : Q e h) : WD P X ops bef i [] e h rs es Q := ⟨0, e, h, by simp [vdraw], hq⟩

theorem WD.skip {ops : Array Oper} {bef : Array Nat} {i : Nat} {o : Oper} {l : List Oper} {e : Env} {h : VHeap} {rs : List (Nat × Oper × Env × VV)} {es : List (Nat × VHeap)} {Q : Env → VHeap → Prop} (hg : wantedV ops o e = some false)
    (hw : WD P X ops bef (i + 1) l (e.put o.dst skipped) h rs es Q) : WD P X ops bef i (o :: l) e h rs es Q := by
  obtain ⟨k, e1, h1, r1, q1⟩ := hw
  exact ⟨k, e1, h1, by unfold vdraw; simp only [hg, r1], q1⟩

theorem WD.cons {ops : Array Oper} {bef : Array Nat} {i : Nat} {o : Oper} {l : List Oper} {e : Env} {h : VHeap} {rs : List (Nat × Oper × Env × VV)} {es : List (Nat × VHeap)} {Q : Env → VHeap → Prop} (hg : wantedV ops o e = some true)
    (hw : WO P X o e h fun v h' =>
      (kindOf P o = .read → (es.all fun (j, hb) => (bef.getD i 0).testBit j || readAt P o e v hb) = true) ∧ (kindOf P o = .eff → (rs.all fun (j, p, d, u) => (bef.getD i 0).testBit j || readAt P p d u h') = true) ∧
      WD P X ops bef (i + 1) l (e.put o.dst v) h' (match kindOf P o with | .read => (i, o, e, v) :: rs | _ => rs) (match kindOf P o with | .eff => (i, h) :: es | _ => es) Q) : WD P X ops bef i (o :: l) e h rs es Q := by
  obtain ⟨k, v, h1, r1, c1, c2, j, e2, h2, r2, q2⟩ := hw
  refine ⟨max k j, e2, h2, ?_, q2⟩
  unfold vdraw
  simp only [hg, vop_mono (caller_le (Nat.le_max_left k j)) r1]
  have r2' := vdraw_mono (caller_le (P := P) (X := X) (Nat.le_max_right k j)) r2
  cases hk : kindOf P o with
  | read => simp only [hk] at c1 r2' ⊢; rw [if_pos (c1 trivial)]; exact r2'
  | eff => simp only [hk] at c2 r2' ⊢; rw [if_pos (c2 trivial)]; exact r2'
  | pure => simp only [hk] at r2' ⊢; exact r2'
  | alloc => simp only [hk] at r2' ⊢; exact r2'

end

/-- All functions that are told are so. -/
def SoundF' (P : Program) (F : FuncId → Option (Bool × ToldF)) : Prop := ∀ f own told, F f = some (own, told) → Tells P f told

/-- All pieces of a function's code that are told are so. -/
def SoundPc (P : Program) (m : Nat) (body : Code) (Pc : Nat → Option ToldP) : Prop := ∀ p told, Pc p = some told → ∀ b, codeAt body p = some b → SoundP P m b told

theorem SoundPc.none (P : Program) (m : Nat) (body : Code) : SoundPc P m body (fun _ => none) := fun _ _ h => by cases h

section
variable {P : Program} {R : Type} {c : Cx} {h : VHeap} {s : USt}

theorem uinvoke_rel {call : FuncId → List UV → USt → (UV → USt → Option R) → Option R} {name : String} {args : List UV} {K : UV → USt → Option R} {r : R} {t : Nat} {d : D} :
    ∀ {ts : List Nat} {fts : List FT} {ft : FT}, lookT ts fts t = some ft → uinvoke P call name args (.row [[.int t, d]]) s K ts fts = some r → ∃ g, vmethod P t name = some g ∧ plainFunc P g = true ∧ call g (ofD ft d :: args) s K = some r
  | [], _, _, h, _ => by simp [lookT] at h
  | _ :: _, [], _, h, _ => by simp [lookT] at h
  | a :: ts, f :: fts, ft, h, hu => by
    unfold uinvoke at hu
    simp only [lookT] at h
    by_cases ha : a = t
    · subst ha
      rw [Nat.beq_refl] at h
      simp only [Option.some.injEq] at h; subst h
      simp only [tagIs, decide_true, cond_true] at hu
      split at hu
      · rename_i g hm
        split at hu
        · rename_i hp; exact ⟨g, hm, hp, hu⟩
        · cases hu
      · cases hu
    · have hb : Nat.beq a t = false := by
        cases hb : Nat.beq a t with
        | false => rfl
        | true => exact absurd (Nat.eq_of_beq_eq_true hb) ha
      rw [hb] at h
      have ht : tagIs a (.row [[.int t, d]]) = false := by simp only [tagIs]; exact decide_eq_false (by omega)
      rw [ht, cond_false] at hu
      exact uinvoke_rel h hu

theorem uinvoke_nil {call : FuncId → List UV → USt → (UV → USt → Option R) → Option R} {name : String} {args : List UV} {K : UV → USt → Option R} :
    ∀ (ts : List Nat) (fts : List FT), uinvoke P call name args .nil s K ts fts = none
  | [], _ => rfl
  | _ :: _, [] => rfl
  | a :: ts, f :: fts => by
    unfold uinvoke
    simp only [tagIs, cond_false]
    exact uinvoke_nil ts fts

theorem rangeN_all : ∀ {n o : Nat}, o < n → o ∈ rangeN n
  | n + 1, o, h => by
    simp only [rangeN, List.mem_cons]
    by_cases ho : o = n
    · exact .inl ho
    · exact .inr (rangeN_all (by omega))

/-- What a step may turn. -/
def touchT (P : Program) (T : Known) (c : Cx) (o : Oper) (e : UEnv) (s : USt) (f : Nat) : Prop := ∃ p, p ∈ stepTouch P T o e s ∧ c.φ p = some f

theorem ustep_rel {T : Known} {call : FuncId → List UV → USt → (UV → USt → Option R) → Option R}
    (hcall : ∀ g args s (K : UV → USt → Option R) r, call g args s K = some r → ∀ (c : Cx) (h : VHeap) vargs, RSt c h s → RVs c h.get args vargs →
      VC P seatX g vargs h fun v h' => ∃ u s1 c1, RSt c1 h' s1 ∧ RV c1 h'.get u v ∧ Later c h c1 h' (fun f => ∃ o, o ∈ callTouch T g args s ∧ c.φ o = some f) ∧ K u s1 = some r)
    (hs : RSt c h s) {o : Oper} {e : UEnv} {e' : Env} (he : REnv c h.get e e') {K : UV → USt → Option R} {r : R} (hu : ustep P call o e s K = some r) :
    WO P seatX o e' h fun v h' => ∃ u s1 c1, RSt c1 h' s1 ∧ RV c1 h'.get u v ∧ Later c h c1 h' (touchT P T c o e s) ∧ K u s1 = some r := by
  have plain : uop P o e s K = some r → stepTouch P T o e s = touches o e → WO P seatX o e' h fun v h' => ∃ u s1 c1, RSt c1 h' s1 ∧ RV c1 h'.get u v ∧ Later c h c1 h' (touchT P T c o e s) ∧ K u s1 = some r := by
    intro hu ht
    obtain ⟨v, h', u, s1, c1, e1, e2, e3, e4, e5⟩ := uop_rel (T := touchT P T c o e s) hs he hu (fun p f hp hf => ⟨p, by rw [ht]; exact hp, hf⟩)
    exact WO.of e1 ⟨u, s1, c1, e2, e3, e4, e5⟩
  unfold ustep at hu
  split at hu
  · rename_i cl hop
    split at hu
    · rename_i b hb
      exact plain hu (by simp only [stepTouch, hop, hb])
    · rename_i f hf
      split at hu
      · rename_i g hg
        have hr := uev_rel he f
        rw [hg] at hr
        split at hu
        · rename_i hp
          have hst : stepTouch P T o e s = callTouch T g (uargs e cl.args) s := by simp only [stepTouch, hop, hf, hg]
          generalize hv : ev e' f = v at hr
          cases hr
          refine WO.call hop hf hv hp ?_
          simp only [List.nil_append, List.append_nil]
          refine (hcall g _ s K r hu c h _ hs (uargs_rel he cl.args)).mono ?_
          rintro v h' ⟨u, s1, c1, q1, q2, q3, q4⟩
          exact ⟨u, s1, c1, q1, q2, q3.mono (fun f hf => by unfold touchT; rw [hst]; exact hf), q4⟩
        · cases hu
      · cases hu
    · rename_i rr name hc
      split at hu
      · rename_i t v hv
        have hr := uev_rel he rr
        rw [hv] at hr
        split at hu
        · rename_i g hm
          split at hu
          · rename_i hp
            have hst : stepTouch P T o e s = callTouch T g (v :: uargs e cl.args) s := by simp only [stepTouch, hop, hc, hv, hm]
            generalize hv' : ev e' rr = v' at hr
            cases hr with
            | iface _ _ w hw =>
              refine vc_wo hop hc hv' hm hp ?_
              refine (hcall g _ s K r hu c h _ hs (RVs.cons hw (uargs_rel he cl.args))).mono ?_
              rintro v h' ⟨u, s1, c1, q1, q2, q3, q4⟩
              exact ⟨u, s1, c1, q1, q2, q3.mono (fun f hf => by unfold touchT; rw [hst]; exact hf), q4⟩
          · cases hu
        · cases hu
      · rename_i ts fts d hv
        have hr := uev_rel he rr
        rw [hv] at hr
        generalize hv' : ev e' rr = v' at hr
        cases hr with
        | ifz _ _ _ _ hrd =>
          cases hrd with
          | inil => rw [uinvoke_nil] at hu; cases hu
          | ifc _ _ t ft d' w hl hw =>
            obtain ⟨g, hm, hp, hk⟩ := uinvoke_rel hl hu
            have hst : stepTouch P T o e s = rangeN s.len := by simp only [stepTouch, hop, hc, hv]
            refine vc_wo hop hc hv' hm hp ?_
            refine (hcall g _ s K r hk c h _ hs (RVs.cons (ofD_rel hw) (uargs_rel he cl.args))).mono ?_
            rintro v h' ⟨u, s1, c1, q1, q2, q3, q4⟩
            refine ⟨u, s1, c1, q1, q2, q3.mono (fun f ⟨o2, _, hf⟩ => ?_), q4⟩
            unfold touchT; rw [hst]
            refine ⟨o2, rangeN_all ?_, hf⟩
            rcases Nat.lt_or_ge o2 s.len with h1 | h1
            · exact h1
            · rw [hs.out (by rw [← hs.len]; exact h1)] at hf; cases hf
      · cases hu
  · rename_i hnc
    exact plain hu (by
      unfold stepTouch
      split
      · rename_i cl hop; exact absurd hop (hnc cl)
      · rfl)

theorem wanted_none' {ops : Array Oper} {o : Oper} {e : Env} (h : o.guard = none) : wantedV ops o e = some true := by unfold wantedV; rw [h]

/-- A guard. -/
theorem guard_rel {ops : Array Oper} {o : Oper} {j : Nat} {want : Bool} (hg : o.guard = some (j, want)) {t : Tmp} (ht : guardTmp ops j = some t) {e : UEnv} {e' : Env} {g : VG} (he : REnv c g e e') :
    (∀ p, e.get t = .bool p → wantedV ops o e' = some (p == want) ∧ REnv c g (e.set t (.bool p)) e') ∧ (e.get t = .tuple [] → wantedV ops o e' = some false) := by
  have ht : (ops[j]?).bind (·.dst) = some t := ht
  constructor
  · intro p hp
    have hr := he t
    rw [hp] at hr
    generalize hv : Env.get e' t = v at hr
    cases hr
    refine ⟨by simp only [wantedV, hg, yieldedV, ht, hv], fun q => ?_⟩
    rw [UEnv.get_set]
    split
    · rename_i hq; subst hq; rw [hv]; exact .bool p
    · exact he q
  · intro hp
    have hr := he t
    rw [hp] at hr
    generalize hv : Env.get e' t = v at hr
    cases hr with
    | tuple _ vs hl hpp =>
      have : vs = [] := List.eq_nil_of_length_eq_zero hl.symm
      subst this
      simp only [wantedV, hg, yieldedV, ht, hv]

theorem skip_rel (c : Cx) (g : VG) : RV c g uskip skipped := RV.tuple' (RVs.nil c g)

theorem uops_rel {T : Known} {call : FuncId → List UV → USt → (UV → USt → Option R) → Option R}
    (hcall : ∀ g args s (K : UV → USt → Option R) r, call g args s K = some r → ∀ (c : Cx) (h : VHeap) vargs, RSt c h s → RVs c h.get args vargs →
      VC P seatX g vargs h fun v h' => ∃ u s1 c1, RSt c1 h' s1 ∧ RV c1 h'.get u v ∧ Later c h c1 h' (fun f => ∃ o, o ∈ callTouch T g args s ∧ c.φ o = some f) ∧ K u s1 = some r)
    {ops : Array Oper} : ∀ (l : List Oper) (e : UEnv) (s : USt) (K : UEnv → USt → Option R) (r : R), uops P call ops l e s K = some r → ∀ (c : Cx) (h : VHeap) (e' : Env), RSt c h s → REnv c h.get e e' →
      WS P seatX ops l e' h fun e1 h1 => ∃ u1 s1 c1, RSt c1 h1 s1 ∧ REnv c1 h1.get u1 e1 ∧ Later c h c1 h1 c.fams ∧ K u1 s1 = some r
  | [], e, s, K, r, hu, c, h, e', hs, he => WS.nil ⟨e, s, c, hs, he, Later.refl _ _ _, hu⟩
  | o :: l, e, s, K, r, hu, c, h, e', hs, he => by
    have run : ∀ (e0 : UEnv), REnv c h.get e0 e' → wantedV ops o e' = some true → (ustep P call o e0 s fun v s => uops P call ops l (e0.put o.dst v) s K) = some r → WS P seatX ops (o :: l) e' h fun e1 h1 => ∃ u1 s1 c1, RSt c1 h1 s1 ∧ REnv c1 h1.get u1 e1 ∧ Later c h c1 h1 c.fams ∧ K u1 s1 = some r := by
      intro e0 he0 hw hu
      refine WS.cons hw ?_
      obtain ⟨k, v, h', e1, u, s1, c1, q1, q2, q3, q4⟩ := ustep_rel hcall hs he0 hu
      refine ⟨k, v, h', e1, ?_⟩
      have hT : ∀ f, c.K f → ¬ touchT P T c o e0 s f := fun f hK ⟨p, _, hp⟩ => hs.ndK p f hp hK
      have hL : Later c h c1 h' c.fams := q3.mono (fun f ⟨p, _, hp⟩ => ⟨p, hp⟩)
      obtain ⟨k2, e2, h2, e3, u2, s2, c2, p1, p2, p3, p4⟩ := uops_rel hcall l _ s1 K r q4 c1 h' _ q1 ((he0.later q3 hT).put q2 o.dst)
      exact ⟨k2, e2, h2, e3, u2, s2, c2, p1, p2, hL.trans' p3 hs.wf, p4⟩
    have skip : ∀ (e0 : UEnv), REnv c h.get e0 e' → wantedV ops o e' = some false → uops P call ops l (e0.put o.dst uskip) s K = some r → WS P seatX ops (o :: l) e' h fun e1 h1 => ∃ u1 s1 c1, RSt c1 h1 s1 ∧ REnv c1 h1.get u1 e1 ∧ Later c h c1 h1 c.fams ∧ K u1 s1 = some r := by
      intro e0 he0 hw hu
      exact WS.skip hw (uops_rel hcall l _ s K r hu c h _ hs (he0.put (skip_rel c h.get) o.dst))
    unfold uops at hu
    split at hu
    · rename_i hg
      exact run e he (wanted_none' hg) hu
    · rename_i j want hg
      split at hu
      · cases hu
      · rename_i t ht
        obtain ⟨g1, g2⟩ := guard_rel hg ht he
        split at hu
        · rename_i p hp
          obtain ⟨w1, w2⟩ := g1 p hp
          cases p with
          | true =>
            simp only [cond_true] at hu
            cases want with
            | true => exact run _ w2 w1 hu
            | false => exact skip _ w2 w1 hu
          | false =>
            simp only [cond_false] at hu
            cases want with
            | true => exact skip _ w2 w1 hu
            | false => exact run _ w2 w1 hu
        · rename_i hp
          exact skip e he (g2 hp) hu
        · cases hu

/-! The place of a piece. -/
theorem codeWay_acc : ∀ (k p : Nat) (acc : List Bool), codeWay k p acc = codeWay k p [] ++ acc
  | 0, p, acc => rfl
  | k + 1, p, acc => by
    simp only [codeWay]
    split
    · rfl
    · rw [codeWay_acc k _ (_ :: acc), codeWay_acc k _ [_], List.append_assoc]; rfl

theorem codeWay_fuel : ∀ (k j p : Nat), p ≤ k → p ≤ j → codeWay k p [] = codeWay j p []
  | 0, j, p, hk, _ => by
    have : p = 0 := by omega
    subst this
    cases j with
    | zero => rfl
    | succ j => simp [codeWay, Nat.ble]
  | k + 1, 0, p, _, hj => by
    have : p = 0 := by omega
    subst this
    simp [codeWay, Nat.ble]
  | k + 1, j + 1, p, hk, hj => by
    simp only [codeWay]
    split
    · rfl
    · rename_i hb
      have hp : ¬ p ≤ 1 := fun h => by rw [Nat.ble_eq_true_of_le h] at hb; cases hb
      rw [codeWay_acc k, codeWay_acc j, codeWay_fuel k j (p / 2) (by omega) (by omega)]

theorem codeWay_step (p : Nat) (hp : 1 ≤ p) (b : Bool) : codeWay (2 * p + b.toNat) (2 * p + b.toNat) [] = codeWay p p [] ++ [b] := by
  obtain ⟨k, hk⟩ : ∃ k, 2 * p + b.toNat = k + 1 := ⟨2 * p + b.toNat - 1, by omega⟩
  have hb1 : b.toNat ≤ 1 := by cases b <;> simp
  rw [hk]
  simp only [codeWay]
  have hne : Nat.ble (k + 1) 1 = false := ble_false (by omega)
  rw [hne]
  simp only
  have h2 : (k + 1) / 2 = p := by omega
  have h3 : Nat.beq ((k + 1) % 2) 1 = b := by
    cases b with
    | true => rw [show (k + 1) % 2 = 1 by simp at hk; omega]; rfl
    | false => rw [show (k + 1) % 2 = 0 by simp at hk; omega]; rfl
  rw [h2, h3, codeWay_acc, codeWay_fuel k p p (by omega) (Nat.le_refl _)]

theorem codeGo_append : ∀ (l m : List Bool) (c : Code), codeGo c (l ++ m) = (codeGo c l).bind fun d => codeGo d m
  | [], m, c => rfl
  | b :: l, m, c => by
    simp only [List.cons_append, codeGo]
    cases codeSub c b with
    | none => rfl
    | some d => exact codeGo_append l m d

theorem codeAt_step {c d d' : Code} {p : Nat} (hp : 1 ≤ p) (h : codeAt c p = some d) (b : Bool) (hd : codeSub d b = some d') : codeAt c (2 * p + b.toNat) = some d' := by
  unfold codeAt at h ⊢
  rw [codeWay_step p hp b, codeGo_append, h]
  simp only [Option.bind_some, codeGo, hd]

end
end Go.Proofs.YtbeiflhnogedeaaDoor.V

/- U: regions whose order is open. -/
namespace Go.Proofs.YtbeiflhnogedeaaDoor.V

section
variable {P : Program} {R : Type} {c c1 : Cx} {h h1 : VHeap} {s : USt}

def Stays (P : Program) (c : Cx) (h : VHeap) (src : Src) (p : Oper) (d : Env) (u : VV) : Prop :=
  match src with
  | .var o => ∃ b ob, h.get b = some ob ∧ (∀ h2 : VHeap, h2.get b = some ob → readAt P p d u h2 = true) ∧ o < c.n ∧ c.ρ o = .ptr b 0 0
  | .row o => ∃ b k i n cp z, h.get b = some (.cells k) ∧ (∀ h2 : VHeap, h2.get b = some (.cells k) → readAt P p d u h2 = true) ∧ o < c.n ∧ c.ρ o = .slice b i n cp z ∧ c.φ o = some k.fam
  | .data => ∃ b k, h.get b = some (.cells k) ∧ (∀ h2 : VHeap, h2.get b = some (.cells k) → readAt P p d u h2 = true) ∧ c.K k.fam
  | .other => True

def RInv (P : Program) (c : Cx) (h : VHeap) : List RLog → List (Nat × Oper × Env × VV) → Prop
  | [], [] => True
  | l :: ls, (i, p, d, u) :: rs => l.at_ = i ∧ (l.stale = false → Stays P c h l.src.log p d u) ∧ RInv P c h ls rs
  | _, _ => False

def EInv (c : Cx) (h : VHeap) : List ELog → List (Nat × VHeap) → List Nat → Prop
  | [], [], _ => True
  | l :: ls, (j, hb) :: es, acc => l.at_ = j ∧ l.n ≤ c.n ∧ (∀ o b, o < l.n → hasN (l.touched ++ acc) o = false → c.ρ o = .ptr b 0 0 → ∀ ob, h.get b = some ob → hb.get b = some ob) ∧
      (∀ o b i n cp z k, o < l.n → hasN (l.touched ++ acc) o = false → c.ρ o = .slice b i n cp z → c.φ o = some k.fam → h.get b = some (.cells k) → hb.get b = some (.cells k)) ∧ EInv c h ls es (l.touched ++ acc)
  | _, _, _ => False

theorem var_obj (hs : RSt c h s) {o b : Nat} (hb : c.ρ o = .ptr b 0 0) : ∃ k, h.get b = some (.cells k) ∧ c.φ o = some k.fam := by
  have hro := hs.obj o
  rw [hb] at hro
  generalize c.φ o = fm at hro
  generalize s.get o = u at hro
  cases hro with
  | obj cs b k xs hg hes hz hro hso hx hr => exact ⟨k, hg, rfl⟩
  | old fts es v h => cases h
  | gone v hv => exact absurd rfl (hv b 0 0)

theorem hasN_append {a b : List Nat} {o : Nat} : hasN (a ++ b) o = false ↔ hasN a o = false ∧ hasN b o = false := by
  induction a with
  | nil => simp [hasN]
  | cons x a ih =>
    simp only [List.cons_append, hasN, Bool.or_eq_false_iff, ih]
    constructor
    · rintro ⟨h1, h2, h3⟩; exact ⟨⟨h1, h2⟩, h3⟩
    · rintro ⟨⟨h1, h2⟩, h3⟩; exact ⟨h1, h2, h3⟩

/-- A variable that a step does not touch. -/
theorem var_same (hs : RSt c h s) {T : Nat → Prop} (hL : Later c h c1 h1 T) {t : List Nat} (hT : ∀ f, T f → ∃ p, p ∈ t ∧ c.φ p = some f) {o b : Nat} (ho : hasN t o = false) (hb : c.ρ o = .ptr b 0 0) {ob : VObj} : h.get b = some ob ↔ h1.get b = some ob := by
  obtain ⟨k, h2, h3⟩ := var_obj hs hb
  have : h1.get b = some (.cells k) := hL.same b _ h2 (fun ht => by
    obtain ⟨p, hp, hf⟩ := hT _ ht
    have := hs.dis o p _ h3 hf
    subst this
    rw [hasN_iff.2 hp] at ho; cases ho)
  rw [h2, this]

/-- A row that a step does not touch: what is there was there. -/
theorem row_same (hs : RSt c h s) {T : Nat → Prop} (hL : Later c h c1 h1 T) {t : List Nat} (hT : ∀ f, T f → ∃ p, p ∈ t ∧ c.φ p = some f) {o b i n z : Nat} {cp : Option Nat} {k : Blk} (hlt : o < c.n) (ho : hasN t o = false) (hb : c1.ρ o = .slice b i n cp z) (hf : c1.φ o = some k.fam) (hg : h1.get b = some (.cells k)) :
    c.ρ o = .slice b i n cp z ∧ c.φ o = some k.fam ∧ h.get b = some (.cells k) := by
  have h1' : c.ρ o = .slice b i n cp z := by rw [← hL.ρ o hlt]; exact hb
  have h2 := hL.oldφ o _ hlt hf
  refine ⟨h1', h2, ?_⟩
  have hro := hs.obj o
  rw [h1'] at hro
  generalize hfm : c.φ o = fm at hro
  rw [h2] at hfm
  subst hfm
  generalize s.get o = u at hro
  generalize hkf : some k.fam = fm at hro
  cases hro with
  | row fts es b i n cp z k0 hg0 hro hz hz' h0 hn hcp hseg =>
    simp only [Option.some.injEq] at hkf
    have : h1.get b = some (.cells k0) := hL.same b _ hg0 (fun ht => by
      obtain ⟨p, hp, hpf⟩ := hT _ ht
      have := hs.dis o p _ (by rw [h2, hkf]) hpf
      subst this
      rw [hasN_iff.2 hp] at ho; cases ho)
    rw [hg] at this
    simp only [Option.some.injEq, VObj.cells.injEq] at this
    rw [this]; exact hg0
  | rowCut => cases hkf
  | old => cases hkf
  | gone => cases hkf

theorem RInv.step (hs : RSt c h s) {T : Nat → Prop} (hL : Later c h c1 h1 T) {t : List Nat} (hT : ∀ f, T f → ∃ p, p ∈ t ∧ c.φ p = some f) : ∀ {rs : List RLog} {rv : List (Nat × Oper × Env × VV)}, RInv P c h rs rv → RInv P c1 h1 (rs.map (RLog.turn t)) rv
  | [], [], _ => trivial
  | l :: ls, (i, p, d, u) :: rv, hr => by
    obtain ⟨e1, e2, e3⟩ := hr
    refine ⟨?_, ?_, RInv.step hs hL hT e3⟩
    · unfold RLog.turn; split <;> exact e1
    · obtain ⟨at_, src, stale⟩ := l
      cases src with
      | var o =>
        simp only [RLog.turn, Bool.or_eq_false_iff]
        rintro ⟨g1, g2⟩
        obtain ⟨b, ob, q1, q2, q3, q4⟩ := e2 g1
        exact ⟨b, ob, (var_same hs hL hT g2 q4).1 q1, q2, Nat.lt_of_lt_of_le q3 hL.n, by rw [hL.ρ o q3]; exact q4⟩
      | row o => simp [RLog.turn]
      | data =>
        simp only [RLog.turn]
        intro g1
        obtain ⟨b, k, q1, q2, q3⟩ := e2 g1
        exact ⟨b, k, hL.same b _ q1 (fun ht => by obtain ⟨p, _, hf⟩ := hT _ ht; exact hs.ndK p _ hf q3), q2, hL.K _ q3⟩
      | other => intro _; exact trivial
  | [], _ :: _, hr => hr.elim
  | _ :: _, [], hr => hr.elim

theorem RInv.still (hs : RSt c h s) {T : Nat → Prop} (hL : Later c h c1 h1 T) (hT : ∀ f, ¬ T f) : ∀ {rs : List RLog} {rv : List (Nat × Oper × Env × VV)}, RInv P c h rs rv → RInv P c1 h1 rs rv
  | [], [], _ => trivial
  | l :: ls, (i, p, d, u) :: rv, hr => by
    obtain ⟨e1, e2, e3⟩ := hr
    refine ⟨e1, fun g1 => ?_, RInv.still hs hL hT e3⟩
    have := e2 g1
    obtain ⟨at_, src, stale⟩ := l
    cases src with
    | var o =>
      obtain ⟨b, ob, q1, q2, q3, q4⟩ := this
      exact ⟨b, ob, hL.same b _ q1 (hT _), q2, Nat.lt_of_lt_of_le q3 hL.n, by rw [hL.ρ _ q3]; exact q4⟩
    | row o => trivial
    | data =>
      obtain ⟨b, k, q1, q2, q3⟩ := this
      exact ⟨b, k, hL.same b _ q1 (hT _), q2, hL.K _ q3⟩
    | other => trivial
  | [], _ :: _, hr => hr.elim
  | _ :: _, [], hr => hr.elim

theorem EInv.step (hs : RSt c h s) {T : Nat → Prop} (hL : Later c h c1 h1 T) {t : List Nat} (hT : ∀ f, T f → ∃ p, p ∈ t ∧ c.φ p = some f) : ∀ {es : List ELog} {ev : List (Nat × VHeap)} {acc acc' : List Nat}, (∀ o, hasN acc' o = false → hasN acc o = false ∧ hasN t o = false) → EInv c h es ev acc → EInv c1 h1 es ev acc'
  | [], [], _, _, _, _ => trivial
  | l :: ls, (j, hb) :: ev, acc, acc', ha, hr => by
    obtain ⟨e1, e2, e3, e5, e4⟩ := hr
    have ha' : ∀ o, hasN (l.touched ++ acc') o = false → hasN (l.touched ++ acc) o = false ∧ hasN t o = false := fun o ho => by
      obtain ⟨g1, g2⟩ := hasN_append.1 ho
      obtain ⟨g3, g4⟩ := ha o g2
      exact ⟨hasN_append.2 ⟨g1, g3⟩, g4⟩
    refine ⟨e1, Nat.le_trans e2 hL.n, fun o b ho hn hb' ob hob => ?_, fun o b i n cp z k ho hn hb' hf hg => ?_, EInv.step hs hL hT ha' e4⟩
    · obtain ⟨g1, g2⟩ := ha' o hn
      rw [hL.ρ o (by omega)] at hb'
      exact e3 o b ho g1 hb' ob ((var_same hs hL hT g2 hb').2 hob)
    · obtain ⟨g1, g2⟩ := ha' o hn
      obtain ⟨w1, w2, w3⟩ := row_same hs hL hT (by omega) g2 hb' hf hg
      exact e5 o b i n cp z k ho g1 w1 w2 w3
  | [], _ :: _, _, _, _, hr => hr.elim
  | _ :: _, [], _, _, _, hr => hr.elim

theorem RD.same {g : VG} {K : Nat → Prop} {ft : FT} {d : D} {v : VV} (h : RD g K ft d v) : VV.same v v = true := by
  induction h with
  | ifc ts fts t ft d v ht h ih => simp only [VV.same, Nat.beq_refl, Bool.true_and]; exact ih
  | _ => simp [VV.same]

mutual
theorem def_same {c : Cx} {g : VG} : ∀ {u : UV} {v : VV}, RV c g u v → u.def? = true → VV.same v v = true
  | .bool b, _, h, _ => by cases h; simp [VV.same]
  | .int k n, _, h, _ => by cases h; simp [VV.same]
  | .str x, _, h, _ => by cases h; simp [VV.same]
  | .nilptr, _, h, _ => by cases h; rfl
  | .ptr _ _, _, h, _ => by cases h; simp [VV.same]
  | .eptr _ _ _, _, h, _ => by cases h; simp [VV.same]
  | .aptr _ _ _ _ _ _, _, h, _ => by cases h; simp [VV.same]
  | .fptr _ _ _ _, _, h, _ => by cases h; simp [VV.same]
  | .nilslice, _, h, _ => by cases h; rfl
  | .own _, _, h, _ => by
    cases h with
    | own _ _ ho hb hv => rcases hv with rfl | ⟨b, i, n, cp, z, rfl⟩ <;> simp [VV.same]
  | .fz _ _ _, _, h, _ => by
    cases h with
    | fz _ _ _ _ hrd hc => cases hrd <;> simp [VV.same]
  | .nn _ _, _, h, _ => by
    cases h with
    | nn _ _ _ hrd hc => cases hrd <;> simp [VV.same]
  | .nilmap, _, h, _ => by cases h; rfl
  | .map _, _, h, _ => by cases h; simp [VV.same]
  | .nilfunc, _, h, _ => by cases h; rfl
  | .pz _ _, _, h, _ => by
    cases h with
    | pz _ _ _ hrd => cases hrd <;> simp [VV.same]
  | .pn _ _ _, _, h, _ => by cases h; simp [VV.same]
  | .ifz _ _ _, _, h, _ => by
    cases h with
    | ifz _ _ _ _ hrd => exact hrd.same
  | .niliface, _, h, _ => by cases h; rfl
  | .iface t u, _, h, hd => by
    cases h with
    | iface _ _ v hv => simp only [VV.same, Nat.beq_refl, Bool.true_and]; exact def_same hv (by simpa [UV.def?] using hd)
  | .agg us, _, h, hd => by
    cases h with
    | agg _ vs hl hp => exact defs_same ⟨hl, hp⟩ (by simpa [UV.def?] using hd)
  | .tuple us, _, h, hd => by
    cases h with
    | tuple _ vs hl hp => exact defs_same ⟨hl, hp⟩ (by simpa [UV.def?] using hd)
  | .undef, _, _, hd => by simp [UV.def?] at hd
  | .func _, _, _, hd => by simp [UV.def?] at hd
theorem defs_same {c : Cx} {g : VG} : ∀ {us : List UV} {vs : List VV}, RVs c g us vs → UV.defs? us = true → VV.sames vs vs = true
  | [], vs, h, _ => by
    have := h.1
    match vs, this with
    | [], _ => rfl
  | u :: us, vs, h, hd => by
    have := h.1
    simp only [UV.defs?, Bool.and_eq_true] at hd
    match vs, this, h with
    | v :: vs, _, h => simp only [VV.sames, Bool.and_eq_true]; exact ⟨def_same h.head hd.1, defs_same h.tail hd.2⟩
end

theorem readAt_load {dst : Option Tmp} {t : TypeId} {a : Operand} {ty : TypeId} {pos : String} {after : Array Edge} {guard : Option (Nat × Bool)} {e : Env} {b i f : Nat} {ob : VObj} {v : VV} (ha : ev e a = .ptr b i f)
    (hg : h.get b = some ob) (hv : vload P t h (.ptr b i f) = some v) (hsame : VV.same v v = true) : ∀ h2 : VHeap, h2.get b = some ob → readAt P ⟨dst, .load t a, ty, pos, after, guard⟩ e v h2 = true := by
  intro h2 hb
  unfold readAt
  rw [op_load, ha]
  have : vload P t h2 (.ptr b i f) = some v := by
    rw [← hv]
    simp only [vload, rd, hg, hb]
  rw [this]
  exact hsame

theorem vload_block {t : TypeId} {b i f : Nat} {v : VV} (hv : vload P t h (.ptr b i f) = some v) : ∃ k, h.get b = some (.cells k) := by
  simp only [vload, rd] at hv
  cases hg : h.get b with
  | none => rw [hg] at hv; cases hv
  | some o => cases o with
    | cells k => exact ⟨k, rfl⟩
    | map _ => rw [hg] at hv; cases hv

/-- What a load reads, it reads as long as that stays. -/
theorem stays_of (hs : RSt c h s) {o : Oper} {e : UEnv} {e' : Env} (he : REnv c h.get e e') {v : VV} {h' : VHeap} {call : Caller} (hop : vop P call o e' h = some (v, h')) {u : UV} {c1 : Cx} (hr : RV c1 h'.get u v) (hd : u.def? = true) : Stays P c h (srcOf o e s) o e' v := by
  obtain ⟨dst, op, ty, pos, after, guard⟩ := o
  unfold srcOf Stays
  cases op with
  | load t a =>
    simp only
    rw [op_load] at hop
    simp only [Option.map_eq_some_iff, Prod.mk.injEq] at hop
    obtain ⟨v', hv, rfl, rfl⟩ := hop
    have hsame := def_same hr hd
    have ha := uev_rel he a
    cases hu : uev e a <;> simp only <;> (try trivial)
    · rename_i o f
      rw [hu] at ha
      generalize hx : ev e' a = x at ha
      cases ha with
      | ptr _ _ b ho hb =>
        rw [hx] at hv
        obtain ⟨k, hk⟩ := vload_block hv
        exact ⟨b, .cells k, hk, readAt_load hx hk hv hsame, ho, hb⟩
    · rename_i o i f
      rw [hu] at ha
      generalize hx : ev e' a = x at ha
      cases ha with
      | eptr _ _ _ b i0 n cp z ho hb hi =>
        rw [hx] at hv
        obtain ⟨k, hk⟩ := vload_block hv
        cases hs' : s.get o with
        | row fts es =>
          have hro := hs.obj o
          rw [hs', hb] at hro
          generalize hfm : c.φ o = fm at hro
          cases hro with
          | rowCut => omega
          | row _ _ _ _ _ _ _ k0 hg0 hro hz hz' h0 hn hcp hseg =>
            rw [hk] at hg0
            simp only [Option.some.injEq, VObj.cells.injEq] at hg0
            subst hg0
            exact ⟨b, k, i0, n, cp, z, hk, readAt_load hx hk hv hsame, ho, hb, hfm⟩
        | _ => trivial
    · rename_i fts o g n j f
      rw [hu] at ha
      generalize hx : ev e' a = x at ha
      cases ha with
      | aptr _ _ _ _ _ _ b ho hb hj =>
        rw [hx] at hv
        obtain ⟨k, hk⟩ := vload_block hv
        exact ⟨b, .cells k, hk, readAt_load hx hk hv hsame, ho, hb⟩
    · rename_i fts es i f
      rw [hu] at ha
      generalize hx : ev e' a = x at ha
      cases ha with
      | fptr _ _ _ _ b i0 n cp z hrd hi =>
        rw [hx] at hv
        obtain ⟨k, g1, g2, _⟩ := hrd.seg
        exact ⟨b, k, g1, readAt_load hx g1 hv hsame, g2⟩
    · rename_i fts ds f
      rw [hu] at ha
      generalize hx : ev e' a = x at ha
      cases ha with
      | pn _ _ _ b hrd =>
        rw [hx] at hv
        obtain ⟨k, g1, g2, _⟩ := hrd.ptr_inv
        exact ⟨b, k, g1, readAt_load hx g1 hv hsame, g2⟩
  | _ => trivial

theorem reads_all {bef : Nat} {o : Oper} {e : Env} {v : VV} {src : Src} (hst : Stays P c h src o e v) : ∀ {es : List ELog} {ev : List (Nat × VHeap)} {acc : List Nat}, EInv c h es ev acc → reads bef src acc es = true → (ev.all fun (j, hb) => bef.testBit j || readAt P o e v hb) = true
  | [], [], _, _, _ => rfl
  | l :: ls, (j, hb) :: ev, acc, hE, hr => by
    obtain ⟨e1, e2, e3, e5, e4⟩ := hE
    cases src with
    | row p =>
      simp only [reads, Bool.and_eq_true, Bool.or_eq_true] at hr
      obtain ⟨h1, h2⟩ := hr
      simp only [List.all_cons, Bool.and_eq_true, Bool.or_eq_true]
      refine ⟨?_, reads_all hst e4 h2⟩
      rw [← e1]
      rcases h1 with h1 | ⟨h1, h3⟩
      · exact .inl h1
      · right
        obtain ⟨b, k, i, n, cp, z, q1, q2, q3, q4, q5⟩ := hst
        exact q2 hb (e5 p b i n cp z k (Nat.le_of_ble_eq_true h1) (by simpa using h3) q4 q5 q1)
    | var p =>
      simp only [reads, Bool.and_eq_true, Bool.or_eq_true] at hr
      obtain ⟨h1, h2⟩ := hr
      simp only [List.all_cons, Bool.and_eq_true, Bool.or_eq_true]
      refine ⟨?_, reads_all hst e4 h2⟩
      rw [← e1]
      rcases h1 with h1 | ⟨h1, h3⟩
      · exact .inl h1
      · right
        obtain ⟨b, ob, q1, q2, q3, q4⟩ := hst
        exact q2 hb (e3 p b (Nat.le_of_ble_eq_true h1) (by simpa using h3) q4 ob q1)
    | data =>
      simp only [reads, Bool.and_eq_true] at hr
      simp only [List.all_cons, Bool.and_eq_true, Bool.or_eq_true]
      exact ⟨.inl (by rw [← e1]; exact hr.1), reads_all hst e4 hr.2⟩
    | other =>
      simp only [reads, Bool.and_eq_true] at hr
      simp only [List.all_cons, Bool.and_eq_true, Bool.or_eq_true]
      exact ⟨.inl (by rw [← e1]; exact hr.1), reads_all hst e4 hr.2⟩
  | [], _ :: _, _, hE, _ => hE.elim
  | _ :: _, [], _, hE, _ => hE.elim

theorem writes_all {bef : Nat} {t : List Nat} : ∀ {rs : List RLog} {rv : List (Nat × Oper × Env × VV)}, RInv P c h (rs.map (RLog.turn t)) rv → writes bef (rs.map (RLog.turn t)) = true → (rv.all fun (j, p, d, u) => bef.testBit j || readAt P p d u h) = true
  | [], [], _, _ => rfl
  | l :: ls, (i, p, d, u) :: rv, hR, hw => by
    simp only [List.map_cons] at hR hw
    obtain ⟨e1, e2, e3⟩ := hR
    simp only [writes, Bool.and_eq_true, Bool.or_eq_true, Bool.not_eq_true'] at hw
    simp only [List.all_cons, Bool.and_eq_true, Bool.or_eq_true]
    refine ⟨?_, writes_all e3 hw.2⟩
    rw [← e1]
    rcases hw.1 with h1 | h1
    · exact .inl h1
    · right
      have := e2 h1
      have hno : (RLog.turn t l).src = l.src := by unfold RLog.turn; split <;> rfl
      rw [hno] at this
      obtain ⟨at_, src, stale⟩ := l
      cases src with
      | var o => obtain ⟨b, ob, q1, q2, _⟩ := this; exact q2 h q1
      | row o => simp [RLog.turn] at h1
      | data => obtain ⟨b, k, q1, q2, _⟩ := this; exact q2 h q1
      | other => simp [RLog.turn] at h1
  | [], _ :: _, hR, _ => hR.elim
  | _ :: _, [], hR, _ => hR.elim

theorem still_touch {T : Known} {o : Oper} {e : UEnv} (hk : kindOf P o ≠ .eff) : stepTouch P T o e s = [] := by
  obtain ⟨dst, op, ty, pos, after, guard⟩ := o
  cases op with
  | store => exact absurd rfl hk
  | mapUpdate => exact absurd rfl hk
  | insert => exact absurd rfl hk
  | call cl =>
    obtain ⟨callee, args, ats⟩ := cl
    cases callee with
    | builtin b => cases b <;> first | rfl | exact absurd rfl hk
    | value f => exact absurd rfl hk
    | invoke r n => exact absurd rfl hk
  | _ => rfl

theorem udraw_rel {T : Known} {call : FuncId → List UV → USt → (UV → USt → Option R) → Option R}
    (hcall : ∀ g args s (K : UV → USt → Option R) r, call g args s K = some r → ∀ (c : Cx) (h : VHeap) vargs, RSt c h s → RVs c h.get args vargs →
      VC P seatX g vargs h fun v h' => ∃ u s1 c1, RSt c1 h' s1 ∧ RV c1 h'.get u v ∧ Later c h c1 h' (fun f => ∃ o, o ∈ callTouch T g args s ∧ c.φ o = some f) ∧ K u s1 = some r)
    {ops : Array Oper} {bef : Array Nat} : ∀ (l : List Oper) (i : Nat) (e : UEnv) (s : USt) (rs : List RLog) (es : List ELog) (K : UEnv → USt → Option R) (r : R), udraw P T call ops bef i l e s rs es K = some r →
      ∀ (c : Cx) (h : VHeap) (e' : Env) (rv : List (Nat × Oper × Env × VV)) (ev : List (Nat × VHeap)), RSt c h s → REnv c h.get e e' → RInv P c h rs rv → EInv c h es ev [] →
      WD P seatX ops bef i l e' h rv ev fun e1 h1 => ∃ u1 s1 c1, RSt c1 h1 s1 ∧ REnv c1 h1.get u1 e1 ∧ Later c h c1 h1 c.fams ∧ K u1 s1 = some r
  | [], i, e, s, rs, es, K, r, hu, c, h, e', rv, ev, hs, he, hR, hE => WD.nil ⟨e, s, c, hs, he, Later.refl _ _ _, by unfold udraw at hu; exact hu⟩
  | o :: l, i, e, s, rs, es, K, r, hu, c, h, e', rv, ev, hs, he, hR, hE => by
    have run : ∀ (e0 : UEnv), REnv c h.get e0 e' → wantedV ops o e' = some true → (match kindOf P o with
        | .read => match reads (bef.getD i 0) (srcOf o e0 s) [] es with
          | true => ustep P call o e0 s fun v s' => match v.def? with
            | true => udraw P T call ops bef (i + 1) l (e0.put o.dst v) s' (⟨i, srcOf o e0 s, false⟩ :: rs) es K
            | false => none
          | false => none
        | .eff => match writes (bef.getD i 0) (rs.map (RLog.turn (stepTouch P T o e0 s))) with
          | true => ustep P call o e0 s fun v s' => udraw P T call ops bef (i + 1) l (e0.put o.dst v) s' (rs.map (RLog.turn (stepTouch P T o e0 s))) (⟨i, stepTouch P T o e0 s, s.len⟩ :: es) K
          | false => none
        | _ => ustep P call o e0 s fun v s => udraw P T call ops bef (i + 1) l (e0.put o.dst v) s rs es K) = some r →
        WD P seatX ops bef i (o :: l) e' h rv ev fun e1 h1 => ∃ u1 s1 c1, RSt c1 h1 s1 ∧ REnv c1 h1.get u1 e1 ∧ Later c h c1 h1 c.fams ∧ K u1 s1 = some r := by
      intro e0 he0 hw hu
      refine WD.cons hw ?_
      have hT : ∀ f, c.K f → ¬ touchT P T c o e0 s f := fun f hK ⟨p, _, hp⟩ => hs.ndK p f hp hK
      have still : kindOf P o ≠ .eff → ∀ f, ¬ touchT P T c o e0 s f := fun hk f ⟨p, hp, _⟩ => by rw [still_touch hk] at hp; cases hp
      have quiet : kindOf P o ≠ .eff → kindOf P o ≠ .read → (ustep P call o e0 s fun v s => udraw P T call ops bef (i + 1) l (e0.put o.dst v) s rs es K) = some r →
          WO P seatX o e' h fun v h' => (kindOf P o = .read → (ev.all fun (j, hb) => (bef.getD i 0).testBit j || readAt P o e' v hb) = true) ∧ (kindOf P o = .eff → (rv.all fun (j, p, d, u) => (bef.getD i 0).testBit j || readAt P p d u h') = true) ∧
            WD P seatX ops bef (i + 1) l (e'.put o.dst v) h' (match kindOf P o with | .read => (i, o, e', v) :: rv | _ => rv) (match kindOf P o with | .eff => (i, h) :: ev | _ => ev)
              fun e1 h1 => ∃ u1 s1 c1, RSt c1 h1 s1 ∧ REnv c1 h1.get u1 e1 ∧ Later c h c1 h1 c.fams ∧ K u1 s1 = some r := by
        intro hk1 hk2 hu
        obtain ⟨k, v, h', e1, u, s1, c1, q1, q2, q3, q4⟩ := ustep_rel hcall hs he0 hu
        refine ⟨k, v, h', e1, fun hk => absurd hk hk2, fun hk => absurd hk hk1, ?_⟩
        have hL : Later c h c1 h' c.fams := q3.mono (fun f ⟨p, _, hp⟩ => ⟨p, hp⟩)
        have e3 : (match kindOf P o with | .read => (i, o, e', v) :: rv | _ => rv) = rv := by cases hk : kindOf P o <;> first | rfl | exact absurd hk hk2
        have e4 : (match kindOf P o with | .eff => (i, h) :: ev | _ => ev) = ev := by cases hk : kindOf P o <;> first | rfl | exact absurd hk hk1
        rw [e3, e4]
        obtain ⟨k2, e2, h2, e5, u2, s2, c2, p1, p2, p3, p4⟩ := udraw_rel hcall l _ _ s1 rs es K r q4 c1 h' _ rv ev q1 ((he0.later q3 hT).put q2 o.dst) (hR.still hs q3 (still hk1)) (hE.step (t := []) hs q3 (fun f hf => absurd hf (still hk1 f)) (fun o ho => ⟨ho, rfl⟩))
        exact ⟨k2, e2, h2, e5, u2, s2, c2, p1, p2, hL.trans' p3 hs.wf, p4⟩
      cases hk : kindOf P o with
      | pure => rw [hk] at hu; have := quiet (by rw [hk]; simp) (by rw [hk]; simp) hu; rwa [hk] at this
      | alloc => rw [hk] at hu; have := quiet (by rw [hk]; simp) (by rw [hk]; simp) hu; rwa [hk] at this
      | read =>
        rw [hk] at hu
        simp only at hu
        split at hu
        · rename_i hrd
          obtain ⟨k, v, h', e1, u, s1, c1, q1, q2, q3, q4⟩ := ustep_rel hcall hs he0 hu
          split at q4
          · rename_i hdef
            have hst := stays_of hs he0 e1 q2 hdef
            refine ⟨k, v, h', e1, fun _ => reads_all hst hE hrd, (fun hk => by cases hk), ?_⟩
            have hns := still (by rw [hk]; simp)
            have hL : Later c h c1 h' c.fams := q3.mono (fun f ⟨p, _, hp⟩ => ⟨p, hp⟩)
            simp only
            have hR' : RInv P c h (⟨i, srcOf o e0 s, false⟩ :: rs) ((i, o, e', v) :: rv) := ⟨rfl, fun _ => by
              revert hst
              cases srcOf o e0 s <;> intro hst <;> first | exact hst | exact trivial, hR⟩
            obtain ⟨k2, e2, h2, e5, u2, s2, c2, p1, p2, p3, p4⟩ := udraw_rel hcall l _ _ s1 _ es K r q4 c1 h' _ ((i, o, e', v) :: rv) ev q1 ((he0.later q3 hT).put q2 o.dst) (hR'.still hs q3 hns) (hE.step (t := []) hs q3 (fun f hf => absurd hf (hns f)) (fun o ho => ⟨ho, rfl⟩))
            exact ⟨k2, e2, h2, e5, u2, s2, c2, p1, p2, hL.trans' p3 hs.wf, p4⟩
          · cases q4
        · cases hu
      | eff =>
        rw [hk] at hu
        simp only at hu
        split at hu
        · rename_i hwr
          obtain ⟨k, v, h', e1, u, s1, c1, q1, q2, q3, q4⟩ := ustep_rel hcall hs he0 hu
          have hTt : ∀ f, touchT P T c o e0 s f → ∃ p, p ∈ stepTouch P T o e0 s ∧ c.φ p = some f := fun f hf => hf
          have hR' := hR.step (t := stepTouch P T o e0 s) hs q3 hTt
          refine ⟨k, v, h', e1, fun hk => (by cases hk), fun _ => writes_all hR' hwr, ?_⟩
          have hL : Later c h c1 h' c.fams := q3.mono (fun f ⟨p, _, hp⟩ => ⟨p, hp⟩)
          simp only
          have hE' : EInv c1 h' (⟨i, stepTouch P T o e0 s, s.len⟩ :: es) ((i, h) :: ev) [] := by
            refine ⟨rfl, by rw [hs.len]; exact q3.n, fun o2 b ho hn hb ob hob => ?_, fun o2 b i n cp z k ho hn hb hf hg => ?_, hE.step hs q3 hTt (fun o2 ho => ⟨rfl, by simpa using ho⟩)⟩
            · rw [hs.len] at ho
              rw [q3.ρ o2 ho] at hb
              exact (var_same hs q3 hTt (by simpa using hn) hb).2 hob
            · rw [hs.len] at ho
              exact (row_same hs q3 hTt ho (by simpa using hn) hb hf hg).2.2
          obtain ⟨k2, e2, h2, e5, u2, s2, c2, p1, p2, p3, p4⟩ := udraw_rel hcall l _ _ s1 _ _ K r q4 c1 h' _ rv ((i, h) :: ev) q1 ((he0.later q3 hT).put q2 o.dst) hR' hE'
          exact ⟨k2, e2, h2, e5, u2, s2, c2, p1, p2, hL.trans' p3 hs.wf, p4⟩
        · cases hu
    have skip : ∀ (e0 : UEnv), REnv c h.get e0 e' → wantedV ops o e' = some false → udraw P T call ops bef (i + 1) l (e0.put o.dst uskip) s rs es K = some r → WD P seatX ops bef i (o :: l) e' h rv ev fun e1 h1 => ∃ u1 s1 c1, RSt c1 h1 s1 ∧ REnv c1 h1.get u1 e1 ∧ Later c h c1 h1 c.fams ∧ K u1 s1 = some r := by
      intro e0 he0 hw hu
      exact WD.skip hw (udraw_rel hcall l _ _ s rs es K r hu c h _ rv ev hs (he0.put (skip_rel c h.get) o.dst) hR hE)
    unfold udraw at hu
    simp only at hu
    split at hu
    · rename_i hg
      exact run e he (wanted_none' hg) hu
    · rename_i j want hg
      split at hu
      · cases hu
      · rename_i t ht
        obtain ⟨g1, g2⟩ := guard_rel hg ht he
        split at hu
        · rename_i p hp
          obtain ⟨w1, w2⟩ := g1 p hp
          cases p with
          | true =>
            simp only [cond_true] at hu
            cases want with
            | true => exact run _ w2 w1 hu
            | false => exact skip _ w2 w1 hu
          | false =>
            simp only [cond_false] at hu
            cases want with
            | true => exact skip _ w2 w1 hu
            | false => exact run _ w2 w1 hu
        · rename_i hp
          exact skip e he (g2 hp) hu
        · cases hu

end
end Go.Proofs.YtbeiflhnogedeaaDoor.V

/- U: what it answers, V answers: the whole. -/
namespace Go.Proofs.YtbeiflhnogedeaaDoor.V

section
variable {P : Program} {R : Type}

theorem leList_iff : ∀ {l : List UV} {n : Nat}, leList l n = true → l.length ≤ n
  | [], _, _ => Nat.zero_le _
  | _ :: l, 0, h => by simp [leList] at h
  | _ :: l, n + 1, h => by simp only [leList] at h; have := leList_iff h; simp; omega

theorem args_env {c : Cx} {g : VG} {us : List UV} {vs : List VV} (h : RVs c g us vs) : REnv c g us vs := by
  intro t
  have key : ∀ (us : List UV) (t : Nat), UEnv.get us t = us.getD t .undef := by
    intro us
    induction us with
    | nil => intro t; simp [UEnv.get]
    | cons u us ih => intro t; cases t with
      | zero => simp [UEnv.get]
      | succ t => simp [UEnv.get, ih]
  rw [key]
  show RV c g _ (vs.getD t .undef)
  rw [List.getD_eq_getElem?_getD, List.getD_eq_getElem?_getD]
  by_cases ht : t < us.length
  · have ht' : t < vs.length := by rw [← h.1]; exact ht
    rw [List.getElem?_eq_getElem ht, List.getElem?_eq_getElem ht']
    exact h.2 t _ _ (List.getElem?_eq_getElem ht) (List.getElem?_eq_getElem ht')
  · rw [List.getElem?_eq_none (by omega)]
    exact .undef _

theorem uresultsL_rel {c : Cx} {h : VHeap} {s : USt} (hs : RSt c h s) {e : UEnv} {e' : Env} (he : REnv c h.get e e') : ∀ {rs : List ResultVar} {us : List UV}, uresultsL P e s rs = some us → ∃ vs, rs.mapM (vresult P e' h) = some vs ∧ RVs c h.get us vs
  | [], us, hu => by simp only [uresultsL, Option.some.injEq] at hu; subst hu; exact ⟨[], rfl, RVs.nil _ _⟩
  | r :: rs, us, hu => by
    simp only [uresultsL] at hu
    split at hu
    · rename_i v vs h1 h2
      simp only [Option.some.injEq] at hu; subst hu
      obtain ⟨ws, e1, e2⟩ := uresultsL_rel hs he h2
      have : ∃ w, vresult P e' h r = some w ∧ RV c h.get v w := by
        cases r with
        | tmp t => simp only [uresult, Option.some.injEq] at h1; subst h1; exact ⟨_, rfl, he t⟩
        | cell a t => exact uload_rel hs h1 (he a)
      obtain ⟨w, e3, e4⟩ := this
      exact ⟨w :: ws, by simp [List.mapM_cons, e3, e1], RVs.cons e4 e2⟩
    · cases hu

theorem uresults_rel {c : Cx} {h : VHeap} {s : USt} (hs : RSt c h s) {e : UEnv} {e' : Env} (he : REnv c h.get e e') {fn : Func} {u : UV} (hu : uresults P fn e s = some u) : ∃ v, vresults P fn e' h = some v ∧ RV c h.get u v := by
  unfold uresults at hu
  unfold vresults
  split at hu
  · rename_i v h1
    simp only [Option.some.injEq] at hu; subst hu
    obtain ⟨vs, e1, e2⟩ := uresultsL_rel hs he h1
    have := e2.1
    match vs, this, e1, e2 with
    | [w], _, e1, e2 => rw [e1]; exact ⟨w, rfl, e2.head⟩
  · rename_i vs hne h1
    simp only [Option.some.injEq] at hu; subst hu
    obtain ⟨ws, e1, e2⟩ := uresultsL_rel hs he h1
    rw [e1]
    have hl := e2.1
    match ws, hl, e2 with
    | [], _, e2 => exact ⟨_, rfl, RV.tuple' e2⟩
    | [w], hl, e2 =>
      have : vs.length = 1 := hl
      match vs, this with
      | [v], _ => exact absurd rfl (hne v)
    | w :: w2 :: ws, _, e2 => exact ⟨_, rfl, RV.tuple' e2⟩
  · cases hu

/-- U's run of a function that is not told. -/
def uinline (P : Program) (F : FuncId → Option (Bool × ToldF)) (Pc : Nat → Option ToldP) (k : Nat) (g : FuncId) (args : List UV) (s : USt) (K : UV → USt → Option R) : Option R :=
  match ufn P g with
  | some fn => match fn.body with
    | some c => match leList args fn.ntmps with
      | true => uexec P F k Pc 1 c args s fun x e s => match x with
        | .exit _ => none
        | _ => match uresults P fn e s with
          | some v => K v s
          | none => none
      | false => none
    | none => none
  | none => none

/-- U's run of a piece. -/
def SoundE (P : Program) (F : FuncId → Option (Bool × ToldF)) (k : Nat) : Prop :=
  ∀ (R : Type) (Pc : Nat → Option ToldP) (m p : Nat) (body code : Code) (e : UEnv) (s : USt) (K : VExit → UEnv → USt → Option R) (r : R), uexec P F k Pc p code e s K = some r → 1 ≤ p → codeAt body p = some code → SoundPc P m body Pc →
    ∀ (c : Cx) (h : VHeap) (e' : Env), m ≤ c.n → RSt c h s → REnv c h.get e e' →
    WP P seatX code e' h fun x e1 h1 => ∃ u1 s1 c1, RSt c1 h1 s1 ∧ REnv c1 h1.get u1 e1 ∧ LaterM m c h c1 h1 c.fams ∧ K x u1 s1 = some r

theorem uinline_rel {F : FuncId → Option (Bool × ToldF)} {Pc : Nat → Option ToldP} {k : Nat} (hE : SoundE P F k) {g : FuncId} {args : List UV} {s : USt} {K : UV → USt → Option R} {r : R} (hu : uinline P F Pc k g args s K = some r) {c : Cx} {h : VHeap} {vargs : List VV}
    (hPc : ∀ fn body, P.funcs[g]? = some fn → fn.body = some body → SoundPc P c.n body Pc) (hs : RSt c h s) (hr : RVs c h.get args vargs) :
    VC P seatX g vargs h fun v h' => ∃ u s1 c1, RSt c1 h' s1 ∧ RV c1 h'.get u v ∧ Later c h c1 h' c.fams ∧ K u s1 = some r := by
  unfold uinline at hu
  split at hu
  · rename_i fn hf0
    obtain ⟨hx0, hf⟩ := ufn_some hf0
    split at hu
    · rename_i code hb
      split at hu
      · rename_i hle
        refine VC.of hx0 hf hb (by rw [← hr.1]; exact leList_iff hle) ?_
        refine (hE R Pc c.n 1 code code args s _ r hu (Nat.le_refl _) rfl (hPc fn code hf hb) c h vargs (Nat.le_refl _) hs (args_env hr)).mono ?_
        rintro x e1 h1 ⟨u1, s1, c1, q1, q2, q3, q4⟩
        cases x with
        | exit n => cases q4
        | normal =>
          simp only at q4
          split at q4
          · rename_i v hv
            obtain ⟨w, w1, w2⟩ := uresults_rel q1 q2 hv
            exact ⟨trivial, w, w1, v, s1, c1, q1, w2, q3.full, q4⟩
          · cases q4
        | ret =>
          simp only at q4
          split at q4
          · rename_i v hv
            obtain ⟨w, w1, w2⟩ := uresults_rel q1 q2 hv
            exact ⟨trivial, w, w1, v, s1, c1, q1, w2, q3.full, q4⟩
          · cases q4
      · cases hu
    · cases hu
  · cases hu

theorem rangeN_mem {n o : Nat} (h : o < n) : o ∈ rangeN n := by
  induction n with
  | zero => omega
  | succ n ih =>
    simp only [rangeN, List.mem_cons]
    by_cases he : o = n
    · exact .inl he
    · exact .inr (ih (by omega))

theorem exec_rel {F : FuncId → Option (Bool × ToldF)} (hF : SoundF' P F) : ∀ k, SoundE P F k := by
  intro k
  induction k with
  | zero => intro R Pc m p body code e s K r hu; simp [uexec] at hu
  | succ k ih =>
    intro R Pc m p body code e s K r hu hp hat hPc c h e' hm hs he
    unfold uexec at hu
    split at hu
    · rename_i told htold
      exact hPc p told htold code hat R e s K r hu c h e' hm hs he
    · have sub : ∀ (b : Bool) (d : Code), codeSub code b = some d → codeAt body (2 * p + b.toNat) = some d := fun b d hd => codeAt_step hp hat b hd
      cases code with
      | skip => exact WP.skip ⟨e, s, c, hs, he, LaterM.refl hm _ _, hu⟩
      | label n => exact WP.label ⟨e, s, c, hs, he, LaterM.refl hm _ _, hu⟩
      | exit n => exact WP.exit ⟨e, s, c, hs, he, LaterM.refl hm _ _, hu⟩
      | ret => exact WP.ret ⟨e, s, c, hs, he, LaterM.refl hm _ _, hu⟩
      | region pp ops draw =>
        simp only at hu
        have hcall : ∀ g args s (K : UV → USt → Option R) r, (match F g with
            | some (own, told) => utold own told args s K
            | none => uinline P F (fun _ => none) k g args s K) = some r → ∀ (c : Cx) (h : VHeap) vargs, RSt c h s → RVs c h.get args vargs →
            VC P seatX g vargs h fun v h' => ∃ u s1 c1, RSt c1 h' s1 ∧ RV c1 h'.get u v ∧ Later c h c1 h' (fun f => ∃ o, o ∈ callTouch ⟨F, fun _ => none⟩ g args s ∧ c.φ o = some f) ∧ K u s1 = some r := by
          intro g args s K r hu c h vargs hs hr
          split at hu
          · rename_i own told hFg
            cases hX : seatX g with
            | none =>
              refine (utold_rel (hF g own told hFg) hu hs hr).mono ?_
              rintro v h' ⟨u, s1, c1, q1, q2, q3, q4⟩
              exact ⟨u, s1, c1, q1, q2, q3.mono (fun f ⟨o, ho, hf⟩ => ⟨o, by simp only [callTouch, hX, hFg]; exact ho, hf⟩), q4⟩
            | some x =>
              cases hT : seatT g with
              | true =>
                refine (utold_rel (hF g own told hFg) hu hs hr).mono ?_
                rintro v h' ⟨u, s1, c1, q1, q2, q3, q4⟩
                exact ⟨u, s1, c1, q1, q2, q3.mono (fun f ⟨o, ho, hf⟩ => ⟨o, by simp only [callTouch, hX, hT, hFg]; exact ho, hf⟩), q4⟩
              | false =>
              obtain ⟨k2, v, h', hrun, u, s1, c1, q1, q2, q3, q4⟩ := utold_rel (hF g own told hFg) hu hs hr
              have hq : x vargs h = some (v, h') := by
                have := hrun
                unfold vrun vfun at this
                rw [hX] at this
                exact this
              exact ⟨k2, v, h', hrun, u, s1, c1, q1, q2, ⟨q3.n, q3.ρ, q3.K, q3.next, fun b o hb _ => seatX_quiet hX hT _ _ _ _ hq b o hb, q3.fam, q3.mp, q3.newK, q3.newφ, q3.oldφ⟩, q4⟩
          · rename_i hFg
            have hX : seatX g = none := by
              cases hX : seatX g with
              | none => rfl
              | some x =>
                have hu' : uinline P F (fun _ => none) k g args s K = some r := hu
                unfold uinline ufn at hu'
                rw [hX] at hu'
                cases hu'
            refine (uinline_rel ih hu (fun _ _ _ _ => SoundPc.none _ _ _) hs hr).mono ?_
            rintro v h' ⟨u, s1, c1, q1, q2, q3, q4⟩
            refine ⟨u, s1, c1, q1, q2, q3.mono (fun f ⟨o, hf⟩ => ⟨o, ?_, hf⟩), q4⟩
            simp only [callTouch, hX, hFg]
            refine rangeN_mem ?_
            rcases Nat.lt_or_ge o s.len with h1 | h1
            · exact h1
            · have := hs.out (o := o) (by rw [← hs.len]; exact h1); rw [this] at hf; cases hf
        cases draw with
        | false =>
          simp only at hu
          refine WP.region ?_
          obtain ⟨k2, e2, h2, a1, u2, s2, c2, p1, p2, p3, p4⟩ := uops_rel (T := ⟨F, fun _ => none⟩) hcall ops.toList e s _ r hu c h e' hs he
          exact ⟨k2, e2, h2, a1, u2, s2, c2, p1, p2, p3.toM hm, p4⟩
        | true =>
          simp only at hu
          split at hu
          · rename_i hd
            refine WP.draw hd ?_
            obtain ⟨k2, e2, h2, a1, u2, s2, c2, p1, p2, p3, p4⟩ := udraw_rel (T := ⟨F, fun _ => none⟩) hcall ops.toList 0 e s [] [] _ r hu c h e' [] [] hs he trivial trivial
            exact ⟨k2, e2, h2, a1, u2, s2, c2, p1, p2, p3.toM hm, p4⟩
          · cases hu
      | seq a b =>
        simp only at hu
        refine WP.seq ((ih R Pc m (2 * p) body a e s _ r hu (by omega) (sub false a rfl) hPc c h e' hm hs he).mono ?_)
        rintro x e1 h1 ⟨u1, s1, c1, q1, q2, q3, q4⟩
        cases x with
        | normal =>
          simp only at q4
          refine (ih R Pc m (2 * p + 1) body b u1 s1 K r q4 (by omega) (sub true b rfl) hPc c1 h1 e1 q3.n q1 q2).mono ?_
          rintro x e2 h2 ⟨u2, s2, c2, p1, p2, p3, p4⟩
          exact ⟨u2, s2, c2, p1, p2, q3.trans p3 hs.wf, p4⟩
        | exit n => exact ⟨u1, s1, c1, q1, q2, q3, q4⟩
        | ret => exact ⟨u1, s1, c1, q1, q2, q3, q4⟩
      | cond q a b =>
        simp only at hu
        split at hu
        · rename_i t ht
          have hr := uev_rel he q
          rw [ht] at hr
          have hv : ev e' q = .bool t := by generalize ev e' q = v at hr; cases hr; rfl
          refine WP.cond t hv (fun e1 => ?_) (fun e1 => ?_)
          · subst e1; simp only [cond_true] at hu; exact ih R Pc m (2 * p) body a e s K r hu (by omega) (sub false a rfl) hPc c h e' hm hs he
          · subst e1; simp only [cond_false] at hu; exact ih R Pc m (2 * p + 1) body b e s K r hu (by omega) (sub true b rfl) hPc c h e' hm hs he
        · cases hu
      | block id b =>
        simp only at hu
        refine WP.block ((ih R Pc m (2 * p) body b e s _ r hu (by omega) (sub false b rfl) hPc c h e' hm hs he).mono ?_)
        rintro x e1 h1 ⟨u1, s1, c1, q1, q2, q3, q4⟩
        cases x with
        | normal => exact ⟨u1, s1, c1, q1, q2, q3, q4⟩
        | ret => exact ⟨u1, s1, c1, q1, q2, q3, q4⟩
        | exit n =>
          simp only at q4
          unfold Out
          simp only
          split at q4
          · rename_i hb; rw [hb]; exact ⟨u1, s1, c1, q1, q2, q3, q4⟩
          · rename_i hb; rw [hb]; exact ⟨u1, s1, c1, q1, q2, q3, q4⟩
      | loop b =>
        simp only at hu
        refine WP.loop1 ((ih R Pc m (2 * p) body b e s _ r hu (by omega) (sub false b rfl) hPc c h e' hm hs he).mono ?_)
        rintro x e1 h1 ⟨u1, s1, c1, q1, q2, q3, q4⟩
        cases x with
        | normal =>
          simp only at q4
          refine (ih R Pc m p body (.loop b) u1 s1 K r q4 hp hat hPc c1 h1 e1 q3.n q1 q2).mono ?_
          rintro x e2 h2 ⟨u2, s2, c2, p1, p2, p3, p4⟩
          exact ⟨u2, s2, c2, p1, p2, q3.trans p3 hs.wf, p4⟩
        | exit n => exact ⟨u1, s1, c1, q1, q2, q3, q4⟩
        | ret => exact ⟨u1, s1, c1, q1, q2, q3, q4⟩
      | _ => cases hu

/-- WHAT U ANSWERS, V ANSWERS. -/
theorem ufun_rel {T : Known} (hF : SoundF' P T.F) {k : Nat} {g : FuncId} {args : List UV} {s : USt} {K : UV → USt → Option R} {r : R} (hu : ufun P T k g args s K = some r) (hPc : ∀ fn body, P.funcs[g]? = some fn → fn.body = some body → SoundPc P s.len body T.Pc)
    {c : Cx} {h : VHeap} {vargs : List VV} (hs : RSt c h s) (hr : RVs c h.get args vargs) :
    VC P seatX g vargs h fun v h' => ∃ u s1 c1, RSt c1 h' s1 ∧ RV c1 h'.get u v ∧ Later c h c1 h' c.fams ∧ K u s1 = some r :=
  uinline_rel (exec_rel hF k) hu (by rw [← hs.len]; exact hPc) hs hr

end
end Go.Proofs.YtbeiflhnogedeaaDoor.V

/- U: turns of the telling alone; how loops, pieces and functions are told; laws. -/
namespace Go.Proofs.YtbeiflhnogedeaaDoor.V

inductive Gh where
  | live (m : List Bool)
  | keep (ids : List Nat)
  | ownT (t : Nat) (fts : List FT)
  | ownC (o f : Nat) (fts : List FT)
  | fzT (t : Nat) (fts : List FT)
  | fzC (o f : Nat) (fts : List FT)
  | gc
  | ownP (t : Nat) (p : List Nat) (fts : List FT)
  | fzP (t : Nat) (p : List Nat) (fts : List FT)
  | ifC (o f : Nat) (ts : List Nat) (fts : List FT)
  | ifP (t : Nat) (p : List Nat) (ts : List Nat) (fts : List FT)

def maskU : List Bool → UEnv → UEnv
  | true :: m, v :: e => v :: maskU m e
  | false :: m, _ :: e => .undef :: maskU m e
  | _ :: m, [] => .undef :: maskU m []
  | [], _ => []

def prefixN : Nat → Nat → List Nat → Bool
  | 0, _, _ => true
  | m + 1, i, a :: l => Nat.beq a i && prefixN m (i + 1) l
  | _ + 1, _, [] => false

def nthU : List UV → Nat → UV
  | [], _ => .undef
  | v :: _, 0 => v
  | _ :: l, n + 1 => nthU l n

def setU : List UV → Nat → UV → List UV
  | [], _, _ => []
  | _ :: l, 0, v => v :: l
  | x :: l, n + 1, v => x :: setU l n v

def atP : UV → List Nat → UV
  | v, [] => v
  | .agg cs, i :: p => atP (nthU cs i) p
  | .tuple cs, i :: p => atP (nthU cs i) p
  | _, _ :: _ => .undef

def setP : UV → List Nat → UV → UV
  | _, [], u => u
  | .agg cs, i :: p, u => .agg (setU cs i (setP (nthU cs i) p u))
  | .tuple cs, i :: p, u => .tuple (setU cs i (setP (nthU cs i) p u))
  | v, _ :: _, _ => v

def rangeUp : Nat → Nat → List Nat
  | 0, _ => []
  | n + 1, i => i :: rangeUp n (i + 1)

def refsOf (s : USt) : List Nat → List Nat
  | [] => []
  | o :: l => (s.get o).refs ++ refsOf s l

def gcIds (m : Nat) (e : UEnv) (s : USt) : List Nat := reach s 500 (refsOf s (rangeUp m 0) ++ UV.refsL e) (rangeUp m 0)

def noOwn : List UV → Bool
  | [] => true
  | .own _ :: _ => false
  | _ :: l => noOwn l

/-- An interface as data; and the variable that goes into it. -/
def toIf (m : Nat) (s : USt) (ts : List Nat) (fts : List FT) : UV → Option (D × Option Nat)
  | .niliface => some (.nil, none)
  | .ifz ts' fts' d => match natsEq ts ts' && FT.sames fts fts' with
    | true => some (d, none)
    | false => none
  | .iface t u => match lookT ts fts t with
    | some (.ptr fts') => match u with
      | .ptr p 0 => match s.get p with
        | .obj cs => match toDs s fts' cs, Nat.ble m p && noOwn cs with
          | some ds, true => some (.row [[.int t, .row [ds]]], some p)
          | _, _ => none
        | _ => none
      | u => match toP (.ptr fts') u with
        | some d => some (.row [[.int t, d]], none)
        | none => none
    | some ft => match toP ft u with
      | some d => some (.row [[.int t, d]], none)
      | none => none
    | none => none
  | _ => none

def dropN (p : Nat) : List Nat → List Nat
  | [] => []
  | a :: l => match Nat.beq a p with
    | true => dropN p l
    | false => a :: dropN p l

def allBut (s : USt) (p : Nat) : List Nat := dropN p (rangeUp s.len 0)

def gstep (m : Nat) : Gh → UEnv × USt → Option (UEnv × USt)
  | .live k, (e, s) => some (maskU k e, s)
  | .keep ids, (e, s) => match nodupN ids && allLt ids s.len && prefixN m 0 ids with
    | true => some (UV.picks ids e, s.pick ids ids)
    | false => none
  | .gc, (e, s) => match nodupN (gcIds m e s) && allLt (gcIds m e s) s.len && prefixN m 0 (gcIds m e s) with
    | true => some (UV.picks (gcIds m e s) e, s.pick (gcIds m e s) (gcIds m e s))
    | false => none
  | .ownT t fts, (e, s) => match e.get t with
    | .nilslice => some (e.set t (.own s.len), s.push (.row fts []))
    | _ => some (e, s)
  | .ownC o f fts, (e, s) => match s.get o with
    | .obj cs => match nthU cs f with
      | .nilslice => some (e, (s.push (.row fts [])).upd o (.obj (setU cs f (.own s.len))))
      | _ => some (e, s)
    | _ => some (e, s)
  | .fzT t fts, (e, s) => match e.get t with
    | .nilslice => some (e.set t (.fz fts [] false), s)
    | .fz fts' es _ => some (e.set t (.fz fts' es false), s)
    | .own o => match rowOf (s.get o) with
      | some (fts', es) => some (e.set t (.fz fts' es false), freeze1 s (.own o))
      | none => none
    | _ => some (e, s)
  | .fzC o f fts, (e, s) => match s.get o with
    | .obj cs => match nthU cs f with
      | .nilslice => some (e, s.upd o (.obj (setU cs f (.fz fts [] false))))
      | .fz fts' es _ => some (e, s.upd o (.obj (setU cs f (.fz fts' es false))))
      | .own p => match rowOf (s.get p) with
        | some (fts', es) => some (e, (freeze1 s (.own p)).upd o (.obj (setU cs f (.fz fts' es false))))
        | none => none
      | _ => some (e, s)
    | _ => some (e, s)
  | .ownP t p fts, (e, s) => match atP (e.get t) p with
    | .nilslice => some (e.set t (setP (e.get t) p (.own s.len)), s.push (.row fts []))
    | _ => some (e, s)
  | .fzP t p fts, (e, s) => match atP (e.get t) p with
    | .nilslice => some (e.set t (setP (e.get t) p (.fz fts [] false)), s)
    | .fz fts' es _ => some (e.set t (setP (e.get t) p (.fz fts' es false)), s)
    | .nn fts' es => some (e.set t (setP (e.get t) p (.fz fts' es false)), s)
    | .own o => match rowOf (s.get o) with
      | some (fts', es) => some (e.set t (setP (e.get t) p (.fz fts' es false)), freeze1 s (.own o))
      | none => none
    | _ => some (e, s)
  | .ifC o f ts fts, (e, s) => match s.get o with
    | .obj cs => match toIf m s ts fts (nthU cs f) with
      | some (d, none) => some (e, s.upd o (.obj (setU cs f (.ifz ts fts d))))
      | some (d, some p) =>
        match nodupN (allBut s p) && allLt (allBut s p) s.len && prefixN m 0 (allBut s p), idx (allBut s p) o with
        | true, some o2 => some (UV.picks (allBut s p) e, (s.pick (allBut s p) (allBut s p)).upd o2 (.obj (setU (UV.picks (allBut s p) cs) f (.ifz ts fts d))))
        | _, _ => none
      | none => none
    | _ => none
  | .ifP t q ts fts, (e, s) => match toIf m s ts fts (atP (e.get t) q) with
    | some (d, none) => some (e.set t (setP (e.get t) q (.ifz ts fts d)), s)
    | some (d, some p) =>
      match nodupN (allBut s p) && allLt (allBut s p) s.len && prefixN m 0 (allBut s p) with
      | true => some (UEnv.set (UV.picks (allBut s p) e) t (setP ((e.get t).pick (allBut s p)) q (.ifz ts fts d)), s.pick (allBut s p) (allBut s p))
      | false => none
    | none => none

def gsteps (m : Nat) : List Gh → UEnv × USt → Option (UEnv × USt)
  | [], q => some q
  | g :: gs, q => match gstep m g q with
    | some q => gsteps m gs q
    | none => none

/-- Which slots live: bits of a number. -/
def bitsM : Nat → Nat → List Bool
  | 0, _ => []
  | k + 1, b => Nat.beq (b % 2) 1 :: bitsM k (b / 2)

def packM : List Bool → UEnv → List UV
  | [], _ => []
  | true :: m, v :: e => v :: packM m e
  | true :: m, [] => .undef :: packM m []
  | false :: m, _ :: e => packM m e
  | false :: m, [] => packM m []

def unpackM : List Bool → List UV → UEnv
  | [], _ => []
  | true :: m, v :: vs => v :: unpackM m vs
  | true :: m, [] => .undef :: unpackM m []
  | false :: m, vs => .undef :: unpackM m vs

/-- Told by the slots that live. -/
def pkP (m : List Bool) (told : ToldP) : ToldP := fun R e s K => told R (packM m e) s K

section
variable {P : Program} {c : Cx} {h : VHeap} {s : USt}

theorem nthU_eq (l : List UV) (n : Nat) : nthU l n = l.getD n .undef := by
  induction l generalizing n with
  | nil => simp [nthU]
  | cons v l ih => cases n with
    | zero => simp [nthU]
    | succ n => simp [nthU, ih]

theorem setU_rel {g : VG} {us : List UV} {vs : List VV} (hr : RVs c g us vs) (n : Nat) {u : UV} (hu : ∀ v, vs[n]? = some v → RV c g u v) : RVs c g (setU us n u) vs := by
  induction us generalizing vs n with
  | nil => exact hr
  | cons x us ih =>
    have := hr.1
    match vs, this, hr with
    | v :: vs, _, hr =>
      cases n with
      | zero => exact RVs.cons (hu v rfl) hr.tail
      | succ n => exact RVs.cons hr.head (ih hr.tail n (fun w hw => hu w (by simpa using hw)))

theorem nth_rel {g : VG} {us : List UV} {vs : List VV} (hr : RVs c g us vs) {n : Nat} {v : VV} (hv : vs[n]? = some v) : RV c g (nthU us n) v := by
  rw [nthU_eq]
  have : n < us.length := by rw [hr.1]; exact (List.getElem?_eq_some_iff.1 hv).1
  rw [List.getD_eq_getElem?_getD, List.getElem?_eq_getElem this]
  exact hr.2 n _ v (List.getElem?_eq_getElem this) hv

theorem setU_len (l : List UV) (n : Nat) (u : UV) : (setU l n u).length = l.length := by
  induction l generalizing n with
  | nil => rfl
  | cons v l ih => cases n <;> simp [setU, ih]

theorem prefixN_get : ∀ (m i : Nat) (l : List Nat), prefixN m i l = true → m ≤ l.length ∧ ∀ j, j < m → l[j]? = some (i + j)
  | 0, _, _, _ => ⟨Nat.zero_le _, fun j hj => by omega⟩
  | m + 1, i, a :: l, h => by
    simp only [prefixN, Bool.and_eq_true] at h
    obtain ⟨h1, h2⟩ := prefixN_get m (i + 1) l h.2
    refine ⟨by simp; omega, fun j hj => ?_⟩
    cases j with
    | zero => simp [Nat.eq_of_beq_eq_true h.1]
    | succ j => simp only [List.getElem?_cons_succ]; rw [h2 j (by omega)]; congr 1; omega
  | m + 1, _, [], h => by simp [prefixN] at h

theorem pickM {m : Nat} {ids : List Nat} (hm : prefixN m 0 ids = true) : LaterM m c h (c.pick ids) h (fun _ => False) := by
  obtain ⟨h1, h2⟩ := prefixN_get m 0 ids hm
  refine ⟨h1, fun o ho => ?_, fun _ h => h, Nat.le_refl _, fun _ _ h _ => h, fun _ k h => ⟨k, h, rfl⟩, fun _ es h => ⟨es, h⟩, fun _ h => .inl h, fun o f hf => ?_, fun o f ho hf => by
    have := h2 o ho
    rw [Nat.zero_add] at this
    simpa only [Cx.pick, this] using hf⟩
  · have := h2 o ho
    rw [Nat.zero_add] at this
    exact Cx.pick_ρ this
  · obtain ⟨p, _, hp⟩ := Cx.pick_fams ⟨o, hf⟩
    exact .inr ⟨p, hp⟩

theorem get_picks (ids : List Nat) (e : UEnv) (t : Nat) : UEnv.get (UV.picks ids e) t = (UEnv.get e t).pick ids := by
  induction e generalizing t with
  | nil => simp [UV.picks, UEnv.get, UV.pick]
  | cons v e ih => cases t with
    | zero => simp [UV.picks, UEnv.get]
    | succ t => simp [UV.picks, UEnv.get, ih]

theorem get_mask : ∀ (k : List Bool) (e : UEnv) (t : Nat), UEnv.get (maskU k e) t = UEnv.get e t ∨ UEnv.get (maskU k e) t = .undef
  | [], e, t => by cases e <;> exact .inr (by simp [maskU, UEnv.get])
  | true :: k, [], 0 => .inr rfl
  | false :: k, [], 0 => .inr rfl
  | true :: k, [], t + 1 => by simpa [maskU, UEnv.get] using get_mask k [] t
  | false :: k, [], t + 1 => by simpa [maskU, UEnv.get] using get_mask k [] t
  | true :: k, v :: e, 0 => .inl rfl
  | false :: k, v :: e, 0 => .inr rfl
  | true :: k, v :: e, t + 1 => by simpa [maskU, UEnv.get] using get_mask k e t
  | false :: k, v :: e, t + 1 => by simpa [maskU, UEnv.get] using get_mask k e t

theorem LaterM.mono {m : Nat} {c' : Cx} {h' : VHeap} {T T1 : Nat → Prop} (hL : LaterM m c h c' h' T) (hT : ∀ f, T f → T1 f) : LaterM m c h c' h' T1 :=
  ⟨hL.n, hL.ρ, hL.K, hL.next, fun b o hb hn => hL.same b o hb (fun ht => hn (hT _ ht)), hL.fam, hL.mp, hL.newK, hL.newφ, hL.oldφ⟩

theorem REnv.set' {g : VG} {e : UEnv} {e' : Env} (he : REnv c g e e') (t : Nat) {u : UV} (hu : RV c g u (Env.get e' t)) : REnv c g (e.set t u) e' := by
  intro q
  rw [UEnv.get_set]
  split
  · rename_i hq; subst hq; exact hu
  · exact he q

/-- An empty row, told anew. -/
theorem addNil (hs : RSt c h s) (fts : List FT) (T : Nat → Prop) : RSt (c.add .nilslice none) h (s.push (.row fts [])) ∧ Later c h (c.add .nilslice none) h T ∧ RV (c.add .nilslice none) h.get (.own s.len) .nilslice := by
  refine ⟨hs.add hs.wf (Nat.le_refl _) (fun _ _ h => h) (fun f e => by cases e) (.rowNil fts), hs.laterAdd _ _ (Nat.le_refl _) (fun _ _ h => h) (fun f e => by cases e) T, .own _ _ ?_ ?_ (.inl rfl)⟩
  · show s.len < c.n + 1; rw [hs.len]; exact Nat.lt_succ_self _
  · show (if s.len = c.n then _ else _) = _; rw [if_pos hs.len]

theorem turn_cells (hs : RSt c h s) {o : Nat} {cs cs' : List UV} (ho : s.get o = .obj cs) (hl : cs'.length = cs.length) (hc : ∀ vs, RVs c h.get cs vs → RVs c h.get cs' vs) : RSt c h (s.upd o (.obj cs')) := by
  have hro := hs.obj o
  rw [ho] at hro
  generalize hv : c.ρ o = v at hro
  generalize hf : c.φ o = fm at hro
  cases hro with
  | obj _ b k xs hg hes hz hro hso hx hr =>
    refine hs.turn hf hs.wf (Later.refl _ _ _) ?_
    rw [hv]
    exact .obj cs' b k xs hg hes (by rw [hl]; exact hz) hro hso hx (hc xs hr)

theorem own_data (hs : RSt c h s) {p : Nat} {fts : List FT} {es : List (List D)} (hrow : rowOf (s.get p) = some (fts, es)) {v : VV} (hr : RV c h.get (.own p) v) :
    ∃ c1, RSt c1 h (freeze1 s (.own p)) ∧ Later c h c1 h (fun _ => False) ∧ RV c1 h.get (.fz fts es false) v := by
  obtain ⟨c1, s1, l1, n1, r1, p1, d1⟩ := freeze1_rel hs (.own p)
  exact ⟨c1, s1, l1, .fz fts es false v (d1 v hr (.row 0 fts) (.row es) (by simp only [toD, hrow, FT.sames_refl])) (fun e => by cases e)⟩

theorem setP_rel {c2 : Cx} {g g2 : VG} (hmono : ∀ {u : UV} {v : VV}, RV c g u v → RV c2 g2 u v) : ∀ (p : List Nat) {v : UV} {x : VV}, RV c g v x → ∃ y, RV c g (atP v p) y ∧ (atP v p ≠ .undef → ∀ u, RV c2 g2 u y → RV c2 g2 (setP v p u) x) := by
  intro p
  induction p with
  | nil => intro v x hr; exact ⟨x, hr, fun _ u hu => hu⟩
  | cons i p ih =>
    intro v x hr
    have lists : ∀ (cs : List UV) (vs : List VV), RVs c g cs vs → ∃ y, RV c g (atP (nthU cs i) p) y ∧ (atP (nthU cs i) p ≠ .undef → ∀ u, RV c2 g2 u y → RVs c2 g2 (setU cs i (setP (nthU cs i) p u)) vs) := by
      intro cs vs hl
      have hl2 : RVs c2 g2 cs vs := ⟨hl.1, fun j a b ha hb => hmono (hl.2 j a b ha hb)⟩
      cases hv : vs[i]? with
      | none =>
        have hn : nthU cs i = .undef := by
          rw [nthU_eq, List.getD_eq_getElem?_getD, List.getElem?_eq_none (by rw [hl.1]; exact List.getElem?_eq_none_iff.1 hv)]; rfl
        rw [hn]
        exact ⟨.nilptr, by cases p <;> exact .undef _, fun h => absurd (by cases p <;> rfl) h⟩
      | some w =>
        obtain ⟨y, y1, y2⟩ := ih (nth_rel hl hv)
        exact ⟨y, y1, fun hne u hu => setU_rel hl2 i (fun v' hv' => by rw [hv] at hv'; cases hv'; exact y2 hne u hu)⟩
    cases v with
    | agg cs =>
      cases hr with
      | agg _ vs hl hp =>
        obtain ⟨y, y1, y2⟩ := lists cs vs ⟨hl, hp⟩
        exact ⟨y, y1, fun hne u hu => RV.agg' (y2 hne u hu)⟩
    | tuple cs =>
      cases hr with
      | tuple _ vs hl hp =>
        obtain ⟨y, y1, y2⟩ := lists cs vs ⟨hl, hp⟩
        exact ⟨y, y1, fun hne u hu => RV.tuple' (y2 hne u hu)⟩
    | _ => exact ⟨.nilptr, .undef _, fun h => absurd rfl h⟩

theorem dropN_mem {p x : Nat} : ∀ {l : List Nat}, x ∈ dropN p l → x ∈ l ∧ x ≠ p
  | [], h => by cases h
  | a :: l, h => by
    unfold dropN at h
    split at h
    · obtain ⟨h1, h2⟩ := dropN_mem h
      exact ⟨List.mem_cons_of_mem _ h1, h2⟩
    · rename_i hb
      rcases List.mem_cons.1 h with rfl | h
      · exact ⟨List.mem_cons_self, by rintro rfl; rw [Nat.beq_refl] at hb; cases hb⟩
      · obtain ⟨h1, h2⟩ := dropN_mem h
        exact ⟨List.mem_cons_of_mem _ h1, h2⟩

/-- More is data. -/
def Cx.more (c : Cx) (f : Nat) : Cx := ⟨c.n, c.ρ, fun x => c.K x ∨ x = f, c.φ⟩

theorem RV.sameK {c c2 : Cx} {g : VG} (hn : c.n = c2.n) (hρ : c.ρ = c2.ρ) (hK : ∀ f, c.K f → c2.K f) {u : UV} {v : VV} (hr : RV c g u v) : RV c2 g u v := by
  have hk : Keeps g c.K g c2.K := ⟨fun _ _ h _ => h, hK⟩
  induction hr with
  | undef v => exact .undef v
  | bool b => exact .bool b
  | int k n => exact .int k n
  | str s => exact .str s
  | nilptr => exact .nilptr
  | ptr o f b ho h => exact .ptr o f b (by rw [← hn]; exact ho) (by rw [← hρ]; exact h)
  | aptr fts o g n j f b ho h hj => exact .aptr fts o g n j f b (by rw [← hn]; exact ho) (by rw [← hρ]; exact h) hj
  | eptr o i f b i0 n cp z ho h hi => exact .eptr o i f b i0 n cp z (by rw [← hn]; exact ho) (by rw [← hρ]; exact h) hi
  | fptr fts es i f b i0 n cp z h hi => exact .fptr fts es i f b i0 n cp z (h.keep hk) hi
  | nilslice => exact .nilslice
  | own o v ho h hv => exact .own o v (by rw [← hn]; exact ho) (by rw [← hρ]; exact h) hv
  | fz fts es cut v h hc => exact .fz fts es cut v (h.keep hk) hc
  | nn fts es v h hv => exact .nn fts es v (h.keep hk) hv
  | nilmap => exact .nilmap
  | map o b ho h => exact .map o b (by rw [← hn]; exact ho) (by rw [← hρ]; exact h)
  | nilfunc => exact .nilfunc
  | func f => exact .func f
  | pz fts d v h => exact .pz fts d v (h.keep hk)
  | pn fts ds f b h => exact .pn fts ds f b (h.keep hk)
  | ifz ts fts d v h => exact .ifz ts fts d v (h.keep hk)
  | niliface => exact .niliface
  | iface t u v _ ih => exact .iface t u v ih
  | agg us vs hl _ ih => exact .agg us vs hl ih
  | tuple us vs hl _ ih => exact .tuple us vs hl ih

theorem RO.moreK {c c2 : Cx} {g : VG} (hn : c.n = c2.n) (hρ : c.ρ = c2.ρ) (hK : ∀ f, c.K f → c2.K f) {u : UO} {v : VV} {fm : Option Nat} (hr : RO c g u v fm) : RO c2 g u v fm := by
  have hk : Keeps g c.K g c2.K := ⟨fun _ _ h _ => h, hK⟩
  cases hr with
  | obj cs b k xs hg hes hz hro hso hx hr => exact .obj cs b k xs hg hes hz hro hso hx ⟨hr.1, fun i u v a b => (hr.2 i u v a b).sameK hn hρ hK⟩
  | rowNil fts => exact .rowNil fts
  | rowCut fts b i z k hg hK' hz hz' h0 hi => exact .rowCut fts b i z k hg (hK _ hK') hz hz' h0 hi
  | row fts es b i n cp z k hg hro hz hz' h0 hn hcp hs => exact .row fts es b i n cp z k hg hro hz hz' h0 hn hcp (hs.keep hk)
  | old fts es v h => exact .old fts es v (h.keep hk)
  | map kf ag fts es b ves hg hk' hl h =>
    refine .map kf ag fts es b ves hg hk' hl fun i p q a b => ?_
    obtain ⟨h1, xs, h2, h3⟩ := h i p q a b
    exact ⟨h1.keep hk, xs, h2, h3.keep hk⟩
  | gone v hv => exact .gone v hv

/-- A family that no object has is data from now on. -/
theorem RSt.more (hs : RSt c h s) {f : Nat} (hf : ∀ o, c.φ o ≠ some f) (hlt : f < h.next) : RSt (c.more f) h s :=
  ⟨hs.wf, hs.len, fun o => RO.moreK (c := c) (c2 := c.more f) rfl rfl (fun x (h : c.K x) => (Or.inl h : c.K x ∨ x = f)) (hs.obj o), hs.dis, fun o x ho hK => by
    rcases hK with hK | rfl
    · exact hs.ndK o x ho hK
    · exact hf o ho, hs.ltφ, fun x hx => by
    rcases hx with hx | rfl
    · exact hs.ltK x hx
    · exact hlt, hs.und⟩

theorem noOwn_not {us : List UV} (hn : noOwn us = true) : ∀ o, UV.own o ∉ us := by
  induction us with
  | nil => intro o h; cases h
  | cons u us ih =>
    have h2 : noOwn us = true ∧ ∀ o, u ≠ .own o := by
      cases u <;> simp [noOwn] at hn ⊢ <;> exact hn
    intro o h
    rcases List.mem_cons.1 h with h | h
    · exact h2.2 o h.symm
    · exact ih h2.1 o h

theorem freeze_none {us : List UV} (hn : noOwn us = true) : freeze s us = s := by
  induction us with
  | nil => rfl
  | cons u us ih =>
    have h2 : noOwn us = true ∧ freeze1 s u = s := by
      cases u <;> simp [noOwn] at hn ⊢ <;> first | exact ⟨hn, rfl⟩ | rfl
    simp only [freeze]
    rw [h2.2]; exact ih h2.1

theorem toDs_none {us : List UV} {vs : List VV} {fts : List FT} {ds : List D} (hn : noOwn us = true) (hr : RVs c h.get us vs) (hd : toDs s fts us = some ds) : RDL h.get c.K fts ds vs := by
  refine toDs_pt hd hr.1 (fun i u v hu hv ft d hd => ?_)
  have hno : ∀ o, u ≠ .own o := fun o e => noOwn_not hn o (e ▸ List.mem_of_getElem? hu)
  exact toD_rel hno (hr.2 i u v hu hv) hd

theorem toIf_none {g : VG} {m : Nat} {ts : List Nat} {fts : List FT} {u : UV} {d : D} {v : VV} (h : toIf m s ts fts u = some (d, none)) (hr : RV c g u v) : RD g c.K (.ifc ts fts) d v := by
  unfold toIf at h
  split at h
  · simp only [Option.some.injEq, Prod.mk.injEq, and_true] at h; subst h; cases hr; exact .inil _ _
  · split at h
    · rename_i hk
      simp only [Option.some.injEq, Prod.mk.injEq, and_true] at h; subst h
      simp only [Bool.and_eq_true] at hk
      have := FT.sames_eq _ _ hk.2; subst this
      have := natsEq_eq _ _ hk.1; subst this
      cases hr with
      | ifz _ _ _ _ hrd => exact hrd
    · cases h
  · rename_i t u'
    cases hr with
    | iface _ _ v' hr' =>
      split at h
      · rename_i fts' hl
        split at h
        · split at h
          · split at h
            · simp at h
            · cases h
          · cases h
        · split at h
          · rename_i d' hp
            simp only [Option.some.injEq, Prod.mk.injEq, and_true] at h; subst h
            exact .ifc _ _ t _ d' v' hl (toP_rel hp hr')
          · cases h
      · rename_i ft _ hl
        split at h
        · rename_i d' hp
          simp only [Option.some.injEq, Prod.mk.injEq, and_true] at h; subst h
          exact .ifc _ _ t _ d' v' hl (toP_rel hp hr')
        · cases h
      · cases h
  · cases h

theorem toIf_some {m p : Nat} {ts : List Nat} {fts : List FT} {u : UV} {d : D} (h : toIf m s ts fts u = some (d, some p)) :
    ∃ t fts' cs ds, u = .iface t (.ptr p 0) ∧ lookT ts fts t = some (.ptr fts') ∧ s.get p = .obj cs ∧ toDs s fts' cs = some ds ∧ noOwn cs = true ∧ d = .row [[.int t, .row [ds]]] := by
  unfold toIf at h
  split at h
  · simp at h
  · split at h <;> simp at h
  · rename_i t u'
    split at h
    · rename_i fts' hl
      split at h
      · rename_i q
        split at h
        · rename_i cs hcs
          split at h
          · rename_i ds hds hb
            simp only [Option.some.injEq, Prod.mk.injEq] at h
            obtain ⟨rfl, rfl⟩ := h
            simp only [Bool.and_eq_true] at hb
            exact ⟨t, fts', cs, ds, rfl, hl, hcs, hds, hb.2, rfl⟩
          · cases h
        · cases h
      · split at h <;> simp at h
    · split at h <;> simp at h
    · cases h
  · cases h

theorem nthU_picks (ids : List Nat) (us : List UV) (n : Nat) : nthU (UV.picks ids us) n = (nthU us n).pick ids := by
  induction us generalizing n with
  | nil => simp [UV.picks, nthU, UV.pick]
  | cons v us ih => cases n with
    | zero => simp [UV.picks, nthU]
    | succ n => simp [UV.picks, nthU, ih]

/-- setP in a value whose objects have new numbers. -/
theorem setP_pick {c2 : Cx} {g : VG} {ids : List Nat} (hmono : ∀ {u : UV} {v : VV}, RV c g u v → RV c2 g (u.pick ids) v) : ∀ (p : List Nat) {v : UV} {x : VV}, RV c g v x → ∃ y, RV c g (atP v p) y ∧ (atP v p ≠ .undef → ∀ u, RV c2 g u y → RV c2 g (setP (v.pick ids) p u) x) := by
  intro p
  induction p with
  | nil => intro v x hr; exact ⟨x, hr, fun _ u hu => by cases hv : v.pick ids <;> exact hu⟩
  | cons i p ih =>
    intro v x hr
    have lists : ∀ (cs : List UV) (vs : List VV), RVs c g cs vs → ∃ y, RV c g (atP (nthU cs i) p) y ∧ (atP (nthU cs i) p ≠ .undef → ∀ u, RV c2 g u y → RVs c2 g (setU (UV.picks ids cs) i (setP (nthU (UV.picks ids cs) i) p u)) vs) := by
      intro cs vs hl
      have hl2 : RVs c2 g (UV.picks ids cs) vs := by
        refine ⟨by rw [picks_len]; exact hl.1, fun j a b ha hb => ?_⟩
        have hj : j < cs.length := by rw [hl.1]; exact (List.getElem?_eq_some_iff.1 hb).1
        have e1 : nthU (UV.picks ids cs) j = a := by rw [nthU_eq, List.getD_eq_getElem?_getD, ha]; rfl
        rw [← e1, nthU_picks]
        exact hmono (nth_rel hl hb)
      cases hv : vs[i]? with
      | none =>
        have hn : nthU cs i = .undef := by
          rw [nthU_eq, List.getD_eq_getElem?_getD, List.getElem?_eq_none (by rw [hl.1]; exact List.getElem?_eq_none_iff.1 hv)]; rfl
        rw [hn]
        exact ⟨.nilptr, by cases p <;> exact .undef _, fun h => absurd (by cases p <;> rfl) h⟩
      | some w =>
        obtain ⟨y, y1, y2⟩ := ih (nth_rel hl hv)
        exact ⟨y, y1, fun hne u hu => setU_rel hl2 i (fun v' hv' => by rw [hv] at hv'; cases hv'; rw [nthU_picks]; exact y2 hne u hu)⟩
    cases v with
    | agg cs =>
      cases hr with
      | agg _ vs hl hp =>
        obtain ⟨y, y1, y2⟩ := lists cs vs ⟨hl, hp⟩
        exact ⟨y, y1, fun hne u hu => by simp only [UV.pick, setP]; exact RV.agg' (y2 hne u hu)⟩
    | tuple cs =>
      cases hr with
      | tuple _ vs hl hp =>
        obtain ⟨y, y1, y2⟩ := lists cs vs ⟨hl, hp⟩
        exact ⟨y, y1, fun hne u hu => by simp only [UV.pick, setP]; exact RV.tuple' (y2 hne u hu)⟩
    | _ => exact ⟨.nilptr, .undef _, fun h => absurd rfl h⟩

/-- A variable that goes into data: what is left. -/
theorem swallow (hs : RSt c h s) {m p : Nat} (hm : m ≤ c.n) {ids : List Nat} (hok : (nodupN ids && allLt ids s.len && prefixN m 0 ids) = true) (hp : p ∉ ids) {cs : List UV} {fts : List FT} {ds : List D} (hcs : s.get p = .obj cs) (hn : noOwn cs = true) (hd : toDs s fts cs = some ds) :
    ∃ c2, RSt c2 h (s.pick ids ids) ∧ LaterM m c h c2 h c.fams ∧ (∀ {u : UV} {v : VV}, RV c h.get u v → RV c2 h.get (u.pick ids) v) ∧ (∀ v, RV c h.get (.ptr p 0) v → RD h.get c2.K (.ptr fts) (.row [ds]) v) ∧
      (∀ j o, ids[j]? = some o → c2.ρ j = c.ρ o) ∧ (∀ f, c.K f → c2.K f) := by
  simp only [Bool.and_eq_true] at hok
  have hnd := nodupN_iff hok.1.1
  have hro := hs.obj p
  rw [hcs] at hro
  generalize hv : c.ρ p = v at hro
  generalize hf : c.φ p = fm at hro
  cases hro with
  | obj _ b k xs hg hes hz hro hso hx hr =>
    have hpk := hs.pick hnd
    have hno : ∀ o, (c.pick ids).φ o ≠ some k.fam := by
      intro o ho
      obtain ⟨q, hq, hqf⟩ := Cx.pick_fams ⟨o, ho⟩
      have := hs.dis q p _ hqf hf
      subst this
      exact hp hq
    have hmono : ∀ {u : UV} {v : VV}, RV c h.get u v → RV ((c.pick ids).more k.fam) h.get (u.pick ids) v := fun hr => RV.sameK (c := c.pick ids) (c2 := (c.pick ids).more k.fam) rfl rfl (fun f (hf : (c.pick ids).K f) => (Or.inl hf : (c.pick ids).K f ∨ f = k.fam)) hr.pick
    refine ⟨(c.pick ids).more k.fam, hpk.more hno (hs.ltφ p _ hf), ?_, hmono, ?_, fun j o hj => Cx.pick_ρ hj, fun f hf => Or.inl hf⟩
    · have h1 : LaterM m c h (c.pick ids) h c.fams := (pickM hok.2).mono (fun _ h => h.elim)
      refine ⟨h1.n, h1.ρ, fun f hf => Or.inl (h1.K f hf), h1.next, h1.same, h1.fam, h1.mp, fun f hf => ?_, h1.newφ, h1.oldφ⟩
      rcases hf with hf | rfl
      · exact h1.newK f hf
      · exact .inr (.inr ⟨p, hf⟩)
    · intro w hw
      cases hw with
      | ptr _ _ b' ho hb' =>
        rw [hv] at hb'; cases hb'
        have hrdl := toDs_none hn hr hd
        have hk : Keeps h.get c.K h.get ((c.pick ids).more k.fam).K := ⟨fun _ _ h _ => h, fun f hf => Or.inl hf⟩
        have hrdl := hrdl.keep hk
        exact .ptr fts ds b k xs hg (Or.inr rfl) hes hrdl.len hrdl.lenv hrdl.at_

theorem allBut_not (s : USt) (p : Nat) : p ∉ allBut s p := fun h => (dropN_mem h).2 rfl

theorem gstep_rel {m : Nat} {g : Gh} {e e2 : UEnv} {s2 : USt} {e' : Env} (hm : m ≤ c.n) (hs : RSt c h s) (he : REnv c h.get e e') (hg : gstep m g (e, s) = some (e2, s2)) : ∃ c2, RSt c2 h s2 ∧ REnv c2 h.get e2 e' ∧ LaterM m c h c2 h c.fams := by
  have base : ∃ c2, RSt c2 h s ∧ REnv c2 h.get e e' ∧ LaterM m c h c2 h c.fams := ⟨c, hs, he, LaterM.refl hm _ _⟩
  cases g with
  | live k =>
    simp only [gstep, Option.some.injEq, Prod.mk.injEq] at hg
    obtain ⟨rfl, rfl⟩ := hg
    refine ⟨c, hs, fun t => ?_, LaterM.refl hm _ _⟩
    rcases get_mask k e t with h1 | h1 <;> rw [h1]
    · exact he t
    · exact .undef _
  | keep ids =>
    simp only [gstep] at hg
    split at hg
    · rename_i hok
      simp only [Bool.and_eq_true] at hok
      simp only [Option.some.injEq, Prod.mk.injEq] at hg
      obtain ⟨rfl, rfl⟩ := hg
      exact ⟨c.pick ids, hs.pick (nodupN_iff hok.1.1), fun t => by rw [get_picks]; exact (he t).pick, (pickM hok.2).mono (fun _ h => h.elim)⟩
    · cases hg
  | gc =>
    simp only [gstep] at hg
    split at hg
    · rename_i hok
      simp only [Bool.and_eq_true] at hok
      simp only [Option.some.injEq, Prod.mk.injEq] at hg
      obtain ⟨rfl, rfl⟩ := hg
      exact ⟨c.pick _, hs.pick (nodupN_iff hok.1.1), fun t => by rw [get_picks]; exact (he t).pick, (pickM hok.2).mono (fun _ h => h.elim)⟩
    · cases hg
  | ownT t fts =>
    simp only [gstep] at hg
    split at hg
    · rename_i ht
      simp only [Option.some.injEq, Prod.mk.injEq] at hg
      obtain ⟨rfl, rfl⟩ := hg
      obtain ⟨a1, a2, a3⟩ := addNil hs fts (fun _ => False)
      refine ⟨_, a1, (he.later a2 (fun _ _ h => h)).set' t ?_, (a2.mono (fun _ h => h.elim)).toM hm⟩
      have := he t
      rw [ht] at this
      generalize Env.get e' t = v at this ⊢
      cases this
      exact a3
    · simp only [Option.some.injEq, Prod.mk.injEq] at hg; obtain ⟨rfl, rfl⟩ := hg; exact base
  | ownC o f fts =>
    simp only [gstep] at hg
    split at hg
    · rename_i cs hcs
      split at hg
      · rename_i hf
        simp only [Option.some.injEq, Prod.mk.injEq] at hg
        obtain ⟨rfl, rfl⟩ := hg
        obtain ⟨a1, a2, a3⟩ := addNil hs fts (fun _ => False)
        have hlt : o < s.len := USt.lt_len (by rw [hcs]; simp)
        have hget : (s.push (.row fts [])).get o = .obj cs := by rw [USt.get_push, if_neg (by omega)]; exact hcs
        refine ⟨_, turn_cells a1 hget (setU_len _ _ _) (fun vs hvs => ?_), he.later a2 (fun _ _ h => h), (a2.mono (fun _ h => h.elim)).toM hm⟩
        refine setU_rel hvs f (fun v hv => ?_)
        have := nth_rel hvs hv
        rw [hf] at this
        cases this
        exact a3
      · simp only [Option.some.injEq, Prod.mk.injEq] at hg; obtain ⟨rfl, rfl⟩ := hg; exact base
    · simp only [Option.some.injEq, Prod.mk.injEq] at hg; obtain ⟨rfl, rfl⟩ := hg; exact base
  | fzT t fts =>
    simp only [gstep] at hg
    split at hg
    · rename_i ht
      simp only [Option.some.injEq, Prod.mk.injEq] at hg
      obtain ⟨rfl, rfl⟩ := hg
      refine ⟨c, hs, he.set' t ?_, LaterM.refl hm _ _⟩
      have := he t
      rw [ht] at this
      generalize Env.get e' t = v at this ⊢
      cases this
      exact .fz fts [] false _ (.row0 0 fts) (fun e => by cases e)
    · rename_i fts' es cut ht
      simp only [Option.some.injEq, Prod.mk.injEq] at hg
      obtain ⟨rfl, rfl⟩ := hg
      refine ⟨c, hs, he.set' t ?_, LaterM.refl hm _ _⟩
      have := he t
      rw [ht] at this
      cases this with
      | fz _ _ _ _ hrd hc => exact .fz fts' es false _ hrd (fun e => by cases e)
    · rename_i o ht
      split at hg
      · rename_i fts' es hrow
        simp only [Option.some.injEq, Prod.mk.injEq] at hg
        obtain ⟨rfl, rfl⟩ := hg
        have := he t
        rw [ht] at this
        obtain ⟨c1, a1, a2, a3⟩ := own_data hs hrow this
        exact ⟨c1, a1, (he.later a2 (fun _ _ h => h)).set' t a3, (a2.mono (fun _ h => h.elim)).toM hm⟩
      · cases hg
    · simp only [Option.some.injEq, Prod.mk.injEq] at hg; obtain ⟨rfl, rfl⟩ := hg; exact base
  | fzC o f fts =>
    simp only [gstep] at hg
    split at hg
    · rename_i cs hcs
      split at hg
      · rename_i hf
        simp only [Option.some.injEq, Prod.mk.injEq] at hg
        obtain ⟨rfl, rfl⟩ := hg
        refine ⟨c, turn_cells hs hcs (setU_len _ _ _) (fun vs hvs => setU_rel hvs f (fun v hv => ?_)), he, LaterM.refl hm _ _⟩
        have := nth_rel hvs hv
        rw [hf] at this
        cases this
        exact .fz fts [] false _ (.row0 0 fts) (fun e => by cases e)
      · rename_i fts' es cut hf
        simp only [Option.some.injEq, Prod.mk.injEq] at hg
        obtain ⟨rfl, rfl⟩ := hg
        refine ⟨c, turn_cells hs hcs (setU_len _ _ _) (fun vs hvs => setU_rel hvs f (fun v hv => ?_)), he, LaterM.refl hm _ _⟩
        have := nth_rel hvs hv
        rw [hf] at this
        cases this with
        | fz _ _ _ _ hrd hc => exact .fz fts' es false _ hrd (fun e => by cases e)
      · rename_i p hf
        split at hg
        · rename_i fts' es hrow
          simp only [Option.some.injEq, Prod.mk.injEq] at hg
          obtain ⟨rfl, rfl⟩ := hg
          -- what lies there
          have hro := hs.obj o
          rw [hcs] at hro
          obtain ⟨c1, s1, l1, n1, r1, p1, d1⟩ := freeze1_rel hs (.own p)
          have hget : (freeze1 s (.own p)).get o = .obj cs := by
            by_cases hpo : p = o
            · subst hpo; rw [hcs] at hrow; cases hrow
            · rw [freeze1_get (by intro e; cases e; exact hpo rfl)]; exact hcs
          generalize hv : c.ρ o = v at hro
          generalize hfm : c.φ o = fm at hro
          cases hro with
          | obj _ b k xs hgb hes hz hrok hso hx hr =>
            refine ⟨c1, ?_, he.later l1 (fun _ _ h => h), (l1.mono (fun _ h => h.elim)).toM hm⟩
            have hro1 := s1.obj o
            rw [hget, r1, hv] at hro1
            generalize hfm1 : c1.φ o = fm1 at hro1
            cases hro1 with
            | obj _ _ k1 xs1 hgb1 hes1 hz1 hrok1 hso1 hx1 hr1 =>
              rw [hgb] at hgb1
              simp only [Option.some.injEq, VObj.cells.injEq] at hgb1
              subst hgb1
              rw [hes] at hes1
              simp only [List.cons.injEq, and_true] at hes1
              subst hes1
              refine s1.turn hfm1 s1.wf (Later.refl _ _ _) ?_
              rw [r1, hv]
              refine .obj _ b k xs hgb hes (by rw [setU_len]; exact hz) hrok hso hx (setU_rel hr1 f (fun w hw => ?_))
              have h2 := nth_rel hr hw
              rw [hf] at h2
              exact .fz fts' es false w (d1 w h2 (.row 0 fts') (.row es) (by simp only [toD, hrow, FT.sames_refl])) (fun e => by cases e)
        · cases hg
      · simp only [Option.some.injEq, Prod.mk.injEq] at hg; obtain ⟨rfl, rfl⟩ := hg; exact base
    · simp only [Option.some.injEq, Prod.mk.injEq] at hg; obtain ⟨rfl, rfl⟩ := hg; exact base
  | ownP t p fts =>
    simp only [gstep] at hg
    split at hg
    · rename_i ht
      simp only [Option.some.injEq, Prod.mk.injEq] at hg
      obtain ⟨rfl, rfl⟩ := hg
      obtain ⟨a1, a2, a3⟩ := addNil hs fts (fun _ => False)
      obtain ⟨y, y1, y2⟩ := setP_rel (g := h.get) (g2 := h.get) (fun hr => hr.later a2 (fun _ _ h => h)) p (he t)
      rw [ht] at y1 y2
      cases y1
      exact ⟨_, a1, (he.later a2 (fun _ _ h => h)).set' t (y2 (by simp) _ a3), (a2.mono (fun _ h => h.elim)).toM hm⟩
    · simp only [Option.some.injEq, Prod.mk.injEq] at hg; obtain ⟨rfl, rfl⟩ := hg; exact base
  | fzP t p fts =>
    simp only [gstep] at hg
    split at hg
    · rename_i ht
      simp only [Option.some.injEq, Prod.mk.injEq] at hg
      obtain ⟨rfl, rfl⟩ := hg
      obtain ⟨y, y1, y2⟩ := setP_rel (c2 := c) (g := h.get) (g2 := h.get) (fun hr => hr) p (he t)
      rw [ht] at y1 y2
      cases y1
      exact ⟨c, hs, he.set' t (y2 (by simp) _ (.fz fts [] false _ (.row0 0 fts) (fun e => by cases e))), LaterM.refl hm _ _⟩
    · rename_i fts' es cut ht
      simp only [Option.some.injEq, Prod.mk.injEq] at hg
      obtain ⟨rfl, rfl⟩ := hg
      obtain ⟨y, y1, y2⟩ := setP_rel (c2 := c) (g := h.get) (g2 := h.get) (fun hr => hr) p (he t)
      rw [ht] at y1 y2
      cases y1 with
      | fz _ _ _ _ hrd hc => exact ⟨c, hs, he.set' t (y2 (by simp) _ (.fz fts' es false _ hrd (fun e => by cases e))), LaterM.refl hm _ _⟩
    · rename_i fts' es ht
      simp only [Option.some.injEq, Prod.mk.injEq] at hg
      obtain ⟨rfl, rfl⟩ := hg
      obtain ⟨y, y1, y2⟩ := setP_rel (c2 := c) (g := h.get) (g2 := h.get) (fun hr => hr) p (he t)
      rw [ht] at y1 y2
      cases y1 with
      | nn _ _ _ hrd hv => exact ⟨c, hs, he.set' t (y2 (by simp) _ (.fz fts' es false _ hrd (fun e => by cases e))), LaterM.refl hm _ _⟩
    · rename_i o ht
      split at hg
      · rename_i fts' es hrow
        simp only [Option.some.injEq, Prod.mk.injEq] at hg
        obtain ⟨rfl, rfl⟩ := hg
        obtain ⟨c1, s1, l1, n1, r1, p1, d1⟩ := freeze1_rel hs (.own o)
        obtain ⟨y, y1, y2⟩ := setP_rel (g := h.get) (g2 := h.get) (fun hr => hr.later l1 (fun _ _ h => h)) p (he t)
        rw [ht] at y1 y2
        exact ⟨c1, s1, (he.later l1 (fun _ _ h => h)).set' t (y2 (by simp) _ (.fz fts' es false y (d1 y y1 (.row 0 fts') (.row es) (by simp only [toD, hrow, FT.sames_refl])) (fun e => by cases e))), (l1.mono (fun _ h => h.elim)).toM hm⟩
      · cases hg
    · simp only [Option.some.injEq, Prod.mk.injEq] at hg; obtain ⟨rfl, rfl⟩ := hg; exact base
  | ifC o f ts fts =>
    simp only [gstep] at hg
    split at hg
    · rename_i cs hcs
      split at hg
      · rename_i d hd
        simp only [Option.some.injEq, Prod.mk.injEq] at hg
        obtain ⟨rfl, rfl⟩ := hg
        refine ⟨c, turn_cells hs hcs (setU_len _ _ _) (fun vs hvs => ?_), he, LaterM.refl hm _ _⟩
        exact setU_rel hvs f (fun v hv => .ifz _ _ _ _ (toIf_none hd (nth_rel hvs hv)))
      · rename_i d p hd
        split at hg
        · rename_i o2 hok hidx
          simp only [Option.some.injEq, Prod.mk.injEq] at hg
          obtain ⟨rfl, rfl⟩ := hg
          obtain ⟨t, fts', ps, ds, hu, hl, hps, hds, hno, rfl⟩ := toIf_some hd
          obtain ⟨c2, r1, r2, r3, r4, r5, r6⟩ := swallow hs hm hok (allBut_not s p) hps hno hds
          have hj := idx_some hidx
          have hget : (s.pick (allBut s p) (allBut s p)).get o2 = .obj (UV.picks (allBut s p) cs) := by
            rw [pick_get, hj]; simp only [hcs, UO.pick]
          have hro := hs.obj o
          rw [hcs] at hro
          generalize hv : c.ρ o = v at hro
          generalize hf : c.φ o = fm at hro
          cases hro with
          | obj _ b k xs hg hes hz hro hso hx hr =>
            refine ⟨c2, ?_, fun q => by rw [get_picks]; exact r3 (he q), r2⟩
            have hro2 := r1.obj o2
            rw [hget, r5 o2 o hj, hv] at hro2
            generalize hf2 : c2.φ o2 = fm2 at hro2
            cases hro2 with
            | obj _ b' k' xs' hg' hes' hz' hro' hso' hx' hr' =>
              rw [hg] at hg'; cases hg'
              rw [hes] at hes'
              simp only [List.cons.injEq, and_true] at hes'; subst hes'
              refine r1.turn hf2 r1.wf (Later.refl _ _ _) ?_
              rw [r5 o2 o hj, hv]
              refine .obj _ b k xs hg hes (by rw [setU_len]; exact hz') hro hso hx (setU_rel hr' f (fun w hw => ?_))
              have hw2 := nth_rel hr hw
              rw [hu] at hw2
              cases hw2 with
              | iface _ _ w' hw' => exact .ifz _ _ _ _ (.ifc ts fts t (.ptr fts') _ w' hl (r4 w' hw'))
        · cases hg
      · cases hg
    · cases hg
  | ifP t q ts fts =>
    simp only [gstep] at hg
    split at hg
    · rename_i d hd
      simp only [Option.some.injEq, Prod.mk.injEq] at hg
      obtain ⟨rfl, rfl⟩ := hg
      obtain ⟨y, y1, y2⟩ := setP_rel (c2 := c) (g := h.get) (g2 := h.get) (fun hr => hr) q (he t)
      have hne : atP (e.get t) q ≠ .undef := by intro e1; rw [e1] at hd; simp [toIf] at hd
      exact ⟨c, hs, he.set' t (y2 hne _ (.ifz _ _ _ _ (toIf_none hd y1))), LaterM.refl hm _ _⟩
    · rename_i d p hd
      split at hg
      · rename_i hok
        simp only [Option.some.injEq, Prod.mk.injEq] at hg
        obtain ⟨rfl, rfl⟩ := hg
        obtain ⟨t', fts', ps, ds, hu, hl, hps, hds, hno, rfl⟩ := toIf_some hd
        obtain ⟨c2, r1, r2, r3, r4, r5, r6⟩ := swallow hs hm hok (allBut_not s p) hps hno hds
        have hne : atP (e.get t) q ≠ .undef := by intro e1; rw [e1] at hu; cases hu
        obtain ⟨y, y1, y2⟩ := setP_pick (g := h.get) r3 q (he t)
        rw [hu] at y1
        have he2 : REnv c2 h.get (UV.picks (allBut s p) e) e' := fun q => by rw [get_picks]; exact r3 (he q)
        cases y1 with
        | iface _ _ w hw => exact ⟨c2, r1, he2.set' t (y2 hne _ (.ifz _ _ _ _ (.ifc ts fts t' (.ptr fts') _ w hl (r4 w hw)))), r2⟩
      · cases hg
    · cases hg

theorem gsteps_rel {m : Nat} : ∀ {gs : List Gh} {c : Cx} {h : VHeap} {s : USt} {e e2 : UEnv} {s2 : USt} {e' : Env}, m ≤ c.n → RSt c h s → REnv c h.get e e' → gsteps m gs (e, s) = some (e2, s2) → ∃ c2, RSt c2 h s2 ∧ REnv c2 h.get e2 e' ∧ LaterM m c h c2 h c.fams
  | [], c, h, s, e, e2, s2, e', hm, hs, he, hg => by
    simp only [gsteps, Option.some.injEq, Prod.mk.injEq] at hg
    obtain ⟨rfl, rfl⟩ := hg
    exact ⟨c, hs, he, LaterM.refl hm _ _⟩
  | g :: gs, c, h, s, e, e2, s2, e', hm, hs, he, hg => by
    simp only [gsteps] at hg
    split at hg
    · rename_i q hq
      obtain ⟨e1, s1⟩ := q
      obtain ⟨c1, a1, a2, a3⟩ := gstep_rel hm hs he hq
      obtain ⟨c2, b1, b2, b3⟩ := gsteps_rel a3.n a1 a2 hg
      exact ⟨c2, b1, b2, a3.trans b3 hs.wf⟩
    · cases hg

/-! How a loop is told. -/
def loopBody : Option Code → Code
  | some (.loop b) => b
  | _ => .skip

/-- With ghost steps ahead. -/
def ghP (m : Nat) (gin : List Gh) (told : ToldP) : ToldP := fun R e s K => match gsteps m gin (e, s) with
  | some (e, s) => told R e s K
  | none => none

def ghK {R : Type} (m : Nat) (gout : List Gh) (K : VExit → UEnv → USt → Option R) : VExit → UEnv → USt → Option R := fun x e s => match gsteps m gout (e, s) with
  | some (e, s) => K x e s
  | none => none

/-- What comes behind a round. -/
def loopK {R : Type} (m : Nat) (gin gout : List Gh) (told : ToldP) (K : VExit → UEnv → USt → Option R) : VExit → UEnv → USt → Option R := fun x e s => match x with
  | .normal => ghP m gin told R e s K
  | x => ghK m gout K x e s

theorem ghP_sound {m : Nat} {gin : List Gh} {b : Code} {told : ToldP} (h : SoundP P m b told) : SoundP P m b (ghP m gin told) := by
  intro R e s K r hu c h' e' hm hs he
  unfold ghP at hu
  split at hu
  · rename_i e1 s1 hg
    obtain ⟨c1, a1, a2, a3⟩ := gsteps_rel hm hs he hg
    refine (h R e1 s1 K r hu c1 h' e' a3.n a1 a2).mono ?_
    rintro x e2 h2 ⟨u2, s2, c2, p1, p2, p3, p4⟩
    exact ⟨u2, s2, c2, p1, p2, a3.trans p3 hs.wf, p4⟩
  · cases hu

theorem loop_sound {F : FuncId → Option (Bool × ToldF)} (hF : SoundF' P F) {m : Nat} {gin gout : List Gh} {told : Nat → ToldP} {Pc : Nat → Option ToldP} {body : Code} (hPc : SoundPc P m body Pc) {k p : Nat} (hp : 1 ≤ p) (hat : codeAt body p = some (.loop (loopBody (codeAt body p))))
    (h0 : ∀ R e s K, told 0 R e s K = none)
    (hstep : ∀ n (R : Type) e s (K : VExit → UEnv → USt → Option R) r, told (n + 1) R e s K = some r → uexec P F k Pc (2 * p) (loopBody (codeAt body p)) e s (loopK m gin gout (told n) K) = some r) :
    ∀ n, SoundP P m (.loop (loopBody (codeAt body p))) (told n) := by
  have sub : codeAt body (2 * p) = some (loopBody (codeAt body p)) := codeAt_step hp hat false rfl
  intro n
  induction n with
  | zero => intro R e s K r hu; rw [h0] at hu; cases hu
  | succ n ih =>
    intro R e s K r hu c h e' hm hs he
    refine WP.loop1 ((exec_rel hF k R Pc m (2 * p) body _ e s _ r (hstep n R e s K r hu) (by omega) sub hPc c h e' hm hs he).mono ?_)
    rintro x e2 h2 ⟨u2, s2, c2, p1, p2, p3, p4⟩
    have back : ∀ {x : VExit}, x ≠ .normal → loopK m gin gout (told n) K x u2 s2 = some r → ∃ u1 s1 c1, RSt c1 h2 s1 ∧ REnv c1 h2.get u1 e2 ∧ LaterM m c h c1 h2 c.fams ∧ K x u1 s1 = some r := by
      intro x hx hk
      have hk : ghK m gout K x u2 s2 = some r := by cases x <;> first | exact absurd rfl hx | exact hk
      unfold ghK at hk
      split at hk
      · rename_i e3 s3 hg3
        obtain ⟨c3, b1, b2, b3⟩ := gsteps_rel p3.n p1 p2 hg3
        exact ⟨e3, s3, c3, b1, b2, p3.trans b3 hs.wf, hk⟩
      · cases hk
    cases x with
    | normal =>
      refine ((ghP_sound ih) R u2 s2 K r p4 c2 h2 e2 p3.n p1 p2).mono ?_
      rintro x e4 h4 ⟨u4, s4, c4, d1, d2, d3, d4⟩
      exact ⟨u4, s4, c4, d1, d2, p3.trans d3 hs.wf, d4⟩
    | exit i => exact back (by simp) p4
    | ret => exact back (by simp) p4

def pieceOf : Option Code → Code
  | some b => b
  | _ => .skip

theorem get_unpack : ∀ (m : List Bool) (e : UEnv) (t : Nat), UEnv.get (unpackM m (packM m e)) t = UEnv.get e t ∨ UEnv.get (unpackM m (packM m e)) t = .undef
  | [], e, t => .inr (by simp [packM, unpackM, UEnv.get])
  | true :: m, v :: e, 0 => .inl rfl
  | true :: m, v :: e, t + 1 => by simpa [packM, unpackM, UEnv.get] using get_unpack m e t
  | true :: m, [], 0 => .inr rfl
  | true :: m, [], t + 1 => by simpa [packM, unpackM, UEnv.get] using get_unpack m [] t
  | false :: m, v :: e, 0 => .inr (by simp [packM, unpackM, UEnv.get])
  | false :: m, v :: e, t + 1 => by simpa [packM, unpackM, UEnv.get] using get_unpack m e t
  | false :: m, [], 0 => .inr (by simp [packM, unpackM, UEnv.get])
  | false :: m, [], t + 1 => by simpa [packM, unpackM, UEnv.get] using get_unpack m [] t

theorem REnv.unpack {g : VG} {e : UEnv} {e' : Env} (he : REnv c g e e') (m : List Bool) : REnv c g (unpackM m (packM m e)) e' := by
  intro t
  rcases get_unpack m e t with h1 | h1 <;> rw [h1]
  · exact he t
  · exact .undef _

theorem loopP_sound {F : FuncId → Option (Bool × ToldF)} (hF : SoundF' P F) {m : Nat} {mk : List Bool} {gin gout : List Gh} {told : Nat → ToldP} {Pc : Nat → Option ToldP} {body : Code} (hPc : SoundPc P m body Pc) {k p : Nat} (hp : 1 ≤ p) (hat : codeAt body p = some (.loop (loopBody (codeAt body p))))
    (h0 : ∀ R e s K, told 0 R e s K = none)
    (hstep : ∀ n (R : Type) vs s (K : VExit → UEnv → USt → Option R) r, told (n + 1) R vs s K = some r → uexec P F k Pc (2 * p) (loopBody (codeAt body p)) (unpackM mk vs) s (loopK m gin gout (pkP mk (told n)) K) = some r) :
    ∀ n, SoundP P m (.loop (loopBody (codeAt body p))) (pkP mk (told n)) := by
  have sub : codeAt body (2 * p) = some (loopBody (codeAt body p)) := codeAt_step hp hat false rfl
  intro n
  induction n with
  | zero => intro R e s K r hu; unfold pkP at hu; rw [h0] at hu; cases hu
  | succ n ih =>
    intro R e s K r hu c h e' hm hs he
    refine WP.loop1 ((exec_rel hF k R Pc m (2 * p) body _ _ s _ r (hstep n R (packM mk e) s K r hu) (by omega) sub hPc c h e' hm hs (he.unpack mk)).mono ?_)
    rintro x e2 h2 ⟨u2, s2, c2, p1, p2, p3, p4⟩
    have back : ∀ {x : VExit}, x ≠ .normal → loopK m gin gout (pkP mk (told n)) K x u2 s2 = some r → ∃ u1 s1 c1, RSt c1 h2 s1 ∧ REnv c1 h2.get u1 e2 ∧ LaterM m c h c1 h2 c.fams ∧ K x u1 s1 = some r := by
      intro x hx hk
      have hk : ghK m gout K x u2 s2 = some r := by cases x <;> first | exact absurd rfl hx | exact hk
      unfold ghK at hk
      split at hk
      · rename_i e3 s3 hg3
        obtain ⟨c3, b1, b2, b3⟩ := gsteps_rel p3.n p1 p2 hg3
        exact ⟨e3, s3, c3, b1, b2, p3.trans b3 hs.wf, hk⟩
      · cases hk
    cases x with
    | normal =>
      refine ((ghP_sound ih) R u2 s2 K r p4 c2 h2 e2 p3.n p1 p2).mono ?_
      rintro x e4 h4 ⟨u4, s4, c4, d1, d2, d3, d4⟩
      exact ⟨u4, s4, c4, d1, d2, p3.trans d3 hs.wf, d4⟩
    | exit i => exact back (by simp) p4
    | ret => exact back (by simp) p4

theorem pieceP_sound {F : FuncId → Option (Bool × ToldF)} (hF : SoundF' P F) {m : Nat} {mk : List Bool} {gout : List Gh} {told : ToldP} {Pc : Nat → Option ToldP} {body : Code} (hPc : SoundPc P m body Pc) {k p : Nat} (hp : 1 ≤ p) (hat : codeAt body p = some (pieceOf (codeAt body p)))
    (hstep : ∀ (R : Type) vs s (K : VExit → UEnv → USt → Option R) r, told R vs s K = some r → uexec P F k Pc p (pieceOf (codeAt body p)) (unpackM mk vs) s (ghK m gout K) = some r) : SoundP P m (pieceOf (codeAt body p)) (pkP mk told) := by
  intro R e s K r hu c h e' hm hs he
  refine (exec_rel hF k R Pc m p body _ _ s _ r (hstep R (packM mk e) s K r hu) hp hat hPc c h e' hm hs (he.unpack mk)).mono ?_
  rintro x e2 h2 ⟨u2, s2, c2, p1, p2, p3, p4⟩
  unfold ghK at p4
  split at p4
  · rename_i e3 s3 hg3
    obtain ⟨c3, b1, b2, b3⟩ := gsteps_rel p3.n p1 p2 hg3
    exact ⟨e3, s3, c3, b1, b2, p3.trans b3 hs.wf, p4⟩
  · cases p4

theorem piece_sound {F : FuncId → Option (Bool × ToldF)} (hF : SoundF' P F) {m : Nat} {gout : List Gh} {told : ToldP} {Pc : Nat → Option ToldP} {body : Code} (hPc : SoundPc P m body Pc) {k p : Nat} (hp : 1 ≤ p) (hat : codeAt body p = some (pieceOf (codeAt body p)))
    (hstep : ∀ (R : Type) e s (K : VExit → UEnv → USt → Option R) r, told R e s K = some r → uexec P F k Pc p (pieceOf (codeAt body p)) e s (ghK m gout K) = some r) : SoundP P m (pieceOf (codeAt body p)) told := by
  intro R e s K r hu c h e' hm hs he
  refine (exec_rel hF k R Pc m p body _ e s _ r (hstep R e s K r hu) hp hat hPc c h e' hm hs he).mono ?_
  rintro x e2 h2 ⟨u2, s2, c2, p1, p2, p3, p4⟩
  unfold ghK at p4
  split at p4
  · rename_i e3 s3 hg3
    obtain ⟨c3, b1, b2, b3⟩ := gsteps_rel p3.n p1 p2 hg3
    exact ⟨e3, s3, c3, b1, b2, p3.trans b3 hs.wf, p4⟩
  · cases p4

def sameLen : List UV → List UV → Bool
  | [], [] => true
  | _ :: a, _ :: b => sameLen a b
  | _, _ => false

theorem sameLen_iff : ∀ {a b : List UV}, sameLen a b = true → a.length = b.length
  | [], [], _ => rfl
  | _ :: a, _ :: b, h => by simp only [sameLen] at h; simp [sameLen_iff h]
  | [], _ :: _, h => by cases h
  | _ :: _, [], h => by cases h

theorem REnv.args {g : VG} {us : List UV} {vs : List VV} (he : REnv c g us vs) (hl : us.length = vs.length) : RVs c g us vs := by
  refine ⟨hl, fun i u v hu hv => ?_⟩
  have h1 := he i
  have e1 : UEnv.get us i = u := by
    have key : ∀ (us : List UV) (t : Nat), UEnv.get us t = us.getD t .undef := by
      intro us
      induction us with
      | nil => intro t; simp [UEnv.get]
      | cons u us ih => intro t; cases t with
        | zero => simp [UEnv.get]
        | succ t => simp [UEnv.get, ih]
    rw [key, List.getD_eq_getElem?_getD, hu]; rfl
  have e2 : Env.get vs i = v := by simp [Env.get, List.getD_eq_getElem?_getD, hv]
  rw [e1, e2] at h1
  exact h1

/-- With ghost steps ahead. -/
def ghF (gin : List Gh) (told : ToldF) : ToldF := fun R args s K => match gsteps s.len gin (args, s) with
  | some (e, s) => match sameLen e args with
    | true => told R e s K
    | false => none
  | none => none

def funK {R : Type} (m : Nat) (gout : List Gh) (K : UV → USt → Option R) : UV → USt → Option R := fun v s => match gsteps m gout ([v], s) with
  | some ([v], s) => K v s
  | _ => none

theorem LaterM.less {m n : Nat} {c' : Cx} {h' : VHeap} {T : Nat → Prop} (hL : LaterM m c h c' h' T) (hn : n ≤ m) : LaterM n c h c' h' T :=
  ⟨Nat.le_trans hn hL.n, fun o ho => hL.ρ o (Nat.lt_of_lt_of_le ho hn), hL.K, hL.next, hL.same, hL.fam, hL.mp, hL.newK, hL.newφ, fun o f ho => hL.oldφ o f (Nat.lt_of_lt_of_le ho hn)⟩

theorem ghF_sound {gin : List Gh} {g : FuncId} {told : ToldF} (ht : Tells P g told) : Tells P g (ghF gin told) := by
  intro R args s K r hu c h vargs hs hr
  unfold ghF at hu
  split at hu
  · rename_i e0 s0 hg0
    obtain ⟨c0, a1, a2, a3⟩ := gsteps_rel (m := s.len) (by rw [hs.len]; exact Nat.le_refl _) hs (args_env hr) hg0
    split at hu
    · rename_i hsl
      have hr0 : RVs c0 h.get e0 vargs := a2.args (by rw [sameLen_iff hsl]; exact hr.1)
      refine (ht R e0 s0 K r hu c0 h vargs a1 hr0).mono ?_
      rintro v h' ⟨u, s1, c1, q1, q2, q3, q4⟩
      have h5 : LaterM s.len c h c1 h' c.fams := a3.trans ((q3.toM (Nat.le_refl _)).less a3.n) hs.wf
      rw [hs.len] at h5
      exact ⟨u, s1, c1, q1, q2, h5.full, q4⟩
    · cases hu
  · cases hu

theorem ufun_sound {T : Known} (hF : SoundF' P T.F) {m : Nat} {gout : List Gh} {told : ToldF} {g : FuncId} {k : Nat} (hPc : ∀ fn body, P.funcs[g]? = some fn → fn.body = some body → SoundPc P m body T.Pc) (hlen : ∀ (R : Type) args s (K : UV → USt → Option R) r, told R args s K = some r → s.len = m)
    (hstep : ∀ (R : Type) args s (K : UV → USt → Option R) r, told R args s K = some r → ufun P T k g args s (funK m gout K) = some r) : Tells P g told := by
  intro R args s K r hu c h vargs hs hr
  have hl := hlen _ _ _ _ _ hu
  refine (ufun_rel hF (hstep _ _ _ _ _ hu) (by rw [hl]; exact hPc) hs hr).mono ?_
  rintro v h' ⟨u, s1, c1, q1, q2, q3, q4⟩
  unfold funK at q4
  split at q4
  · rename_i w s2 hg
    have hm : m = c.n := by rw [← hl, hs.len]
    have he : REnv c1 h'.get [u] [v] := args_env (RVs.cons q2 (RVs.nil _ _))
    obtain ⟨c2, b1, b2, b3⟩ := gsteps_rel (m := m) (by rw [hm]; exact q3.n) q1 he hg
    have h3 : LaterM m c h c2 h' c.fams := (q3.toM (by rw [hm]; exact Nat.le_refl _)).trans b3 hs.wf
    exact ⟨w, s2, c2, b1, b2 0, by subst hm; exact h3.full, q4⟩
  · cases q4

/-- slices.Clone. -/
def toldClone (fts : List FT) (bytes : Nat) : ToldF := fun R args s K => match args, s with
  | [.fz fts' es _], [] => match FT.sames fts fts' with
    | true => cond (fits es.length bytes) (K (.own 0) [.row fts es]) none
    | false => none
  | [.nilslice], [] => K (.own 0) [.row fts []]
  | _, _ => none

theorem clone_tells {F : FuncId → Option (Bool × ToldF)} (hF : SoundF' P F) {g : FuncId} {fts : List FT} {bytes k : Nat} (h1 : ∀ (R : Type) (K : UV → USt → Option R), ufun P ⟨F, fun _ => none⟩ k g [.nilslice] [] K = K .nilslice [])
    (h2 : ∀ (R : Type) (K : UV → USt → Option R) (es : List (List D)), ufun P ⟨F, fun _ => none⟩ k g [.nn fts es] [] K = cond (fits (([] : List (List D)).length + es.length) bytes) (K (.own 1) [.gone, .row fts ([] ++ es)]) none) : Tells P g (toldClone fts bytes) := by
  have nilcase : ∀ {R : Type} {K : UV → USt → Option R} {r : R}, K (.own 0) [.row fts []] = some r → ∀ (c : Cx) (h : VHeap) v, RSt c h [] → v = .nilslice → VC P seatX g [v] h fun v h' => ∃ u s1 c1, RSt c1 h' s1 ∧ RV c1 h'.get u v ∧ Later c h c1 h' c.fams ∧ K u s1 = some r := by
    intro R K r hK c h v hs hv
    subst hv
    have hr : RVs c h.get [.nilslice] [.nilslice] := RVs.cons .nilslice (RVs.nil _ _)
    have hu := h1 (UV × USt) (fun u s => some (u, s))
    refine (ufun_rel (T := ⟨F, fun _ => none⟩) hF hu (fun _ _ _ _ => SoundPc.none _ _ _) hs hr).mono ?_
    rintro v h' ⟨u, s1, c1, q1, q2, q3, q4⟩
    simp only [Option.some.injEq, Prod.mk.injEq] at q4
    obtain ⟨rfl, rfl⟩ := q4
    cases q2
    obtain ⟨a1, a2, a3⟩ := addNil q1 fts c1.fams
    exact ⟨.own 0, [.row fts []], _, a1, a3, q3.trans' a2 hs.wf, hK⟩
  intro R args s K r hu c h vargs hs hr
  unfold toldClone at hu
  split at hu
  · rename_i fts' es cut
    split at hu
    · rename_i hsame
      have := FT.sames_eq _ _ hsame; subst this
      obtain ⟨hf, hK⟩ := cond_some hu
      obtain ⟨v, rfl, hv⟩ := hr.inv1
      cases hv with
      | fz _ _ _ _ hrd hc =>
        cases v with
        | nilslice => cases hrd; exact nilcase hK c h _ hs rfl
        | slice b i n cp z =>
          have hr' : RVs c h.get [.nn fts es] [.slice b i n cp z] := RVs.cons (.nn fts es _ hrd ⟨b, i, n, cp, z, rfl⟩) (RVs.nil _ _)
          have hu2 := h2 (UV × USt) (fun u s => some (u, s)) es
          rw [List.nil_append, List.length_nil, Nat.zero_add, hf, cond_true] at hu2
          refine (ufun_rel (T := ⟨F, fun _ => none⟩) hF hu2 (fun _ _ _ _ => SoundPc.none _ _ _) hs hr').mono ?_
          rintro v h' ⟨u, s1, c1, q1, q2, q3, q4⟩
          simp only [Option.some.injEq, Prod.mk.injEq] at q4
          obtain ⟨rfl, rfl⟩ := q4
          have hp := q1.pick (ids := [1]) (by simp)
          have hv := q2.pick (ids := [1])
          have hL : LaterM 0 c1 h' (c1.pick [1]) h' (fun _ => False) := pickM rfl
          have hn : c.n = 0 := hs.len.symm
          have h3 : LaterM 0 c h (c1.pick [1]) h' c.fams := (q3.toM (Nat.zero_le _)).trans (hL.mono (fun _ h => h.elim)) hs.wf
          rw [← hn] at h3
          exact ⟨.own 0, [.row fts es], _, hp, hv, h3.full, hK⟩
        | _ => cases hrd
    · cases hu
  · obtain ⟨v, rfl, hv⟩ := hr.inv1
    cases hv
    exact nilcase hu c h _ hs rfl
  · cases hu

/-! Laws. -/
/-- Data as a call is handed it. -/
inductive WFD : FT → D → Prop
  | bool (b : Bool) : WFD .bool (.bool b)
  | int (k : IntKind) (n : Int) (h : (Lit.int k n).wf = true) : WFD (.int k) (.int n)
  | str (s : ByteArray) (h : s.size ≤ reachBytes) : WFD .str (.str s)
  | nil (bytes : Nat) (fts : List FT) : WFD (.row bytes fts) .nil
  | row (bytes : Nat) (fts : List FT) (rows : List (List D)) (hb : rows.length * bytes ≤ reachBytes) (hl : ∀ r ∈ rows, r.length = fts.length)
      (hr : ∀ r ∈ rows, ∀ (j : Nat) ft d, fts[j]? = some ft → r[j]? = some d → WFD ft d) : WFD (.row bytes fts) (.row rows)

structure WFDs (fts : List FT) (ds : List D) : Prop where
  len : ds.length = fts.length
  at_ : ∀ (j : Nat) ft d, fts[j]? = some ft → ds[j]? = some d → WFD ft d

theorem Has.wfd {g : VG} {ft : FT} {d : D} {v : VV} (h : Has g ft d v) : WFD ft d := by
  induction h with
  | bool b => exact .bool b
  | int k n h => exact .int k n h
  | str s h => exact .str s h
  | nil bytes fts => exact .nil bytes fts
  | row bytes fts rows b k hg hro hz h0 hlen hb hrl hr ih =>
    have key : ∀ r ∈ rows, ∃ (i : Nat) (cs : List VV), rows[i]? = some r ∧ k.es[i]? = some cs := fun r hm => by
      obtain ⟨i, hi⟩ := List.getElem?_of_mem hm
      have hlt : i < k.es.length := by rw [hlen]; exact (List.getElem?_eq_some_iff.1 hi).1
      exact ⟨i, k.es[i], hi, List.getElem?_eq_getElem hlt⟩
    refine .row bytes fts rows hb (fun r hm => ?_) (fun r hm j ft d hf hd => ?_)
    · obtain ⟨i, cs, h1, h2⟩ := key r hm
      exact (hrl i r cs h1 h2).1
    · obtain ⟨i, cs, h1, h2⟩ := key r hm
      have h3 := (hrl i r cs h1 h2).2
      have hj : j < cs.length := by rw [h3]; exact (List.getElem?_eq_some_iff.1 hf).1
      exact ih i r cs h1 h2 j ft d cs[j] hf hd (List.getElem?_eq_getElem hj)

theorem Has.rd {h : VHeap} (hs : Still h) {ft : FT} {d : D} {v : VV} (hh : Has h.get ft d v) : RD h.get (· < h.next) ft d v := by
  induction hh with
  | bool b => exact .bool b
  | int k n h => exact .int k n
  | str s h => exact .str s
  | nil bytes fts => exact .nil bytes fts
  | row bytes fts rows b k hg hro hz h0 hlen hb hrl hr ih =>
    refine .row bytes fts rows b 0 rows.length none fts.length k hg (hs.wf.fam b k hg) hz rfl h0 rfl (by omega) (fun cp e => by cases e) ?_ ?_
    · intro j r cs h1 h2
      rw [Nat.zero_add] at h2
      exact hrl j r cs h1 h2
    · intro j r cs h1 h2 m ft d v g1 g2 g3
      rw [Nat.zero_add] at h2
      exact ih j r cs h1 h2 m ft d v g1 g2 g3

def Cx.start (h : VHeap) : Cx := ⟨0, fun _ => .undef, (· < h.next), fun _ => none⟩

theorem RSt.start {h : VHeap} (hs : Still h) : RSt (Cx.start h) h [] :=
  ⟨hs.wf, rfl, fun o => .gone _ (by intro b i f e; cases e),
    (fun o o' f h => by cases h), (fun o f h => by cases h), (fun o f h => by cases h), fun f h => h, fun o _ => rfl⟩

/-- The arguments. -/
def argsU (P : Program) : List TypeId → List (List D) → List UV
  | t :: ts, ds :: dss => match flat P 20 t with
    | some fts => (ufrom P t (ofDs 0 fts ds)).getD .undef :: argsU P ts dss
    | none => []
  | _, _ => []

inductive WFArgs (P : Program) : List TypeId → List (List D) → Prop
  | nil : WFArgs P [] []
  | cons (t : TypeId) (ts : List TypeId) (fts : List FT) (ds : List D) (dss : List (List D)) (hf : flat P 20 t = some fts) (hd : WFDs fts ds) (hr : WFArgs P ts dss) : WFArgs P (t :: ts) (ds :: dss)

theorem args_rel {h : VHeap} (hs : Still h) {ts : List TypeId} {dss : List (List D)} {vs : List VV} (ha : HasArgs P h.get ts dss vs) : WFArgs P ts dss ∧ RVs (Cx.start h) h.get (argsU P ts dss) vs := by
  induction ha with
  | nil => exact ⟨.nil, RVs.nil _ _⟩
  | cons t ts fts ds dss xs v vs hf hx hv hr ih =>
    have hrdl : RDL h.get (Cx.start h).K fts ds xs := ⟨hx.len, hx.lenv, fun m ft d v a b e => (hx.at_ m ft d v a b e).rd hs⟩
    refine ⟨.cons t ts fts ds dss hf ⟨hx.len, fun j ft d a b => ?_⟩ ih.1, ?_⟩
    · have hj : j < xs.length := by rw [hx.lenv]; exact (List.getElem?_eq_some_iff.1 a).1
      exact (hx.at_ j ft d xs[j] a b (List.getElem?_eq_getElem hj)).wfd
    · simp only [argsU, hf]
      refine RVs.cons ?_ ih.2
      have h1 := ofDs_rel (c := Cx.start h) hrdl 0 fts.length (by omega)
      simp only [List.drop_zero, List.take_length] at h1
      rw [← hx.lenv, List.take_length] at h1
      cases hu : ufrom P t (ofDs 0 fts ds) with
      | none => exact .undef _
      | some u =>
        obtain ⟨w, w1, w2⟩ := ufrom_rel hu h1
        rw [hv] at w1
        simp only [Option.some.injEq] at w1
        subst w1
        exact w2

def boolK : UV → USt → Option Bool := fun v _ => match v with
  | .bool b => some b
  | _ => none

/-- FROM U TO THE LAW. -/
theorem law_of (hmix : P.follows .mixedOrders = true) (hdst : progDst P = true) (hX : SoundX P seatX) {f : FuncId} {ts : List TypeId} (H : ∀ dss, WFArgs P ts dss → ∃ (T : Known) (k : Nat), SoundF' P T.F ∧ (∀ fn body, P.funcs[f]? = some fn → fn.body = some body → SoundPc P 0 body T.Pc) ∧ ufun P T k f (argsU P ts dss) [] boolK = some true) : Law P f ts := by
  intro h dss args hs hargs
  obtain ⟨hw, hr⟩ := args_rel hs hargs
  obtain ⟨T, k, hF, hPc, hu⟩ := H dss hw
  obtain ⟨n, v, h', hrun, u, s1, c1, q1, q2, q3, q4⟩ := ufun_rel hF hu hPc (RSt.start hs) hr
  refine ⟨h', ?_⟩
  have hv : v = .bool true := by
    unfold boolK at q4
    split at q4
    · simp only [Option.some.injEq] at q4; subst q4; cases q2; rfl
    · cases q4
  subst hv
  exact run_sound hmix hdst (X := seatX) hX hrun

end
end Go.Proofs.YtbeiflhnogedeaaDoor.V

/- U: from a told law to the law. -/
namespace Go.Proofs.YtbeiflhnogedeaaDoor.V

theorem law_of_told {P : Program} (hmix : P.follows .mixedOrders = true) (hdst : progDst P = true) (hX : SoundX P seatX) {f : FuncId} {ts : List TypeId} {told : ToldF} (ht : Tells P f told) (H : ∀ dss, WFArgs P ts dss → told Bool (argsU P ts dss) [] boolK = some true) : Law P f ts := by
  intro h dss args hs hargs
  obtain ⟨hw, hr⟩ := args_rel hs hargs
  obtain ⟨n, v, h', hrun, u, s1, c1, q1, q2, q3, q4⟩ := ht Bool (argsU P ts dss) [] boolK true (H dss hw) _ _ _ (RSt.start hs) hr
  refine ⟨h', ?_⟩
  have hv : v = .bool true := by
    unfold boolK at q4
    split at q4
    · simp only [Option.some.injEq] at q4; subst q4; cases q2; rfl
    · cases q4
  subst hv
  exact run_sound hmix hdst (X := seatX) hX hrun

end Go.Proofs.YtbeiflhnogedeaaDoor.V

/- U: ghost steps ahead of a function; it sees what can be come to then. -/
namespace Go.Proofs.YtbeiflhnogedeaaDoor.V

/-- With ghost steps ahead, and what can be come to then. -/
def ghG (gin : List Gh) (told : ToldF) : ToldF := fun R args s K => match gsteps s.len gin (args, s) with
  | some (e, s1) => match sameLen e args with
    | true => utold true told e s1 K
    | false => none
  | none => none

section
variable {P : Program} {c : Cx} {h : VHeap} {s : USt}

theorem ghG_sound {gin : List Gh} {g : FuncId} {told : ToldF} (ht : Tells P g told) : Tells P g (ghG gin told) := by
  intro R args s K r hu c h vargs hs hr
  unfold ghG at hu
  split at hu
  · rename_i e0 s0 hg0
    obtain ⟨c0, a1, a2, a3⟩ := gsteps_rel (m := s.len) (by rw [hs.len]; exact Nat.le_refl _) hs (args_env hr) hg0
    split at hu
    · rename_i hsl
      have hr0 : RVs c0 h.get e0 vargs := a2.args (by rw [sameLen_iff hsl]; exact hr.1)
      refine (utold_rel ht hu a1 hr0).mono ?_
      rintro v h' ⟨u, s1, c1, q1, q2, q3, q4⟩
      have q3' : Later c0 h c1 h' c0.fams := q3.mono (fun f ⟨o, _, ho⟩ => ⟨o, ho⟩)
      have h5 : LaterM s.len c h c1 h' c.fams := a3.trans ((q3'.toM (Nat.le_refl _)).less a3.n) hs.wf
      rw [hs.len] at h5
      exact ⟨u, s1, c1, q1, q2, h5.full, q4⟩
    · cases hu
  · cases hu

end
end Go.Proofs.YtbeiflhnogedeaaDoor.V

/- V: what functions of the library tell is so, where their contracts stand. -/
namespace Go.Proofs.YtbeiflhnogedeaaDoor.V
open Go.RowKit

section
variable {P : Program}

/-- A new object, among other blocks that are new. -/
theorem step_below {ρ : Ren} {h : VHeap} {w w' : World} (hR : Rel ρ h.get w) (hw : WF h.get h.next) (hB : Below w.heap.size w w') (o : VObj) (m : Obj) {g : Nat} (hg : w.heap.size ≤ g) (hm : w'.heap[g]? = some m) (l : Loc) (hl : l.mb = g)
    (ho : RelO ρ l o (some m)) (hf : ∀ k, o = .cells k → k.fam = h.next) : Step ρ h.get h.next w (ρ.add h.next l) (h.push o).get (h.next + 1) w' := by
  have hn := hR.none hw (Nat.le_refl h.next)
  have hR1 : Rel ρ h.get w' := hR.world hB.block
  have hR2 : Rel (ρ.add h.next l) (h.push o).get w' := by
    refine hR1.insert (o := o) hn (by rw [VHeap.get_push, if_pos rfl]) (fun b hb _ => by rw [VHeap.get_push, if_neg hb]) ?_ ?_
    · rw [hl, hm]; exact ho
    · intro b2 l2 o2 h2 _ hmb
      have := hR.lt h2
      omega
  have hwf : WF (h.push o).get (h.next + 1) := hw.push o hf
  refine ⟨hR, hR2, hwf, Ren.le_add hn, Nat.le_succ _, hB.os, hB.tape, hB.output, hB.size, fun B hb _ => hB.block B hb, ?_, ?_, ?_⟩
  · intro b l' hb
    unfold Ren.add at hb
    split at hb
    · rename_i e; subst e
      simp only [Option.some.injEq] at hb; subst hb
      exact .inr ⟨Nat.le_refl _, .inl (by omega)⟩
    · exact .inl hb
  · intro b k hb
    refine ⟨k, ?_, rfl⟩
    rw [VHeap.get_push, if_neg (by have := hw.lt b _ hb; omega)]
    exact hb
  · intro b es hb
    refine ⟨es, ?_⟩
    rw [VHeap.get_push, if_neg (by have := hw.lt b _ hb; omega)]
    exact hb

/-- Nothing but new blocks. -/
theorem step_quiet {ρ : Ren} {h : VHeap} {w w' : World} (hR : Rel ρ h.get w) (hw : WF h.get h.next) (hB : Below w.heap.size w w') : Step ρ h.get h.next w ρ h.get h.next w' :=
  ⟨hR, hR.world hB.block, hw, Ren.le.refl ρ, Nat.le_refl _, hB.os, hB.tape, hB.output, hB.size, fun B hb _ => hB.block B hb, fun _ _ h => .inl h, fun _ k h => ⟨k, h, rfl⟩, fun _ es h => ⟨es, h⟩⟩

theorem add_self (ρ : Ren) (n : Nat) (l : Loc) : (ρ.add n l) n = some l := by unfold Ren.add; rw [if_pos rfl]

theorem RelL.one_inv {ρ : Ren} {v : VV} {ms : List Value} (h : RelL ρ [v] ms) : ∃ m, ms = [m] ∧ RelV ρ v m := by
  obtain ⟨m, x, rfl, h1, h2⟩ := h.of_cons
  rw [h2.of_nil]; exact ⟨m, rfl, h1⟩

theorem RelL.two_inv {ρ : Ren} {u v : VV} {ms : List Value} (h : RelL ρ [u, v] ms) : ∃ m n, ms = [m, n] ∧ RelV ρ u m ∧ RelV ρ v n := by
  obtain ⟨m, x, rfl, h1, h2⟩ := h.of_cons
  obtain ⟨n, rfl, h3⟩ := h2.one_inv
  exact ⟨m, n, rfl, h1, h3⟩

/-- A map of V's, as the machine has it. -/
theorem map_at {ρ : Ren} {h : VHeap} {w : World} (hR : Rel ρ h.get w) {b : Nat} {es : List (VV × VV)} (hg : h.get b = some (.map es)) {l : Loc} (hb : ρ b = some l) :
    ∃ ents clock, w.heap[l.mb]? = some (.map ents clock) ∧ es.length = ents.size ∧ MapKept.Stamped ents clock ∧ ∀ (i : Nat) p m, es[i]? = some p → ents[i]? = some m → RelV ρ p.1 m.key ∧ RelV ρ p.2 m.val := by
  obtain ⟨o, ho, hr⟩ := hR.obj b l hb
  rw [hg] at ho; simp only [Option.some.injEq] at ho; subst ho
  generalize hmo : w.heap[l.mb]? = mo at hr
  cases hr with
  | map es ents clock hl hst hh => exact ⟨ents, clock, rfl, hl, hst, hh⟩

theorem xClone_sound {f : FuncId} (hcl : ∀ (b : Nat) (es : Array MapEntry) (clock : Nat) (w : World), w.heap[b]? = some (.map es clock) → Calls P f #[.map (some b)] w fun e w' => e = .returned (.map (some w.heap.size)) ∧ w' = w.alloc (.map es clock))
    (hnil : ∀ w, Calls P f #[.map none] w fun e w' => e = .returned (.map none) ∧ w' = w) {args : List VV} {h h' : VHeap} {v : VV} (hop : xClone args h = some (v, h')) : SoundF P f args h v h' := by
  intro ρ w margs hR hw hrel _hG
  unfold xClone at hop
  split at hop
  · rename_i b h0
    split at hop
    · rename_i es hg
      simp only [Option.some.injEq, Prod.mk.injEq] at hop
      obtain ⟨rfl, rfl⟩ := hop
      obtain ⟨mv, rfl, hm⟩ := hrel.one_inv
      cases hm with
      | map _ l hb =>
        obtain ⟨ents, clock, hmo, hl, hst, hh⟩ := map_at hR hg hb
        refine (hcl l.mb ents clock w hmo).mono ?_
        rintro e w' ⟨rfl, rfl⟩
        exact ⟨_, _, rfl, step_new hR hw (.map es) (.map ents clock) (newBlk_alloc _ _) ⟨w.heap.size, 0, 0, 0, false⟩ rfl (.map es ents clock hl hst hh) (fun k hk => by cases hk), RelV.map _ ⟨w.heap.size, 0, 0, 0, false⟩ (add_self _ _ _)⟩
    · cases hop
  · simp only [Option.some.injEq, Prod.mk.injEq] at hop
    obtain ⟨rfl, rfl⟩ := hop
    obtain ⟨mv, rfl, hm⟩ := hrel.one_inv
    cases hm
    refine (hnil w).mono ?_
    rintro e w' ⟨rfl, rfl⟩
    exact ⟨_, ρ, rfl, Step.refl hR hw, .nilmap⟩
  · cases hop

theorem hasByte_iff (l : List UInt8) (c : UInt8) : hasByte l c = decide (0 ≤ Lib.indexByte l c) := by
  induction l with
  | nil => rfl
  | cons b l ih =>
    unfold hasByte Lib.indexByte
    by_cases h : b = c
    · subst h; simp
    · have hb : (b == c) = false := by simpa using h
      rw [decide_eq_false h, hb]
      simp only [Bool.false_eq_true, if_false]
      rw [ih]
      have := Lib.indexByte_ge l c
      by_cases h2 : Lib.indexByte l c = -1
      · rw [h2]; rfl
      · have h3 : (Lib.indexByte l c == -1) = false := by simpa using h2
        rw [h3]
        simp only [Bool.false_eq_true, if_false]
        rw [decide_eq_decide]; omega

theorem xContains_sound {f : FuncId} (hcl : ∀ (s : ByteArray) (c : UInt8) (w : World), Calls P f #[.string s, .string ⟨#[c]⟩] w fun e w' => e = .returned (.bool (decide (0 ≤ Lib.indexByte s.data.toList c))) ∧ w' = w)
    {args : List VV} {h h' : VHeap} {v : VV} (hop : xContains args h = some (v, h')) : SoundF P f args h v h' := by
  intro ρ w margs hR hw hrel _hG
  unfold xContains at hop
  split at hop
  · rename_i h0 s t
    split at hop
    · rename_i c ht
      simp only [Option.some.injEq, Prod.mk.injEq] at hop
      obtain ⟨rfl, rfl⟩ := hop
      obtain ⟨ms, mt, rfl, h1, h2⟩ := hrel.two_inv
      cases h1; cases h2
      have et : t = ⟨#[c]⟩ := by
        obtain ⟨⟨l⟩⟩ := t
        simp only at ht
        rw [ht]
      subst et
      refine (hcl s c w).mono ?_
      rintro e w' ⟨rfl, rfl⟩
      exact ⟨_, ρ, rfl, Step.refl hR hw, by rw [hasByte_iff]; exact .bool _⟩
    · cases hop
  · cases hop

theorem xGrow_sound {f el : FuncId} {z : List VV} {bytes : Nat} {zm : Array Value} (hz : ∀ ρ : Ren, RelL ρ z zm.toList) (hz1 : z.all oneCell = true) (hz0 : 0 < z.length)
    (hcl0 : ∀ w, Calls P f #[.slice none 0 0, .int .i64 0] w fun e w' => e = .returned (.slice none 0 0) ∧ w' = w)
    (hcl : ∀ (n : Nat) (w : World), 0 < n → n * bytes ≤ maxBytes → n ≤ maxBytes → Calls P f #[.slice none 0 0, .int .i64 n] w fun e w' => ∃ cap, n ≤ cap ∧ cap ≤ maxLen ∧ e = .returned (.slice (some ⟨w.heap.size, 0, none⟩) 0 cap) ∧
      ∃ C : Array Value, w' = w.drew.alloc (.cells C el) ∧ C.size = cap * z.length ∧ C.toList.take (n * z.length) = (List.replicate n zm.toList).flatten)
    {args : List VV} {h h' : VHeap} {v : VV} (hop : xGrow z bytes args h = some (v, h')) : SoundF P f args h v h' := by
  intro ρ w margs hR hw hrel _hG
  unfold xGrow at hop
  split at hop
  · rename_i h0 n
    obtain ⟨ms, mt, rfl, h1, h2⟩ := hrel.two_inv
    cases h1; cases h2
    split at hop
    · rename_i hn
      simp only [Option.some.injEq, Prod.mk.injEq] at hop
      obtain ⟨rfl, rfl⟩ := hop
      subst hn
      refine (hcl0 w).mono ?_
      rintro e w' ⟨rfl, rfl⟩
      exact ⟨_, ρ, rfl, Step.refl hR hw, .nilslice⟩
    · split at hop
      · rename_i hn hc
        simp only [Option.some.injEq, Prod.mk.injEq] at hop
        obtain ⟨rfl, rfl⟩ := hop
        obtain ⟨k, rfl⟩ : ∃ k : Nat, n = (k : Int) := ⟨n.toNat, by omega⟩
        rw [Int.toNat_natCast] at hc ⊢
        refine (hcl k w (by omega) hc.2.1 hc.2.2).mono ?_
        rintro e w' ⟨cap, hk, hcap, rfl, C, rfl, hsz, htake⟩
        have hzl : z.length = zm.size := by simpa using (hz ρ).1
        have hst := step_row (w' := w.drew.alloc (.cells C el)) hR hw (List.replicate k z) z.length C el
          ⟨by simp, by rw [show w.heap.size = w.drew.heap.size from rfl, heap_alloc_new], fun k hk => Below.heap_alloc w.drew _ k hk, rfl, rfl, rfl⟩ hz0 (by rw [List.length_replicate, hsz]; exact Nat.mul_le_mul_right _ hk)
          (fun i cs hcs => by
            have hi : i < k := by have := (List.getElem?_eq_some_iff.1 hcs).1; simpa using this
            rw [List.getElem?_replicate, if_pos hi] at hcs
            simp only [Option.some.injEq] at hcs; subst hcs
            refine ⟨rfl, hz1, fun j x hx => ?_⟩
            have hj : j < z.length := (List.getElem?_eq_some_iff.1 hx).1
            obtain ⟨m, hm1, hm2⟩ := (hz ρ).at hx
            refine ⟨m, ?_, hm2⟩
            have hlt : i * z.length + j < k * z.length := by
              have : (i + 1) * z.length ≤ k * z.length := Nat.mul_le_mul_right _ hi
              rw [Nat.add_mul] at this; omega
            have e1 : (C.toList.take (k * z.length))[i * z.length + j]? = C[i * z.length + j]? := by
              rw [List.getElem?_take, if_pos hlt, Array.getElem?_toList]
            rw [← e1, htake]
            have e2 : ∀ (k i : Nat), i < k → (List.flatten (List.replicate k zm.toList))[i * z.length + j]? = zm.toList[j]? := by
              intro k
              induction k with
              | zero => intro i hi; omega
              | succ k ih =>
                intro i hi
                rw [List.replicate_succ, List.flatten_cons]
                cases i with
                | zero => rw [Nat.zero_mul, Nat.zero_add, List.getElem?_append_left (by simp; omega)]
                | succ i =>
                  rw [List.getElem?_append_right (by simp [Nat.add_mul]; omega)]
                  have := ih i (by omega)
                  rw [← this]
                  congr 1
                  simp [Nat.add_mul]; omega
            rw [e2 k i hi]; exact hm1)
        refine ⟨_, _, rfl, hst, ?_⟩
        refine RelV.slice _ 0 0 none z.length ⟨w.heap.size, 0, z.length, C.size, false⟩ ⟨w.heap.size, 0, none⟩ cap (add_self _ _ _) rfl (Nat.zero_le _) hcap (fun k e => by cases e) (fun _ _ => by simp [hsz]) (.inl (by simp [addrAt]))
      · cases hop
  · cases hop

end
end Go.Proofs.YtbeiflhnogedeaaDoor.V

/- V: a map's keys in order, where the library's contract stands. -/
namespace Go.Proofs.YtbeiflhnogedeaaDoor.V
open Go.RowKit Go.Maps Go.Sort

section
variable {P : Program}

theorem perm_insK {α : Type} (le : α → α → Bool) (k : α) : ∀ l : List α, (insK le k l).Perm (k :: l)
  | [] => .refl _
  | x :: l => by
    unfold insK
    split
    · exact .refl _
    · exact ((perm_insK le k l).cons x).trans (.swap k x l)

theorem perm_sortK {α : Type} (le : α → α → Bool) : ∀ l : List α, (sortK le l).Perm l
  | [] => .refl _
  | k :: l => (perm_insK le k _).trans ((perm_sortK le l).cons k)

theorem pair_insK {α : Type} (le : α → α → Bool) (tr : ∀ a b c, le a b = true → le b c = true → le a c = true) (to : ∀ a b, le a b = false → le b a = true) (k : α) : ∀ l : List α, l.Pairwise (fun a b => le a b = true) → (insK le k l).Pairwise (fun a b => le a b = true)
  | [], _ => by simp [insK]
  | x :: l, h => by
    obtain ⟨h1, h2⟩ := List.pairwise_cons.1 h
    unfold insK
    split
    · rename_i hk
      refine List.pairwise_cons.2 ⟨fun y hy => ?_, h⟩
      rcases List.mem_cons.1 hy with rfl | hy
      · exact hk
      · exact tr k x y hk (h1 y hy)
    · rename_i hk
      refine List.pairwise_cons.2 ⟨fun y hy => ?_, pair_insK le tr to k l h2⟩
      rcases List.mem_cons.1 ((perm_insK le k l).mem_iff.1 hy) with rfl | hy
      · exact to _ _ hk
      · exact h1 y hy

theorem pair_sortK {α : Type} (le : α → α → Bool) (tr : ∀ a b c, le a b = true → le b c = true → le a c = true) (to : ∀ a b, le a b = false → le b a = true) : ∀ l : List α, (sortK le l).Pairwise (fun a b => le a b = true)
  | [] => by simp [sortK]
  | k :: l => pair_insK le tr to k _ (pair_sortK le tr to l)

theorem insK_map {α β : Type} (f : α → β) (le : α → α → Bool) (le' : β → β → Bool) (h : ∀ a b, le' (f a) (f b) = le a b) (k : α) : ∀ l : List α, insK le' (f k) (l.map f) = (insK le k l).map f
  | [] => rfl
  | x :: l => by
    simp only [List.map_cons, insK, h]
    cases le k x with
    | true => rfl
    | false => simp only [List.map_cons]; rw [insK_map f le le' h k l]

theorem sortK_map {α β : Type} (f : α → β) (le : α → α → Bool) (le' : β → β → Bool) (h : ∀ a b, le' (f a) (f b) = le a b) : ∀ l : List α, sortK le' (l.map f) = (sortK le l).map f
  | [] => rfl
  | k :: l => by
    simp only [List.map_cons, sortK]
    rw [sortK_map f le le' h l, insK_map f le le' h]

/-- A string of V's out of its bytes. -/
def strV (l : List UInt8) : VV := .str ⟨l.toArray⟩

theorem keyLe_str (a b : List UInt8) : keyLe (strV a) (strV b) = leB a b := by
  simp only [keyLe, strV, bytesLess_eq, ByteArray.toList_eq]
  simp only [leB]
  by_cases h : b < a
  · rw [decide_eq_true h, decide_eq_false (fun h2 : a ≤ b => absurd h (List.not_lt.2 h2))]; rfl
  · rw [decide_eq_false h, decide_eq_true (List.not_lt.1 h)]; rfl

theorem sortK_merge (l : List (List UInt8)) : sortK leB l = l.mergeSort leB := by
  have tr : ∀ a b c : List UInt8, leB a b = true → leB b c = true → leB a c = true := fun a b c h1 h2 => by simp only [leB, decide_eq_true_eq] at *; exact List.le_trans h1 h2
  have to : ∀ a b : List UInt8, (leB a b || leB b a) = true := fun a b => by simp only [leB, Bool.or_eq_true, decide_eq_true_eq]; exact List.le_total a b
  have to2 : ∀ a b : List UInt8, leB a b = false → leB b a = true := fun a b h => by have := to a b; rw [h] at this; simpa using this
  refine List.Perm.eq_of_pairwise (le := fun a b => leB a b = true) (fun a b _ _ h1 h2 => ?_) (pair_sortK leB tr to2 l) (List.pairwise_mergeSort tr to l) ((perm_sortK leB l).trans (List.mergeSort_perm l leB).symm)
  simp only [leB, decide_eq_true_eq] at h1 h2
  exact List.le_antisymm h1 h2

/-- Keys that are strings: their bytes. -/
theorem strs_of : ∀ {l : List VV}, l.all isStrV = true → ∃ ss : List (List UInt8), l = ss.map strV ∧ ∀ s ∈ ss, s.length ≤ maxBytes
  | [], _ => ⟨[], rfl, by simp⟩
  | v :: l, h => by
    simp only [List.all_cons, Bool.and_eq_true] at h
    obtain ⟨ss, rfl, h2⟩ := strs_of h.2
    have hv : ∃ s, v = .str s := by
      cases v <;> first | exact ⟨_, rfl⟩ | exact absurd h.1 (by simp [isStrV])
    obtain ⟨s, rfl⟩ := hv
    have hs : s.size ≤ maxBytes := of_decide_eq_true h.1
    obtain ⟨⟨l⟩⟩ := s
    refine ⟨l :: ss, rfl, fun s hm => ?_⟩
    rcases List.mem_cons.1 hm with rfl | hm
    · exact hs
    · exact h2 s hm

/-- What a map of V's is to the maps' kit. -/
theorem owns_of {H : Type} {ρ : Ren} {w : World} {k : TypeId} (hk : P.underlying k = some .string) (R : Value → Option (DataW H × List MemPlace)) {b : Nat} {es : List (VV × VV)} {ents : Array MapEntry} {clock : Nat} (hb : w.heap[b]? = some (.map ents clock)) (hl : es.length = ents.size)
    (hst : MapKept.Stamped ents clock) (hrel : ∀ (i : Nat) p m, es[i]? = some p → ents[i]? = some m → RelV ρ p.1 m.key ∧ RelV ρ p.2 m.val) {ss : List (List UInt8)} (hss : es.map (·.1) = ss.map strV) (hsz : ∀ s ∈ ss, s.length ≤ maxBytes) (hlen : es.length ≤ maxLen)
    (hR : ∀ m ∈ ents.toList, ∃ y, R m.val = some y) :
    ∃ D0 : DataW H, w.ownsMap P k R b es.length D0 ∧ D0 = .map ((ents.toList.map (WideElems.rg P k R)).foldr DataW.insert []) ∧ (strKeys D0).Perm ss ∧ Maps.size D0 = es.length ∧
      (∀ (i : Nat) m, ents[i]? = some m → ∃ s, ss[i]? = some s ∧ m.key = encStr s ∧ WideElems.rg P k R m = (.string s, ((R m.val).getD (.nil, [])).1)) := by
  have key : ∀ (i : Nat) m, ents[i]? = some m → ∃ s, ss[i]? = some s ∧ m.key = encStr s ∧ s.length ≤ maxBytes := by
    intro i m hm
    have hi : i < es.length := by rw [hl]; exact (Array.getElem?_eq_some_iff.1 hm).1
    have hp := List.getElem?_eq_getElem hi
    have h1 := (hrel i _ _ hp hm).1
    have h2 : (es.map (·.1))[i]? = some (es[i].1) := by rw [List.getElem?_map, hp]; rfl
    rw [hss, List.getElem?_map] at h2
    simp only [Option.map_eq_some_iff] at h2
    obtain ⟨s, g1, g2⟩ := h2
    rw [← g2] at h1
    refine ⟨s, g1, ?_, hsz s (List.mem_of_getElem? g1)⟩
    unfold strV at h1
    generalize hmk : m.key = mk at h1
    cases h1
    simp [encStr]
  have hkeyOf : ∀ s : List UInt8, s.length ≤ maxBytes → keyOf P k (encStr s) = some (.string s) := by
    intro s hs
    have : s.length ≤ maxLen := Nat.le_trans hs (by decide)
    have h2 : (ByteArray.mk s.toArray).size ≤ maxLen := this
    simp [keyOf, hk, mapKey, encStr, h2]
  have hrd : ∀ (i : Nat) m, ents[i]? = some m → ∃ s, ss[i]? = some s ∧ m.key = encStr s ∧ WideElems.rd P k R m = some (.string s, ((R m.val).getD (.nil, [])).1) := by
    intro i m hm
    obtain ⟨s, g1, g2, g3⟩ := key i m hm
    obtain ⟨y, hy⟩ := hR m (List.mem_of_getElem? (i := i) (by rw [Array.getElem?_toList]; exact hm))
    refine ⟨s, g1, g2, ?_⟩
    unfold WideElems.rd
    rw [g2, hkeyOf s g3, hy]; rfl
  have hrg : ∀ (i : Nat) m, ents[i]? = some m → ∃ s, ss[i]? = some s ∧ m.key = encStr s ∧ WideElems.rg P k R m = (.string s, ((R m.val).getD (.nil, [])).1) := by
    intro i m hm
    obtain ⟨s, g1, g2, g3⟩ := hrd i m hm
    exact ⟨s, g1, g2, by unfold WideElems.rg; rw [g3]; rfl⟩
  refine ⟨_, ⟨ents, clock, hb, ⟨by rw [← hl]; exact hlen, hst, fun x hx => ?_⟩, by omega, rfl⟩, rfl, ?_, ?_, hrg⟩
  · obtain ⟨i, hi⟩ := List.getElem?_of_mem hx
    obtain ⟨s, _, _, h3⟩ := hrd i x (by simpa using hi)
    exact ⟨_, h3⟩
  · show (((ents.toList.map (WideElems.rg P k R)).foldr DataW.insert []).map fun p => Go.strOf p.1).Perm ss
    refine ((WideShapes.sorted_perm _).map _).trans ?_
    rw [List.map_map]
    have : ents.toList.map ((fun p => Go.strOf p.1) ∘ WideElems.rg P k R) = ss := by
      apply List.ext_getElem?
      intro i
      rw [List.getElem?_map, Array.getElem?_toList]
      cases hm : ents[i]? with
      | none =>
        have h1 : ents.size ≤ i := Array.getElem?_eq_none_iff.1 hm
        have h2 : ss.length = es.length := by have := congrArg List.length hss; simpa using this.symm
        rw [List.getElem?_eq_none (by omega)]; rfl
      | some m =>
        obtain ⟨s, g1, g2, g3⟩ := hrg i m hm
        rw [g1]
        simp only [Option.map_some, Function.comp_apply, g3, Go.strOf]
    rw [this]
  · show ((ents.toList.map (WideElems.rg P k R)).foldr DataW.insert []).length = _
    rw [(WideShapes.sorted_perm _).length_eq, List.length_map, Array.length_toList, hl]

theorem rd_cell {ρ : Ren} {h : VHeap} {w : World} (hR : Rel ρ h.get w) {b i g : Nat} {l : Loc} (hb : ρ b = some l) {v : VV} (hrd : V.rd h b i g 1 = some [v]) : ∃ mv, w.cell? (addrAt l i g) = some mv ∧ RelV ρ v mv := by
  unfold V.rd at hrd
  split at hrd
  · rename_i k hg
    split at hrd
    · rename_i cs hi
      split at hrd
      · rename_i hle
        simp only [Option.some.injEq] at hrd
        obtain ⟨o, ho, hr⟩ := hR.obj b l hb
        rw [hg] at ho; simp only [Option.some.injEq] at ho; subst ho
        generalize hmo : w.heap[l.mb]? = mo at hr
        cases hr with
        | cells k c t fr hro hs he h0 hin hfr hc =>
          obtain ⟨a1, a2, a3⟩ := hc i cs hi
          have hv : cs[g]? = some v := by
            have : (List.take 1 (List.drop g cs))[0]? = some v := by rw [hrd]; rfl
            rw [List.getElem?_take, if_pos (by omega), List.getElem?_drop] at this
            simpa using this
          obtain ⟨mv, m1, m2⟩ := a3 g v hv
          refine ⟨mv, ?_, m2⟩
          rw [show addrAt l i g = ⟨l.mb, l.coff + i * l.esz + g, none⟩ from rfl]
          rw [cell_of_row w l.mb _ c t fr hmo]
          exact m1
      · cases hrd
    · cases hrd
  · cases hrd

/-- slices.Sorted(maps.Keys(x.m)), x behind a pointer; keys are strings. -/
theorem xKeys_sound {f off k e : FuncId} (hk : P.underlying k = some .string)
    (hcl : ∀ (w : World) (blk o mb nn : Nat) (D0 : DataW Unit) (R : Value → Option (DataW Unit × List MemPlace)), w.cell? ⟨blk, o + off, none⟩ = some (.map (some mb)) → w.ownsMap P k R mb nn D0 → Maps.size D0 ≤ maxLen → Maps.size D0 * 16 ≤ 140737488355328 →
      Calls P f #[.pointer (some ⟨blk, o, none⟩)] w fun en w' => ∃ (v : Value) (ss : List (List UInt8)), en = .returned v ∧ ss.Perm (strKeys D0) ∧ w'.ownsRow w.heap.size e 1 v ss.length ((ss.mergeSort leB).map encStr) ∧ (v = .slice none 0 0 ↔ ss = []) ∧ Below w.heap.size w w')
    {args : List VV} {h h' : VHeap} {v : VV} (hop : xKeys off isStrV args h = some (v, h')) : SoundF P f args h v h' := by
  intro ρ w margs hR hw hrel _hG
  unfold xKeys at hop
  split at hop
  · rename_i h0 b i g
    split at hop
    · rename_i m hrd
      split at hop
      · rename_i es hg
        split at hop
        · rename_i hc
          simp only [Bool.and_eq_true, decide_eq_true_eq] at hc
          obtain ⟨hall, hlen⟩ := hc
          obtain ⟨mv, rfl, hm⟩ := hrel.one_inv
          cases hm with
          | ptr _ _ _ l hb =>
            obtain ⟨cv, hcv, hcr⟩ := rd_cell hR hb hrd
            cases hcr with
            | map _ l2 hb2 =>
              obtain ⟨ents, clock, hmo, hl, hst, hh⟩ := map_at hR hg hb2
              obtain ⟨ss, hss, hsz⟩ := strs_of hall
              have hmb : maxBytes = 140737488355328 := by decide
              obtain ⟨D0, hown, _, hperm, hsize, _⟩ := owns_of (P := P) (H := Unit) hk (fun _ => some (.nil, [])) hmo hl hst hh hss hsz (by unfold maxLen; omega) (fun m _ => ⟨_, rfl⟩)
              refine (hcl w l.mb (l.coff + i * l.esz + g) l2.mb es.length D0 _ (by rw [show (⟨l.mb, l.coff + i * l.esz + g + off, none⟩ : Addr) = addrAt l i (g + off) by simp [addrAt, Nat.add_assoc]]; exact hcv) hown (by rw [hsize]; unfold maxLen; omega) (by rw [hsize]; omega)).mono ?_
              rintro en w' ⟨mv, ts, rfl, hts, hrow, hnil, hbel⟩
              have hsort : (ts.mergeSort leB) = sortK leB ss := by rw [sortK_merge]; exact mergeSort_of_perm (hts.trans hperm)
              have hks : sortK keyLe (es.map (·.1)) = (sortK leB ss).map strV := by rw [hss]; exact sortK_map strV leB keyLe keyLe_str ss
              have hlts : ts.length = (sortK leB ss).length := by rw [← hsort]; exact (List.mergeSort_perm ts leB).length_eq.symm
              rw [hks] at hop
              rw [hsort] at hrow
              generalize hq : sortK leB ss = qs at hop hrow hlts
              cases qs with
              | nil =>
                simp only [List.map_nil, Option.some.injEq, Prod.mk.injEq] at hop
                obtain ⟨rfl, rfl⟩ := hop
                have : ts = [] := List.eq_nil_of_length_eq_zero hlts
                rw [hnil.2 this]
                exact ⟨_, ρ, rfl, step_quiet hR hw hbel, .nilslice⟩
              | cons q qs =>
                simp only [List.map_cons, Option.some.injEq, Prod.mk.injEq] at hop
                obtain ⟨rfl, rfl⟩ := hop
                have hne : ts ≠ [] := by rintro rfl; simp at hlts
                obtain ⟨r1, r2⟩ := hrow
                rcases r2 with ⟨_, r0⟩ | ⟨g2, cap, cur, rfl, hge, hcur, hcap, hmax, hsz2, htake⟩
                · exact absurd (List.eq_nil_of_length_eq_zero r0) hne
                · rw [Nat.mul_one] at hsz2 htake
                  have hlen2 : ts.length = qs.length + 1 := hlts
                  have hn : (strV q :: qs.map strV).length = ts.length := by simp only [List.length_map, List.length_cons]; omega
                  rw [hn]
                  refine ⟨_, _, rfl, step_below (l := ⟨g2, 0, 1, cur.size, false⟩) hR hw hbel _ _ hge hcur rfl (.cells { es := (strV q :: qs.map strV).map fun x => [x], esz := 1, fam := h.next, org := 0, solo := true, last := true, ro := false } cur e (0, 0) (fun _ => rfl) rfl rfl Nat.one_pos (by show 0 + ((strV q :: qs.map strV).map fun x => [x]).length * 1 ≤ cur.size; simp only [List.length_map, List.length_cons]; omega) (fun _ x _ => by simp) (fun j cs hcs => ?_)) (fun k hk => by cases hk; rfl),
                    RelV.slice _ 0 _ none 1 ⟨g2, 0, 1, cur.size, false⟩ ⟨g2, 0, none⟩ cap (add_self _ _ _) rfl hcap hmax (fun k e => by cases e) (fun _ _ => by show 0 + (0 + cap) * 1 = cur.size; omega) (.inl (by simp [addrAt]))⟩
                  have hcs' : ((q :: qs).map fun x => [strV x])[j]? = some cs := by
                    have e0 : ((q :: qs).map fun x => [strV x]) = (strV q :: qs.map strV).map fun x => [x] := by rw [← List.map_cons, List.map_map]; rfl
                    rw [e0]; exact hcs
                  rw [List.getElem?_map] at hcs'
                  simp only [Option.map_eq_some_iff] at hcs'
                  obtain ⟨x, hx, rfl⟩ := hcs'
                  refine ⟨rfl, rfl, fun j2 y hy => ?_⟩
                  cases j2 with
                  | succ j2 => simp at hy
                  | zero =>
                    simp at hy; subst hy
                    have hjl : j < ts.length := by rw [hlen2]; have := (List.getElem?_eq_some_iff.1 hx).1; simpa using this
                    have e1 : (cur.toList.take ts.length)[j]? = some (encStr x) := by rw [htake, List.getElem?_map, hx]; rfl
                    rw [List.getElem?_take, if_pos hjl, Array.getElem?_toList] at e1
                    refine ⟨encStr x, by simpa using e1, ?_⟩
                    show RelV ρ (.str ⟨x.toArray⟩) (.string ⟨x.toArray⟩)
                    exact .str _
        · cases hop
      · cases hop
    · cases hop
  · cases hop
end
end Go.Proofs.YtbeiflhnogedeaaDoor.V

/- V: a map's keys that are numbers, in order; a piece cut out of a row of numbers: where the library's contracts stand. -/
namespace Go.Proofs.YtbeiflhnogedeaaDoor.V
open Go.RowKit Go.Maps Go.Sort

section
variable {P : Program}

def intV (n : Int) : VV := .int .i64 n

theorem keyLe_int (a b : Int) : keyLe (intV a) (intV b) = leI a b := rfl

theorem sortK_mergeI (l : List Int) : sortK leI l = l.mergeSort leI := by
  have tr : ∀ a b c : Int, leI a b = true → leI b c = true → leI a c = true := fun a b c h1 h2 => by simp only [leI, decide_eq_true_eq] at *; exact Int.le_trans h1 h2
  have to : ∀ a b : Int, (leI a b || leI b a) = true := fun a b => by simp only [leI, Bool.or_eq_true, decide_eq_true_eq]; exact Int.le_total a b
  have to2 : ∀ a b : Int, leI a b = false → leI b a = true := fun a b h => by have := to a b; rw [h] at this; simpa using this
  refine List.Perm.eq_of_pairwise (le := fun a b => leI a b = true) (fun a b _ _ h1 h2 => ?_) (pair_sortK leI tr to2 l) (List.pairwise_mergeSort tr to l) ((perm_sortK leI l).trans (List.mergeSort_perm l leI).symm)
  simp only [leI, decide_eq_true_eq] at h1 h2
  exact Int.le_antisymm h1 h2

/-- Keys that are numbers. -/
theorem ints_of : ∀ {l : List VV}, l.all isIntV = true → ∃ ss : List Int, l = ss.map intV ∧ ∀ s ∈ ss, -9223372036854775808 ≤ s ∧ s ≤ 9223372036854775807
  | [], _ => ⟨[], rfl, by simp⟩
  | v :: l, h => by
    simp only [List.all_cons, Bool.and_eq_true] at h
    obtain ⟨ss, rfl, h2⟩ := ints_of h.2
    have hv : ∃ s, v = .int .i64 s := by
      cases v with
      | int k n => cases k <;> first | exact ⟨_, rfl⟩ | exact absurd h.1 (by simp [isIntV])
      | _ => exact absurd h.1 (by simp [isIntV])
    obtain ⟨s, rfl⟩ := hv
    have hs := of_decide_eq_true h.1
    refine ⟨s :: ss, rfl, fun x hm => ?_⟩
    rcases List.mem_cons.1 hm with rfl | hm
    · exact hs
    · exact h2 x hm

/-- What a map of V's is to the maps' kit: keys are numbers. -/
theorem owns_ofI {H : Type} {ρ : Ren} {w : World} {k : TypeId} (hk : P.underlying k = some (.int .i64)) (R : Value → Option (DataW H × List MemPlace)) {b : Nat} {es : List (VV × VV)} {ents : Array MapEntry} {clock : Nat} (hb : w.heap[b]? = some (.map ents clock)) (hl : es.length = ents.size)
    (hst : MapKept.Stamped ents clock) (hrel : ∀ (i : Nat) p m, es[i]? = some p → ents[i]? = some m → RelV ρ p.1 m.key ∧ RelV ρ p.2 m.val) {ss : List Int} (hss : es.map (·.1) = ss.map intV) (hsz : ∀ s ∈ ss, -9223372036854775808 ≤ s ∧ s ≤ 9223372036854775807) (hlen : es.length ≤ maxLen)
    (hR : ∀ m ∈ ents.toList, ∃ y, R m.val = some y) :
    ∃ D0 : DataW H, w.ownsMap P k R b es.length D0 ∧ (intKeys D0).Perm ss ∧ Maps.size D0 = es.length := by
  have key : ∀ (i : Nat) m, ents[i]? = some m → ∃ s, ss[i]? = some s ∧ m.key = encZ s ∧ (-9223372036854775808 ≤ s ∧ s ≤ 9223372036854775807) := by
    intro i m hm
    have hi : i < es.length := by rw [hl]; exact (Array.getElem?_eq_some_iff.1 hm).1
    have hp := List.getElem?_eq_getElem hi
    have h1 := (hrel i _ _ hp hm).1
    have h2 : (es.map (·.1))[i]? = some (es[i].1) := by rw [List.getElem?_map, hp]; rfl
    rw [hss, List.getElem?_map] at h2
    simp only [Option.map_eq_some_iff] at h2
    obtain ⟨s, g1, g2⟩ := h2
    rw [← g2] at h1
    refine ⟨s, g1, ?_, hsz s (List.mem_of_getElem? g1)⟩
    unfold intV at h1
    generalize hmk : m.key = mk at h1
    cases h1
    rfl
  have hkeyOf : ∀ s : Int, (-9223372036854775808 ≤ s ∧ s ≤ 9223372036854775807) → keyOf P k (encZ s) = some (.int .i64 s) := by
    intro s hs
    have hw : (Lit.int .i64 s).wf = true := by
      simp only [Lit.wf]
      have e1 : IntKind.i64.min = -9223372036854775808 := by decide
      have e2 : IntKind.i64.max = 9223372036854775807 := by decide
      simp [e1, e2, hs.1, hs.2]
    simp [keyOf, hk, mapKey, encZ, hw]
  have hrd : ∀ (i : Nat) m, ents[i]? = some m → ∃ s, ss[i]? = some s ∧ m.key = encZ s ∧ WideElems.rd P k R m = some (.int .i64 s, ((R m.val).getD (.nil, [])).1) := by
    intro i m hm
    obtain ⟨s, g1, g2, g3⟩ := key i m hm
    obtain ⟨y, hy⟩ := hR m (List.mem_of_getElem? (i := i) (by rw [Array.getElem?_toList]; exact hm))
    refine ⟨s, g1, g2, ?_⟩
    unfold WideElems.rd
    rw [g2, hkeyOf s g3, hy]; rfl
  have hrg : ∀ (i : Nat) m, ents[i]? = some m → ∃ s, ss[i]? = some s ∧ WideElems.rg P k R m = (.int .i64 s, ((R m.val).getD (.nil, [])).1) := by
    intro i m hm
    obtain ⟨s, g1, g2, g3⟩ := hrd i m hm
    exact ⟨s, g1, by unfold WideElems.rg; rw [g3]; rfl⟩
  refine ⟨_, ⟨ents, clock, hb, ⟨by rw [← hl]; exact hlen, hst, fun x hx => ?_⟩, by omega, rfl⟩, ?_, ?_⟩
  · obtain ⟨i, hi⟩ := List.getElem?_of_mem hx
    obtain ⟨s, _, _, h3⟩ := hrd i x (by simpa using hi)
    exact ⟨_, h3⟩
  · show (((ents.toList.map (WideElems.rg P k R)).foldr DataW.insert []).map fun p => Go.intOf p.1).Perm ss
    refine ((WideShapes.sorted_perm _).map _).trans ?_
    rw [List.map_map]
    have : ents.toList.map ((fun p => Go.intOf p.1) ∘ WideElems.rg P k R) = ss := by
      apply List.ext_getElem?
      intro i
      rw [List.getElem?_map, Array.getElem?_toList]
      cases hm : ents[i]? with
      | none =>
        have h1 : ents.size ≤ i := Array.getElem?_eq_none_iff.1 hm
        have h2 : ss.length = es.length := by have := congrArg List.length hss; simpa using this.symm
        rw [List.getElem?_eq_none (by omega)]; rfl
      | some m =>
        obtain ⟨s, g1, g3⟩ := hrg i m hm
        rw [g1]
        simp only [Option.map_some, Function.comp_apply, g3, Go.intOf]
    rw [this]
  · show ((ents.toList.map (WideElems.rg P k R)).foldr DataW.insert []).length = _
    rw [(WideShapes.sorted_perm _).length_eq, List.length_map, Array.length_toList, hl]

/-- slices.Sorted(maps.Keys(x.m)), x behind a pointer; keys are numbers. -/
theorem xKeysI_sound {f off k e : FuncId} (hk : P.underlying k = some (.int .i64))
    (hcl : ∀ (w : World) (blk o mb nn : Nat) (D0 : DataW Unit) (R : Value → Option (DataW Unit × List MemPlace)), w.cell? ⟨blk, o + off, none⟩ = some (.map (some mb)) → w.ownsMap P k R mb nn D0 → Maps.size D0 ≤ maxLen → Maps.size D0 * 8 ≤ 140737488355328 →
      Calls P f #[.pointer (some ⟨blk, o, none⟩)] w fun en w' => ∃ (v : Value) (ss : List Int), en = .returned v ∧ ss.Perm (intKeys D0) ∧ w'.ownsRow w.heap.size e 1 v ss.length ((ss.mergeSort leI).map encZ) ∧ (v = .slice none 0 0 ↔ ss = []) ∧ Below w.heap.size w w')
    {args : List VV} {h h' : VHeap} {v : VV} (hop : xKeys off isIntV args h = some (v, h')) : SoundF P f args h v h' := by
  intro ρ w margs hR hw hrel _hG
  unfold xKeys at hop
  split at hop
  · rename_i h0 b i g
    split at hop
    · rename_i m hrd
      split at hop
      · rename_i es hg
        split at hop
        · rename_i hc
          simp only [Bool.and_eq_true, decide_eq_true_eq] at hc
          obtain ⟨hall, hlen⟩ := hc
          obtain ⟨mv, rfl, hm⟩ := hrel.one_inv
          cases hm with
          | ptr _ _ _ l hb =>
            obtain ⟨cv, hcv, hcr⟩ := rd_cell hR hb hrd
            cases hcr with
            | map _ l2 hb2 =>
              obtain ⟨ents, clock, hmo, hl, hst, hh⟩ := map_at hR hg hb2
              obtain ⟨ss, hss, hsz⟩ := ints_of hall
              have hmb : maxBytes = 140737488355328 := by decide
              obtain ⟨D0, hown, hperm, hsize⟩ := owns_ofI (P := P) (H := Unit) hk (fun _ => some (.nil, [])) hmo hl hst hh hss hsz (by unfold maxLen; omega) (fun m _ => ⟨_, rfl⟩)
              refine (hcl w l.mb (l.coff + i * l.esz + g) l2.mb es.length D0 _ (by rw [show (⟨l.mb, l.coff + i * l.esz + g + off, none⟩ : Addr) = addrAt l i (g + off) by simp [addrAt, Nat.add_assoc]]; exact hcv) hown (by rw [hsize]; unfold maxLen; omega) (by rw [hsize]; omega)).mono ?_
              rintro en w' ⟨mv, ts, rfl, hts, hrow, hnil, hbel⟩
              have hsort : (ts.mergeSort leI) = sortK leI ss := by rw [sortK_mergeI]; exact mergeSort_of_perm_i (hts.trans hperm)
              have hks : sortK keyLe (es.map (·.1)) = (sortK leI ss).map intV := by rw [hss]; exact sortK_map intV leI keyLe keyLe_int ss
              have hlts : ts.length = (sortK leI ss).length := by rw [← hsort]; exact (List.mergeSort_perm ts leI).length_eq.symm
              rw [hks] at hop
              rw [hsort] at hrow
              generalize hq : sortK leI ss = qs at hop hrow hlts
              cases qs with
              | nil =>
                simp only [List.map_nil, Option.some.injEq, Prod.mk.injEq] at hop
                obtain ⟨rfl, rfl⟩ := hop
                have : ts = [] := List.eq_nil_of_length_eq_zero hlts
                rw [hnil.2 this]
                exact ⟨_, ρ, rfl, step_quiet hR hw hbel, .nilslice⟩
              | cons q qs =>
                simp only [List.map_cons, Option.some.injEq, Prod.mk.injEq] at hop
                obtain ⟨rfl, rfl⟩ := hop
                have hne : ts ≠ [] := by rintro rfl; simp at hlts
                obtain ⟨r1, r2⟩ := hrow
                rcases r2 with ⟨_, r0⟩ | ⟨g2, cap, cur, rfl, hge, hcur, hcap, hmax, hsz2, htake⟩
                · exact absurd (List.eq_nil_of_length_eq_zero r0) hne
                · rw [Nat.mul_one] at hsz2 htake
                  have hlen2 : ts.length = qs.length + 1 := hlts
                  have hn : (intV q :: qs.map intV).length = ts.length := by simp only [List.length_map, List.length_cons]; omega
                  rw [hn]
                  refine ⟨_, _, rfl, step_below (l := ⟨g2, 0, 1, cur.size, false⟩) hR hw hbel _ _ hge hcur rfl (.cells { es := (intV q :: qs.map intV).map fun x => [x], esz := 1, fam := h.next, org := 0, solo := true, last := true, ro := false } cur e (0, 0) (fun _ => rfl) rfl rfl Nat.zero_lt_one (by show 0 + ((intV q :: qs.map intV).map fun x => [x]).length * 1 ≤ cur.size; rw [List.length_map, hn]; omega) (fun _ x _ => by simp) fun j cs hcs => ?_) (fun k hk => by cases hk; rfl),
                    RelV.slice _ 0 _ none 1 ⟨g2, 0, 1, cur.size, false⟩ ⟨g2, 0, none⟩ cap (add_self _ _ _) rfl hcap hmax (fun k e => by cases e) (fun _ _ => by show 0 + (0 + cap) * 1 = cur.size; omega) (.inl (by simp [addrAt]))⟩
                  have hcs' : ((q :: qs).map fun x => [intV x])[j]? = some cs := by
                    have e0 : ((q :: qs).map fun x => [intV x]) = (intV q :: qs.map intV).map fun x => [x] := by rw [← List.map_cons, List.map_map]; rfl
                    rw [e0]; exact hcs
                  rw [List.getElem?_map] at hcs'
                  simp only [Option.map_eq_some_iff] at hcs'
                  obtain ⟨x, hx, rfl⟩ := hcs'
                  refine ⟨rfl, rfl, fun j2 y hy => ?_⟩
                  cases j2 with
                  | succ j2 => simp at hy
                  | zero =>
                    simp at hy; subst hy
                    have hjl : j < ts.length := by rw [hlen2]; have := (List.getElem?_eq_some_iff.1 hx).1; simpa using this
                    have e1 : (cur.toList.take ts.length)[j]? = some (encZ x) := by rw [htake, List.getElem?_map, hx]; rfl
                    rw [List.getElem?_take, if_pos hjl, Array.getElem?_toList] at e1
                    refine ⟨encZ x, by simpa using e1, ?_⟩
                    exact .int _ _
        · cases hop
      · cases hop
    · cases hop
  · cases hop

theorem ints1_of : ∀ {l : List (List VV)}, l.all isInt1 = true → ∃ zs : List Int, l = zs.map fun z => [VV.int .i64 z]
  | [], _ => ⟨[], rfl⟩
  | v :: l, h => by
    simp only [List.all_cons, Bool.and_eq_true] at h
    obtain ⟨zs, rfl⟩ := ints1_of h.2
    have hv : ∃ z, v = [.int .i64 z] := by
      have h1 := h.1
      unfold isInt1 at h1
      split at h1
      · exact ⟨_, rfl⟩
      · cases h1
    obtain ⟨z, rfl⟩ := hv
    exact ⟨z :: zs, rfl⟩

/-- slices.Delete at numbers. -/
theorem xDelete_sound {f : FuncId} (hcl : ∀ (blk off cap i j : Nat) (zs : List Int) (w : World), Holds (Value.int .i64) w blk off zs.toArray → zs.length ≤ cap → cap ≤ 9223372036854775807 → i ≤ j → j ≤ zs.length →
      Calls P f #[.slice (some ⟨blk, off, none⟩) zs.length cap, .int .i64 i, .int .i64 j] w fun e w' => e = .returned (.slice (some ⟨blk, off, none⟩) (zs.length - (j - i)) cap) ∧ ∃ q, w' = putRow (Value.int .i64) (Sort.ahead w q) blk off (zs.take i ++ zs.drop j ++ List.replicate (j - i) 0).toArray)
    {args : List VV} {h h' : VHeap} {v : VV} (hop : xDelete args h = some (v, h')) : SoundF P f args h v h' := by
  intro ρ w margs hR hw hrel _hG
  unfold xDelete at hop
  split at hop
  · rename_i b i n c lo hi
    split at hop
    · rename_i k hg
      split at hop
      · rename_i hc
        obtain ⟨q1, q2, q3, q4, q5, q6⟩ := hc
        obtain ⟨zs, hzs⟩ := ints1_of q6
        simp only [Option.map_eq_some_iff] at hop
        obtain ⟨h1, hov, hop⟩ := hop
        simp only [Prod.mk.injEq] at hop
        obtain ⟨rfl, rfl⟩ := hop
        have hn : zs.length = n := by
          have := congrArg List.length hzs
          simp only [List.length_take, List.length_drop, List.length_map] at this
          omega
        rw [hzs] at hov
        have hxs : (zs.map fun z => [VV.int .i64 z]).take lo.toNat ++ (zs.map fun z => [VV.int .i64 z]).drop hi.toNat ++ List.replicate (hi.toNat - lo.toNat) [VV.int .i64 0] = (zs.take lo.toNat ++ zs.drop hi.toNat ++ List.replicate (hi.toNat - lo.toNat) 0).map fun z => [VV.int .i64 z] := by
          simp [List.map_append, List.map_take, List.map_drop, List.map_replicate]
        rw [hxs] at hov
        generalize hys : zs.take lo.toNat ++ zs.drop hi.toNat ++ List.replicate (hi.toNat - lo.toNat) (0 : Int) = ys at hov
        have hyl : ys.length = n := by rw [← hys]; simp; omega
        unfold overwrite at hov
        rw [hg] at hov
        simp only at hov
        split at hov
        · cases hov
        · rename_i hro0
          have hro : k.ro = false := by
            cases hb : k.ro with
            | false => rfl
            | true => exact absurd (.inl hb) hro0
          simp only [Option.some.injEq] at hov
          obtain ⟨m1, ms, rfl, r1, hrel⟩ := hrel.of_cons
          obtain ⟨m2, m3, rfl, r2, r3⟩ := hrel.two_inv
          cases r2; cases r3
          cases r1 with
          | slice _ _ _ _ _ l a mcap hb hz hn' hm hcc ho ha =>
            have ha2 : a = addrAt l i 0 := by
              rcases ha with ha | ⟨ha, _⟩
              · exact ha
              · omega
            subst ha2
            obtain ⟨o, hob, hro2⟩ := hR.obj b l hb
            rw [hg] at hob; simp only [Option.some.injEq] at hob; subst hob
            generalize hmo : w.heap[l.mb]? = mo at hro2
            cases hro2 with
            | cells _ cs t fr hr hs he h0 hin hfr hcells =>
              have hesz : l.esz = 1 := by rw [← he]; exact q5
              have hle : (k.es.take i ++ (ys.map fun z => [VV.int .i64 z]) ++ k.es.drop (i + (ys.map fun z => [VV.int .i64 z]).length)).length = k.es.length := by simp; omega
              have hin1 : l.coff + k.es.length ≤ l.msz := by rw [hesz] at hin; omega
              have hel : ∀ j (hj : j < zs.length), k.es[i + j]? = some [VV.int .i64 zs[j]] := by
                intro j hj
                have : ((k.es.drop i).take n)[j]? = some [VV.int .i64 zs[j]] := by rw [hzs, List.getElem?_map, List.getElem?_eq_getElem hj]; rfl
                rw [List.getElem?_take, if_pos (by omega), List.getElem?_drop] at this
                exact this
              have hH : Holds (Value.int .i64) w l.mb (l.coff + i * l.esz + 0) zs.toArray := by
                intro j hj
                have hj' : j < zs.length := by simpa using hj
                obtain ⟨_, _, a3⟩ := hcells (i + j) _ (hel j hj')
                obtain ⟨mv, m1, m2⟩ := a3 0 _ rfl
                have hx : l.coff + (i + j) * l.esz + 0 = l.coff + i * l.esz + 0 + j := by rw [hesz]; omega
                rw [hx] at m1
                cases m2
                refine ⟨?_, ?_⟩
                · rw [cell_of_row w l.mb _ cs t fr hmo, m1]
                  simp [hj']
                · have hnf := hfr hro (l.coff + i * l.esz + 0 + j) (by rw [hesz]; omega)
                  unfold World.frozen?
                  rw [hmo]
                  obtain ⟨f1, f2⟩ := fr
                  simp only [Bool.and_eq_false_iff, decide_eq_false_iff_not]
                  simp only [not_and] at hnf
                  by_cases hh : f1 ≤ l.coff + i * l.esz + 0 + j
                  · exact .inr (hnf hh)
                  · exact .inl hh
              obtain ⟨lo', rfl⟩ : ∃ x : Nat, lo = (x : Int) := ⟨lo.toNat, by omega⟩
              obtain ⟨hi', rfl⟩ : ∃ x : Nat, hi = (x : Int) := ⟨hi.toNat, by omega⟩
              simp only [Int.toNat_natCast] at hys q3
              subst hn
              refine (hcl l.mb (l.coff + i * l.esz + 0) mcap lo' hi' zs w hH hn' (by unfold maxLen at hm; omega) (by omega) (by omega)).mono ?_
              rintro e w' ⟨rfl, q, rfl⟩
              rw [hys]
              simp only [Int.toNat_natCast]
              refine ⟨_, ρ, rfl, ?_, ?_⟩
              · rw [← hov]
                have hw2 : (putRow (Value.int .i64) (Sort.ahead w q) l.mb (l.coff + i * l.esz + 0) ys.toArray).heap[l.mb]? = some (.cells (putCells (Value.int .i64) (l.coff + i * l.esz + 0) ys.toArray cs) t fr) := by
                  show (w.heap.modify l.mb (onCells _))[l.mb]? = _
                  rw [Array.getElem?_modify, if_pos rfl, hmo]; rfl
                have hget : ∀ x, (putCells (Value.int .i64) (l.coff + i * l.esz + 0) ys.toArray cs)[x]? = if l.coff + i * l.esz + 0 ≤ x ∧ x < l.coff + i * l.esz + 0 + ys.length then (cs[x]?).map (fun _ => Value.int .i64 (ys.toArray[x - (l.coff + i * l.esz + 0)]!)) else cs[x]? := by
                  intro x
                  unfold putCells
                  rw [Array.getElem?_mapIdx]
                  simp only [List.size_toArray]
                  split
                  · rfl
                  · cases cs[x]? <;> rfl
                refine step_write (c := cs) (c' := putCells (Value.int .i64) (l.coff + i * l.esz + 0) ys.toArray cs) (t := t) (fr := fr) hR hw hb hg hro i _ hle hmo (by unfold putCells; simp) (fun x hx => ?_) (fun j cz hcz => ?_) hw2 ⟨by show (w.heap.modify _ _).size = _; simp, rfl, rfl, rfl, fun k2 hk2 => by show (w.heap.modify _ _)[k2]? = _; rw [Array.getElem?_modify, if_neg (fun e => hk2 e.symm)]⟩
                · rw [hget, if_neg (by omega)]
                · have hcz : (k.es.take i ++ (ys.map fun z => [VV.int .i64 z]) ++ k.es.drop (i + (ys.map fun z => [VV.int .i64 z]).length))[j]? = some cz := hcz
                  have hti : (k.es.take i).length = i := by simp; omega
                  rw [List.append_assoc] at hcz
                  by_cases hj1 : j < i
                  · rw [List.getElem?_append_left (by omega), List.getElem?_take, if_pos hj1] at hcz
                    obtain ⟨a1, a2, a3⟩ := hcells j cz hcz
                    refine ⟨a1, a2, fun m v hv => ?_⟩
                    have hmlt : m < 1 := by rw [← hesz, ← a1]; exact (List.getElem?_eq_some_iff.1 hv).1
                    obtain ⟨mv, b1, b2⟩ := a3 m v hv
                    refine ⟨mv, ?_, b2⟩
                    rw [hget, if_neg (by rw [hesz]; omega)]; exact b1
                  · rw [List.getElem?_append_right (by omega), hti] at hcz
                    by_cases hj2 : j - i < ys.length
                    · rw [List.getElem?_append_left (by simpa using hj2), List.getElem?_map, List.getElem?_eq_getElem hj2] at hcz
                      simp only [Option.map_some, Option.some.injEq] at hcz
                      subst hcz
                      refine ⟨by rw [hesz]; rfl, rfl, fun m v hv => ?_⟩
                      cases m with
                      | succ m => simp at hv
                      | zero =>
                        simp at hv; subst hv
                        have hlt : l.coff + j * l.esz + 0 < cs.size := by rw [hs, hesz]; omega
                        refine ⟨Value.int .i64 ys[j - i], ?_, .int _ _⟩
                        rw [hget, if_pos (by rw [hesz]; omega), Array.getElem?_eq_getElem hlt]
                        simp only [Option.map_some, Option.some.injEq, Value.int.injEq, true_and]
                        have e1 : l.coff + j * l.esz + 0 - (l.coff + i * l.esz + 0) = j - i := by rw [hesz]; omega
                        rw [e1]
                        simp [hj2]
                    · rw [List.getElem?_append_right (by simp; omega), List.getElem?_drop] at hcz
                      have hcz : k.es[j]? = some cz := by
                        rw [← hcz]; congr 1; simp; omega
                      obtain ⟨a1, a2, a3⟩ := hcells j cz hcz
                      refine ⟨a1, a2, fun m v hv => ?_⟩
                      have hmlt : m < 1 := by rw [← hesz, ← a1]; exact (List.getElem?_eq_some_iff.1 hv).1
                      obtain ⟨mv, b1, b2⟩ := a3 m v hv
                      refine ⟨mv, ?_, b2⟩
                      rw [hget, if_neg (by rw [hesz]; omega)]; exact b1
              · exact .slice _ _ _ _ _ l _ mcap hb hz (by omega) hm hcc ho (.inl (by rw [Nat.add_zero]; rfl))
      · cases hop
    · cases hop
  · cases hop
end
end Go.Proofs.YtbeiflhnogedeaaDoor.V

/- errors.As by its contracts: at an error that wraps a number; and at one that is what is looked for. -/
namespace Go.Proofs.YtbeiflhnogedeaaDoor
open Go.RowKit Go.Extern.Stop Go.Stop Go.Extern

/-- errors.As(nil, target). -/
theorem as_nil (t : Value) (w : World) : Calls Tryd.prog 15 #[.nilIface, t] w fun e w' => e = .returned (.bool false) ∧ w' = w := by
  go_enter Tryd.func15, Tryd.ntmps15
  go_wp2
  go_ret
  exact ⟨rfl, rfl⟩

theorem xmethodKind (h : Value) (w : World) : (Go.method 227 72 (.agg #[h]) "Kind").run Tryd.prog w = .ok (60, h) w := by kernel_rfl
theorem xmethodElem (h : Value) (w : World) : (Go.method 227 72 (.agg #[h]) "Elem").run Tryd.prog w = .ok (69, .agg #[h]) w := by kernel_rfl
theorem xmethodImplements (h : Value) (w : World) : (Go.method 227 72 (.agg #[h]) "Implements").run Tryd.prog w = .ok (70, .agg #[h]) w := by kernel_rfl
theorem xmethodAssignableTo (h : Value) (w : World) : (Go.method 227 72 (.agg #[h]) "AssignableTo").run Tryd.prog w = .ok (67, .agg #[h]) w := by kernel_rfl
theorem xmethodUnwrap (v : Value) (w : World) : (Go.method 227 39 v "Unwrap").run Tryd.prog w = .ok (16, v) w := by kernel_rfl
theorem rlm (z : Sem Value) (f : TypeId → Addr → Nat → Nat → Sem Value) (v : Value) :
    ReflectliteValue.method z f #[v] = (do match ← ReflectliteValue.parts v with | none => z | some (t, a, fl) => f t a fl (fl % 32)) := rfl
theorem rls (v x : Value) : ReflectliteValue.set #[v, x] = (do
    let (some (dst, a, fl), some (src, b, _)) := (← ReflectliteValue.parts v, ← ReflectliteValue.parts x)
      | unsupported (.noEntry "extern/(internal/reflectlite.Value).Set.zeroValue")
    if fl / ReflectliteValue.flagAddr % 2 == 0 then unsupported (.noEntry "extern/(internal/reflectlite.Value).Set.unaddressable")
    let val ← loadVar src b
    if ← Rtype.directlyAssignable dst src then storeVar dst a val
    else if ← Rtype.implements dst src then
      if (← Rtype.kind src) == 20 then
        match val with
        | .nilIface => unsupported (.noEntry "extern/reflectlite: a nil value of one interface type handed on as a value of another")
        | _ => storeVar dst a val
      else storeVar dst a (.iface src val)
    else panicString ("reflectlite.Set: value of type " ++ (← Rtype.spelt src) ++ " is not assignable to type " ++ (← Rtype.spelt dst))
    pure (.tuple #[])) := rfl

theorem xvalueOf56 (t : Addr) (w : World) : (ReflectliteValue.unpack (.iface 56 (.pointer (some t)))).run Tryd.prog w
    = .ok (.agg #[.pointer (some ⟨4, 56, none⟩), .pointer (some ⟨w.heap.size, 0, none⟩), .int .u64 150]) (w.alloc (.cells #[.pointer (some t)] 56)) := by kernel_rfl
theorem xtype56 (a : Addr) (w : World) : (ReflectliteValue.methodAny (ReflectliteValue.valueError "reflectlite.Value.Type" 0) (fun t _ _ _ => ReflectliteType.toType t) #[.agg #[.pointer (some ⟨4, 56, none⟩), .pointer (some a), .int .u64 150]]).run Tryd.prog w
    = .ok (.iface 72 (.agg #[.pointer (some ⟨4, 56, none⟩)])) w := by kernel_rfl
theorem xkind56 (w : World) : ((ReflectliteType.abiMethod fun t => (fun a : Nat => Value.int IntKind.u8 (a : Int)) <$> Rtype.kind t) #[.pointer (some ⟨4, 56, none⟩)]).run Tryd.prog w = .ok (.int .u8 22) w := by kernel_rfl
theorem xkind36 (w : World) : ((ReflectliteType.abiMethod fun t => (fun a : Nat => Value.int IntKind.u8 (a : Int)) <$> Rtype.kind t) #[.pointer (some ⟨4, 36, none⟩)]).run Tryd.prog w = .ok (.int .u8 2) w := by kernel_rfl
theorem xparts56 (a : Addr) (w : World) : (ReflectliteValue.parts (.agg #[.pointer (some ⟨4, 56, none⟩), .pointer (some a), .int .u64 150])).run Tryd.prog w = .ok (some (56, a, 150)) w := by kernel_rfl
theorem xisNil56 (a p : Addr) (W : World) (ha : W.cell? a = some (.pointer (some p))) :
    (ReflectliteValue.method (ReflectliteValue.valueError "reflectlite.Value.IsNil" 0) ReflectliteValue.isNil #[.agg #[.pointer (some ⟨4, 56, none⟩), .pointer (some a), .int .u64 150]]).run Tryd.prog W = .ok (.bool false) W := by
  rw [rlm]
  simp only [Sem.run_bind, xparts56, Result.andThen]
  simp [ReflectliteValue.isNil, loadVar, isAgg, underlying, Tryd.underlying56, ha, Result.andThen]
theorem xelem56 (w : World) : (ReflectliteType.method ReflectliteType.elem #[.agg #[.pointer (some ⟨4, 56, none⟩)]]).run Tryd.prog w = .ok (.iface 72 (.agg #[.pointer (some ⟨4, 36, none⟩)])) w := by kernel_rfl
theorem ximplements36 (w : World) : (ReflectliteType.relation "Implements" ReflectliteType.implements_ #[.agg #[.pointer (some ⟨4, 36, none⟩)], .iface 72 (.agg #[.pointer (some ⟨4, 29, none⟩)])]).run Tryd.prog w = .ok (.bool true) w := by kernel_rfl
theorem xtypeOf36 (v : Value) (w : World) : (ReflectliteType.typeOf #[.iface 36 v]).run Tryd.prog w = .ok (.iface 72 (.agg #[.pointer (some ⟨4, 36, none⟩)])) w := by kernel_rfl
theorem xassignable36 (w : World) : (ReflectliteType.relation "AssignableTo" ReflectliteType.assignableTo #[.agg #[.pointer (some ⟨4, 36, none⟩)], .iface 72 (.agg #[.pointer (some ⟨4, 36, none⟩)])]).run Tryd.prog w = .ok (.bool true) w := by kernel_rfl
theorem xvalueOf36 (n : Int) (w : World) : (ReflectliteValue.unpack (.iface 36 (.int .i64 n))).run Tryd.prog w
    = .ok (.agg #[.pointer (some ⟨4, 36, none⟩), .pointer (some ⟨w.heap.size, 0, none⟩), .int .u64 130]) (w.alloc (.cells #[.int .i64 n] 36)) := by kernel_rfl
theorem xelemOf56 (w : World) : (Rtype.elem? 56).run Tryd.prog w = .ok (some 36) w := by kernel_rfl
theorem xmk36 (p : Addr) (w : World) : (ReflectliteValue.mk 36 p ReflectliteValue.flagAddr).run Tryd.prog w = .ok (.agg #[.pointer (some ⟨4, 36, none⟩), .pointer (some p), .int .u64 386]) w := by kernel_rfl
theorem xelemV56 (a p : Addr) (W : World) (ha : W.cell? a = some (.pointer (some p))) :
    (ReflectliteValue.method (ReflectliteValue.valueError "reflectlite.Value.Elem" 0) ReflectliteValue.elem #[.agg #[.pointer (some ⟨4, 56, none⟩), .pointer (some a), .int .u64 150]]).run Tryd.prog W
      = .ok (.agg #[.pointer (some ⟨4, 36, none⟩), .pointer (some p), .int .u64 386]) W := by
  rw [rlm]
  simp only [Sem.run_bind, xparts56, Result.andThen]
  simp [ReflectliteValue.elem, loadVar, isAgg, underlying, Tryd.underlying56, ha, Result.andThen, xelemOf56, xmk36]
theorem xparts36a (a : Addr) (w : World) : (ReflectliteValue.parts (.agg #[.pointer (some ⟨4, 36, none⟩), .pointer (some a), .int .u64 386])).run Tryd.prog w = .ok (some (36, a, 386)) w := by kernel_rfl
theorem xparts36 (a : Addr) (w : World) : (ReflectliteValue.parts (.agg #[.pointer (some ⟨4, 36, none⟩), .pointer (some a), .int .u64 130])).run Tryd.prog w = .ok (some (36, a, 130)) w := by kernel_rfl
theorem xdirect36 (w : World) : (Rtype.directlyAssignable 36 36).run Tryd.prog w = .ok true w := by kernel_rfl
theorem xset36 (ta b : Addr) (n : Int) (old : Value) (W : World) (hb : W.cell? b = some (.int .i64 n)) (ht : W.cell? ta = some old) (hf : W.frozen? ta = false) :
    (ReflectliteValue.set #[.agg #[.pointer (some ⟨4, 36, none⟩), .pointer (some ta), .int .u64 386], .agg #[.pointer (some ⟨4, 36, none⟩), .pointer (some b), .int .u64 130]]).run Tryd.prog W
      = .ok (.tuple #[]) (W.setCell ta (.int .i64 n)) := by
  rw [rls]
  simp only [Sem.run_bind, xparts36a, xparts36, Result.andThen]
  simp [ReflectliteValue.flagAddr, loadVar, isAgg, underlying, Tryd.underlying36, hb, Result.andThen, xdirect36, storeVar, Value.cells, storeCells, Addr.add]
  rw [run_store Tryd.prog W ta _ _ (by rfl)]
  simp [ht, hf]

theorem xvalueOf41 (t : Addr) (w : World) : (ReflectliteValue.unpack (.iface 41 (.pointer (some t)))).run Tryd.prog w
    = .ok (.agg #[.pointer (some ⟨4, 41, none⟩), .pointer (some ⟨w.heap.size, 0, none⟩), .int .u64 150]) (w.alloc (.cells #[.pointer (some t)] 41)) := by kernel_rfl
theorem xtype41 (a : Addr) (w : World) : (ReflectliteValue.methodAny (ReflectliteValue.valueError "reflectlite.Value.Type" 0) (fun t _ _ _ => ReflectliteType.toType t) #[.agg #[.pointer (some ⟨4, 41, none⟩), .pointer (some a), .int .u64 150]]).run Tryd.prog w
    = .ok (.iface 72 (.agg #[.pointer (some ⟨4, 41, none⟩)])) w := by kernel_rfl
theorem xkind41 (w : World) : ((ReflectliteType.abiMethod fun t => (fun a : Nat => Value.int IntKind.u8 (a : Int)) <$> Rtype.kind t) #[.pointer (some ⟨4, 41, none⟩)]).run Tryd.prog w = .ok (.int .u8 22) w := by kernel_rfl
theorem xkind39 (w : World) : ((ReflectliteType.abiMethod fun t => (fun a : Nat => Value.int IntKind.u8 (a : Int)) <$> Rtype.kind t) #[.pointer (some ⟨4, 39, none⟩)]).run Tryd.prog w = .ok (.int .u8 22) w := by kernel_rfl
theorem xparts41 (a : Addr) (w : World) : (ReflectliteValue.parts (.agg #[.pointer (some ⟨4, 41, none⟩), .pointer (some a), .int .u64 150])).run Tryd.prog w = .ok (some (41, a, 150)) w := by kernel_rfl
theorem xisNil41 (a p : Addr) (W : World) (ha : W.cell? a = some (.pointer (some p))) :
    (ReflectliteValue.method (ReflectliteValue.valueError "reflectlite.Value.IsNil" 0) ReflectliteValue.isNil #[.agg #[.pointer (some ⟨4, 41, none⟩), .pointer (some a), .int .u64 150]]).run Tryd.prog W = .ok (.bool false) W := by
  rw [rlm]
  simp only [Sem.run_bind, xparts41, Result.andThen]
  simp [ReflectliteValue.isNil, loadVar, isAgg, underlying, Tryd.underlying41, ha, Result.andThen]
theorem xelem41 (w : World) : (ReflectliteType.method ReflectliteType.elem #[.agg #[.pointer (some ⟨4, 41, none⟩)]]).run Tryd.prog w = .ok (.iface 72 (.agg #[.pointer (some ⟨4, 39, none⟩)])) w := by kernel_rfl
theorem ximplements39 (w : World) : (ReflectliteType.relation "Implements" ReflectliteType.implements_ #[.agg #[.pointer (some ⟨4, 39, none⟩)], .iface 72 (.agg #[.pointer (some ⟨4, 29, none⟩)])]).run Tryd.prog w = .ok (.bool true) w := by kernel_rfl
theorem xtypeOf39 (v : Value) (w : World) : (ReflectliteType.typeOf #[.iface 39 v]).run Tryd.prog w = .ok (.iface 72 (.agg #[.pointer (some ⟨4, 39, none⟩)])) w := by kernel_rfl
theorem xassignable39 (w : World) : (ReflectliteType.relation "AssignableTo" ReflectliteType.assignableTo #[.agg #[.pointer (some ⟨4, 39, none⟩)], .iface 72 (.agg #[.pointer (some ⟨4, 39, none⟩)])]).run Tryd.prog w = .ok (.bool true) w := by kernel_rfl
theorem xvalueOf39 (e : Addr) (w : World) : (ReflectliteValue.unpack (.iface 39 (.pointer (some e)))).run Tryd.prog w
    = .ok (.agg #[.pointer (some ⟨4, 39, none⟩), .pointer (some ⟨w.heap.size, 0, none⟩), .int .u64 150]) (w.alloc (.cells #[.pointer (some e)] 39)) := by kernel_rfl
theorem xelemOf41 (w : World) : (Rtype.elem? 41).run Tryd.prog w = .ok (some 39) w := by kernel_rfl
theorem xmk39 (p : Addr) (w : World) : (ReflectliteValue.mk 39 p ReflectliteValue.flagAddr).run Tryd.prog w = .ok (.agg #[.pointer (some ⟨4, 39, none⟩), .pointer (some p), .int .u64 406]) w := by kernel_rfl
theorem xelemV41 (a p : Addr) (W : World) (ha : W.cell? a = some (.pointer (some p))) :
    (ReflectliteValue.method (ReflectliteValue.valueError "reflectlite.Value.Elem" 0) ReflectliteValue.elem #[.agg #[.pointer (some ⟨4, 41, none⟩), .pointer (some a), .int .u64 150]]).run Tryd.prog W
      = .ok (.agg #[.pointer (some ⟨4, 39, none⟩), .pointer (some p), .int .u64 406]) W := by
  rw [rlm]
  simp only [Sem.run_bind, xparts41, Result.andThen]
  simp [ReflectliteValue.elem, loadVar, isAgg, underlying, Tryd.underlying41, ha, Result.andThen, xelemOf41, xmk39]
theorem xparts39a (a : Addr) (w : World) : (ReflectliteValue.parts (.agg #[.pointer (some ⟨4, 39, none⟩), .pointer (some a), .int .u64 406])).run Tryd.prog w = .ok (some (39, a, 406)) w := by kernel_rfl
theorem xparts39 (a : Addr) (w : World) : (ReflectliteValue.parts (.agg #[.pointer (some ⟨4, 39, none⟩), .pointer (some a), .int .u64 150])).run Tryd.prog w = .ok (some (39, a, 150)) w := by kernel_rfl
theorem xdirect39 (w : World) : (Rtype.directlyAssignable 39 39).run Tryd.prog w = .ok true w := by kernel_rfl
theorem xset39 (ta b : Addr) (e : Addr) (old : Value) (W : World) (hb : W.cell? b = some (.pointer (some e))) (ht : W.cell? ta = some old) (hf : W.frozen? ta = false) :
    (ReflectliteValue.set #[.agg #[.pointer (some ⟨4, 39, none⟩), .pointer (some ta), .int .u64 406], .agg #[.pointer (some ⟨4, 39, none⟩), .pointer (some b), .int .u64 150]]).run Tryd.prog W
      = .ok (.tuple #[]) (W.setCell ta (.pointer (some e))) := by
  rw [rls]
  simp only [Sem.run_bind, xparts39a, xparts39, Result.andThen]
  simp [ReflectliteValue.flagAddr, loadVar, isAgg, underlying, Tryd.underlying39, hb, Result.andThen, xdirect39, storeVar, Value.cells, storeCells, Addr.add]
  rw [run_store Tryd.prog W ta _ _ (by rfl)]
  simp [ht, hf]

theorem xnotAssignable (w : World) : (ReflectliteType.relation "AssignableTo" ReflectliteType.assignableTo #[.agg #[.pointer (some ⟨4, 39, none⟩)], .iface 72 (.agg #[.pointer (some ⟨4, 36, none⟩)])]).run Tryd.prog w = .ok (.bool false) w := by kernel_rfl
theorem xnoAs (v : Value) (xT : TypeId) (w : World) : (Instr.typeAssert (.iface 39 v) xT 77 true).run Tryd.prog w = .ok (.tuple #[.nilIface, .bool false]) w := run_typeAssert_lacksB Tryd.underlying77 (by kernel_rfl) (by kernel_rfl) v xT w
theorem xhasUnwrap (v : Value) (xT : TypeId) (w : World) : (Instr.typeAssert (.iface 39 v) xT 80 true).run Tryd.prog w = .ok (.tuple #[.iface 39 v, .bool true]) w := run_typeAssert_hasB Tryd.underlying80 (by kernel_rfl) v xT w

/-- (*Fault).Unwrap. -/
theorem unwrap_walk (pb po : Nat) (x : Value) (w : World) (h1 : w.cell? ⟨pb, po + 1, none⟩ = some x) (hx : x.oneCell' = true) : Calls Tryd.prog 16 #[.pointer (some ⟨pb, po, none⟩)] w fun e w' => e = .returned x ∧ w' = w := by
  go_enter Tryd.func16, Tryd.ntmps16
  go_wp2
  go_ret
  exact ⟨rfl, rfl⟩

end Go.Proofs.YtbeiflhnogedeaaDoor

/- errors.As: the walks. -/
namespace Go.Proofs.YtbeiflhnogedeaaDoor
open Go.RowKit Go.Extern.Stop Go.Stop Go.Extern

set_option maxHeartbeats 4000000 in
theorem as_fault (e : Addr) (t : Addr) (old : Value) (w : World) (hg : w.cell? ⟨0, 0, none⟩ = some (.iface 72 (.agg #[.pointer (some ⟨4, 29, none⟩)]))) (ht0 : w.cell? t = some old) (hf0 : w.frozen? t = false) :
    Calls Tryd.prog 15 #[.iface 39 (.pointer (some e)), .iface 41 (.pointer (some t))] w fun ev w' => ev = .returned (.bool true) ∧ w' = ((((w.alloc (.cells #[.pointer (some t)] 41)).alloc (.cells #[.pointer (some ⟨4, 41, none⟩), .pointer (some ⟨w.heap.size, 0, none⟩), .int .u64 150] 60)).alloc (.cells #[.pointer (some ⟨4, 41, none⟩), .pointer (some ⟨w.heap.size, 0, none⟩), .int .u64 150] 60)).alloc (.cells #[.pointer (some e)] 39)).setCell t (.pointer (some e)) := by
  have h25 := @run_callFunc_extern Tryd.prog 25 _ (fun args => ReflectliteValue.unpack (args.getD 0 (.tuple #[]))) Tryd.func25 (by kernel_rfl) (by kernel_rfl) (by kernel_rfl) (by kernel_rfl)
  have h26 := @run_callFunc_extern Tryd.prog 26 _ (ReflectliteValue.methodAny (ReflectliteValue.valueError "reflectlite.Value.Type" 0) (fun t _ _ _ => ReflectliteType.toType t)) Tryd.func26 (by kernel_rfl) (by kernel_rfl) (by kernel_rfl) (by kernel_rfl)
  have h27 := @run_callFunc_extern Tryd.prog 27 _ (ReflectliteValue.method (ReflectliteValue.valueError "reflectlite.Value.IsNil" 0) ReflectliteValue.isNil) Tryd.func27 (by kernel_rfl) (by kernel_rfl) (by kernel_rfl) (by kernel_rfl)
  have h60 := @run_callFunc_extern Tryd.prog 60 _ (ReflectliteType.abiMethod fun t => do pure (.int .u8 (← Rtype.kind t))) Tryd.func60 (by kernel_rfl) (by kernel_rfl) (by kernel_rfl) (by kernel_rfl)
  have h69 := @run_callFunc_extern Tryd.prog 69 _ (ReflectliteType.method ReflectliteType.elem) Tryd.func69 (by kernel_rfl) (by kernel_rfl) (by kernel_rfl) (by kernel_rfl)
  have h70 := @run_callFunc_extern Tryd.prog 70 _ (ReflectliteType.relation "Implements" ReflectliteType.implements_) Tryd.func70 (by kernel_rfl) (by kernel_rfl) (by kernel_rfl) (by kernel_rfl)
  have h30 := @run_callFunc_extern Tryd.prog 30 _ ReflectliteType.typeOf Tryd.func30 (by kernel_rfl) (by kernel_rfl) (by kernel_rfl) (by kernel_rfl)
  have h67 := @run_callFunc_extern Tryd.prog 67 _ (ReflectliteType.relation "AssignableTo" ReflectliteType.assignableTo) Tryd.func67 (by kernel_rfl) (by kernel_rfl) (by kernel_rfl) (by kernel_rfl)
  have h31 := @run_callFunc_extern Tryd.prog 31 _ (ReflectliteValue.method (ReflectliteValue.valueError "reflectlite.Value.Elem" 0) ReflectliteValue.elem) Tryd.func31 (by kernel_rfl) (by kernel_rfl) (by kernel_rfl) (by kernel_rfl)
  have h32 := @run_callFunc_extern Tryd.prog 32 _ ReflectliteValue.set Tryd.func32 (by kernel_rfl) (by kernel_rfl) (by kernel_rfl) (by kernel_rfl)
  have q0 := xtypeOf39
  have q1 := xmethodAssignableTo
  have q2 := xassignable39
  have q3 := xvalueOf39
  have q4 := xvalueOf41
  have q5 := xtype41
  have q6 := xmethodKind
  have q7 := xmethodElem
  have q8 := xmethodImplements
  have q9 := xkind41
  have q10 := xkind39
  have q11 := xelem41
  have q12 := ximplements39
  have n8 := xisNil41 ⟨w.heap.size, 0, none⟩ t ((w.alloc (.cells #[.pointer (some t)] 41)).alloc (.cells #[.pointer (some ⟨4, 41, none⟩), .pointer (some ⟨w.heap.size, 0, none⟩), .int .u64 150] 60)) (by simp)
  have hlt : 0 < w.heap.size := by
    rcases Nat.eq_zero_or_pos w.heap.size with h0 | h
    · simp [World.cell?, h0] at hg
    · exact h
  have hg2 : ((w.alloc (.cells #[.pointer (some t)] 41)).alloc (.cells #[.pointer (some ⟨4, 41, none⟩), .pointer (some ⟨w.heap.size, 0, none⟩), .int .u64 150] 60)).cell? ⟨0, 0, none⟩ = some (.iface 72 (.agg #[.pointer (some ⟨4, 29, none⟩)])) := by
    rw [World.cell?_alloc_lt _ _ ⟨0, 0, none⟩ (by simp), World.cell?_alloc_lt _ _ ⟨0, 0, none⟩ hlt]; exact hg
  have htl : t.block < w.heap.size := by
    rcases Nat.lt_or_ge t.block w.heap.size with h | h
    · exact h
    · simp [World.cell?, Array.getElem?_eq_none h] at ht0
  have el := xelemV41 ⟨w.heap.size, 0, none⟩ t (((w.alloc (.cells #[.pointer (some t)] 41)).alloc (.cells #[.pointer (some ⟨4, 41, none⟩), .pointer (some ⟨w.heap.size, 0, none⟩), .int .u64 150] 60)).alloc (.cells #[.pointer (some ⟨4, 41, none⟩), .pointer (some ⟨w.heap.size, 0, none⟩), .int .u64 150] 60)) (by rw [World.cell?_alloc_lt _ _ ⟨w.heap.size, 0, none⟩ (by simp; omega)]; simp)
  have st := xset39 t ⟨w.heap.size + 1 + 1 + 1, 0, none⟩ e old ((((w.alloc (.cells #[.pointer (some t)] 41)).alloc (.cells #[.pointer (some ⟨4, 41, none⟩), .pointer (some ⟨w.heap.size, 0, none⟩), .int .u64 150] 60)).alloc (.cells #[.pointer (some ⟨4, 41, none⟩), .pointer (some ⟨w.heap.size, 0, none⟩), .int .u64 150] 60)).alloc (.cells #[.pointer (some e)] 39))
    (by rw [World.cell?_alloc_at _ _ _ _ (by simp)]; rfl)
    (by rw [World.cell?_alloc_lt _ _ t (by simp; omega), World.cell?_alloc_lt _ _ t (by simp; omega), World.cell?_alloc_lt _ _ t (by simp; omega), World.cell?_alloc_lt _ _ t htl]; exact ht0)
    (by rw [World.frozen?_alloc_old _ _ t (by simp; omega), World.frozen?_alloc_old _ _ t (by simp; omega), World.frozen?_alloc_old _ _ t (by simp; omega), World.frozen?_alloc_old _ _ t (Nat.ne_of_lt htl)]; exact hf0)
  go_enter Tryd.func15, Tryd.ntmps15
  go_wp2
  refine wp_loop_rounds 1 ?_
  rw [rounds_succ]
  go_wp2
  go_ret
  exact ⟨rfl, rfl⟩

set_option maxHeartbeats 4000000 in
theorem as_errno (pb po : Nat) (n : Int) (t : Addr) (old : Value) (w : World) (hg : w.cell? ⟨0, 0, none⟩ = some (.iface 72 (.agg #[.pointer (some ⟨4, 29, none⟩)]))) (h1 : w.cell? ⟨pb, po + 1, none⟩ = some (.iface 36 (.int .i64 n))) (ht0 : w.cell? t = some old) (hf0 : w.frozen? t = false) :
    Calls Tryd.prog 15 #[.iface 39 (.pointer (some ⟨pb, po, none⟩)), .iface 56 (.pointer (some t))] w fun ev w' => ev = .returned (.bool true) ∧ w' = ((((w.alloc (.cells #[.pointer (some t)] 56)).alloc (.cells #[.pointer (some ⟨4, 56, none⟩), .pointer (some ⟨w.heap.size, 0, none⟩), .int .u64 150] 60)).alloc (.cells #[.pointer (some ⟨4, 56, none⟩), .pointer (some ⟨w.heap.size, 0, none⟩), .int .u64 150] 60)).alloc (.cells #[.int .i64 n] 36)).setCell t (.int .i64 n) := by
  have h25 := @run_callFunc_extern Tryd.prog 25 _ (fun args => ReflectliteValue.unpack (args.getD 0 (.tuple #[]))) Tryd.func25 (by kernel_rfl) (by kernel_rfl) (by kernel_rfl) (by kernel_rfl)
  have h26 := @run_callFunc_extern Tryd.prog 26 _ (ReflectliteValue.methodAny (ReflectliteValue.valueError "reflectlite.Value.Type" 0) (fun t _ _ _ => ReflectliteType.toType t)) Tryd.func26 (by kernel_rfl) (by kernel_rfl) (by kernel_rfl) (by kernel_rfl)
  have h27 := @run_callFunc_extern Tryd.prog 27 _ (ReflectliteValue.method (ReflectliteValue.valueError "reflectlite.Value.IsNil" 0) ReflectliteValue.isNil) Tryd.func27 (by kernel_rfl) (by kernel_rfl) (by kernel_rfl) (by kernel_rfl)
  have h60 := @run_callFunc_extern Tryd.prog 60 _ (ReflectliteType.abiMethod fun t => do pure (.int .u8 (← Rtype.kind t))) Tryd.func60 (by kernel_rfl) (by kernel_rfl) (by kernel_rfl) (by kernel_rfl)
  have h69 := @run_callFunc_extern Tryd.prog 69 _ (ReflectliteType.method ReflectliteType.elem) Tryd.func69 (by kernel_rfl) (by kernel_rfl) (by kernel_rfl) (by kernel_rfl)
  have h70 := @run_callFunc_extern Tryd.prog 70 _ (ReflectliteType.relation "Implements" ReflectliteType.implements_) Tryd.func70 (by kernel_rfl) (by kernel_rfl) (by kernel_rfl) (by kernel_rfl)
  have h30 := @run_callFunc_extern Tryd.prog 30 _ ReflectliteType.typeOf Tryd.func30 (by kernel_rfl) (by kernel_rfl) (by kernel_rfl) (by kernel_rfl)
  have h67 := @run_callFunc_extern Tryd.prog 67 _ (ReflectliteType.relation "AssignableTo" ReflectliteType.assignableTo) Tryd.func67 (by kernel_rfl) (by kernel_rfl) (by kernel_rfl) (by kernel_rfl)
  have h31 := @run_callFunc_extern Tryd.prog 31 _ (ReflectliteValue.method (ReflectliteValue.valueError "reflectlite.Value.Elem" 0) ReflectliteValue.elem) Tryd.func31 (by kernel_rfl) (by kernel_rfl) (by kernel_rfl) (by kernel_rfl)
  have h32 := @run_callFunc_extern Tryd.prog 32 _ ReflectliteValue.set Tryd.func32 (by kernel_rfl) (by kernel_rfl) (by kernel_rfl) (by kernel_rfl)
  have q0 := xtypeOf36
  have q1 := xmethodAssignableTo
  have q2 := xassignable36
  have q3 := xvalueOf36
  have q4 := xvalueOf56
  have q5 := xtype56
  have q6 := xmethodKind
  have q7 := xmethodElem
  have q8 := xmethodImplements
  have q9 := xkind56
  have q10 := xkind36
  have q11 := xelem56
  have q12 := ximplements36
  have r0 := xtypeOf39
  have r1 := xnotAssignable
  have r2 := xnoAs
  have r3 := xhasUnwrap
  have r4 := xmethodUnwrap
  have n8 := xisNil56 ⟨w.heap.size, 0, none⟩ t ((w.alloc (.cells #[.pointer (some t)] 56)).alloc (.cells #[.pointer (some ⟨4, 56, none⟩), .pointer (some ⟨w.heap.size, 0, none⟩), .int .u64 150] 60)) (by simp)
  have hlt : 0 < w.heap.size := by
    rcases Nat.eq_zero_or_pos w.heap.size with h0 | h
    · simp [World.cell?, h0] at hg
    · exact h
  have hg2 : ((w.alloc (.cells #[.pointer (some t)] 56)).alloc (.cells #[.pointer (some ⟨4, 56, none⟩), .pointer (some ⟨w.heap.size, 0, none⟩), .int .u64 150] 60)).cell? ⟨0, 0, none⟩ = some (.iface 72 (.agg #[.pointer (some ⟨4, 29, none⟩)])) := by
    rw [World.cell?_alloc_lt _ _ ⟨0, 0, none⟩ (by simp), World.cell?_alloc_lt _ _ ⟨0, 0, none⟩ hlt]; exact hg
  have htl : t.block < w.heap.size := by
    rcases Nat.lt_or_ge t.block w.heap.size with h | h
    · exact h
    · simp [World.cell?, Array.getElem?_eq_none h] at ht0
  have el := xelemV56 ⟨w.heap.size, 0, none⟩ t (((w.alloc (.cells #[.pointer (some t)] 56)).alloc (.cells #[.pointer (some ⟨4, 56, none⟩), .pointer (some ⟨w.heap.size, 0, none⟩), .int .u64 150] 60)).alloc (.cells #[.pointer (some ⟨4, 56, none⟩), .pointer (some ⟨w.heap.size, 0, none⟩), .int .u64 150] 60)) (by rw [World.cell?_alloc_lt _ _ ⟨w.heap.size, 0, none⟩ (by simp; omega)]; simp)
  have st := xset36 t ⟨w.heap.size + 1 + 1 + 1, 0, none⟩ n old ((((w.alloc (.cells #[.pointer (some t)] 56)).alloc (.cells #[.pointer (some ⟨4, 56, none⟩), .pointer (some ⟨w.heap.size, 0, none⟩), .int .u64 150] 60)).alloc (.cells #[.pointer (some ⟨4, 56, none⟩), .pointer (some ⟨w.heap.size, 0, none⟩), .int .u64 150] 60)).alloc (.cells #[.int .i64 n] 36))
    (by rw [World.cell?_alloc_at _ _ _ _ (by simp)]; rfl)
    (by rw [World.cell?_alloc_lt _ _ t (by simp; omega), World.cell?_alloc_lt _ _ t (by simp; omega), World.cell?_alloc_lt _ _ t (by simp; omega), World.cell?_alloc_lt _ _ t htl]; exact ht0)
    (by rw [World.frozen?_alloc_old _ _ t (by simp; omega), World.frozen?_alloc_old _ _ t (by simp; omega), World.frozen?_alloc_old _ _ t (by simp; omega), World.frozen?_alloc_old _ _ t (Nat.ne_of_lt htl)]; exact hf0)
  have h1' : (((w.alloc (.cells #[.pointer (some t)] 56)).alloc (.cells #[.pointer (some ⟨4, 56, none⟩), .pointer (some ⟨w.heap.size, 0, none⟩), .int .u64 150] 60)).alloc (.cells #[.pointer (some ⟨4, 56, none⟩), .pointer (some ⟨w.heap.size, 0, none⟩), .int .u64 150] 60)).cell? ⟨pb, po + 1, none⟩ = some (.iface 36 (.int .i64 n)) := by
    have hpl : pb < w.heap.size := by
      rcases Nat.lt_or_ge pb w.heap.size with h | h
      · exact h
      · simp [World.cell?, Array.getElem?_eq_none h] at h1
    rw [World.cell?_alloc_lt _ _ ⟨pb, po + 1, none⟩ (by simp; omega), World.cell?_alloc_lt _ _ ⟨pb, po + 1, none⟩ (by simp; omega), World.cell?_alloc_lt _ _ ⟨pb, po + 1, none⟩ hpl]; exact h1
  go_enter Tryd.func15, Tryd.ntmps15
  go_wp2
  refine wp_loop_rounds 2 ?_
  rw [rounds_succ]
  go_wp2
  rw [rounds_succ]
  go_wp2
  go_ret
  exact ⟨rfl, rfl⟩

end Go.Proofs.YtbeiflhnogedeaaDoor

/- The number that an error wraps: the walk. -/
namespace Go.Proofs.YtbeiflhnogedeaaDoor
open Go.RowKit Go.Extern.Stop Go.Stop Go.Extern

theorem code_nil (w : World) : Calls Tryd.prog 13 #[.nilIface] w fun e w' => e = .returned (.int .i64 0) ∧ Below w.heap.size w w' := by
  go_enter Tryd.func13, Tryd.ntmps13
  go_wp2
  go_ret
  exact ⟨rfl, (Below.refl _ w).alloc (Nat.le_refl _) _⟩

set_option maxHeartbeats 4000000 in
theorem code_fault (pb po : Nat) (n : Int) (w : World) (hg : w.cell? ⟨0, 0, none⟩ = some (.iface 72 (.agg #[.pointer (some ⟨4, 29, none⟩)]))) (h1 : w.cell? ⟨pb, po + 1, none⟩ = some (.iface 36 (.int .i64 n))) :
    Calls Tryd.prog 13 #[.iface 39 (.pointer (some ⟨pb, po, none⟩))] w fun e w' => e = .returned (.int .i64 n) ∧ Below w.heap.size w w' := by
  have hlt : 0 < w.heap.size := by
    rcases Nat.eq_zero_or_pos w.heap.size with h0 | h
    · simp [World.cell?, h0] at hg
    · exact h
  have hpl : pb < w.heap.size := by
    rcases Nat.lt_or_ge pb w.heap.size with h | h
    · exact h
    · simp [World.cell?, Array.getElem?_eq_none h] at h1
  have hgA : (w.alloc (.cells #[.int .i64 0] 36)).cell? ⟨0, 0, none⟩ = some (.iface 72 (.agg #[.pointer (some ⟨4, 29, none⟩)])) := by
    rw [World.cell?_alloc_lt _ _ ⟨0, 0, none⟩ hlt]; exact hg
  have h1A : (w.alloc (.cells #[.int .i64 0] 36)).cell? ⟨pb, po + 1, none⟩ = some (.iface 36 (.int .i64 n)) := by
    rw [World.cell?_alloc_lt _ _ ⟨pb, po + 1, none⟩ hpl]; exact h1
  have htA : (w.alloc (.cells #[.int .i64 0] 36)).cell? ⟨w.heap.size, 0, none⟩ = some (.int .i64 0) := by simp
  have hfA : (w.alloc (.cells #[.int .i64 0] 36)).frozen? ⟨w.heap.size, 0, none⟩ = false := by simp
  go_enter Tryd.func13, Tryd.ntmps13
  go_wp2_with (go_at_call 15; refine (as_errno pb po n ⟨w.heap.size, 0, none⟩ (.int .i64 0) _ hgA h1A htA hfA).mono ?_; rintro e w' ⟨rfl, rfl⟩)
  go_ret
  refine ⟨rfl, ?_⟩
  refine Below.alloc (Below.alloc (Below.alloc (Below.alloc (Below.alloc (Below.refl _ w) (Nat.le_refl _) _) ?_ _) ?_ _) ?_ _) ?_ _ <;> (simp <;> try omega)

end Go.Proofs.YtbeiflhnogedeaaDoor

/- The seat's contracts hold. -/
namespace Go.Proofs.YtbeiflhnogedeaaDoor.V
open Go.RowKit

/-- What the seat knows holds as long as the call runs. -/
theorem Gd.err {ρ : Ren} {g : Nat → Option VObj} {w : World} (h : Gd ρ g w) : w.cell? ⟨0, 0, none⟩ = some (.iface 72 (.agg #[.pointer (some ⟨4, 29, none⟩)])) := by
  obtain ⟨W0, hI, h1, h2, _⟩ := h
  have hI : W0.cell? ⟨0, 0, none⟩ = some (.iface 72 (.agg #[.pointer (some ⟨4, 29, none⟩)])) := hI
  have hlt : 0 < W0.heap.size := by
    rcases Nat.eq_zero_or_pos W0.heap.size with h0 | h
    · simp [World.cell?, h0] at hI
    · exact h
  rw [World.cell?_of_block (w := W0) (a := ⟨0, 0, none⟩) (h2 0 hlt)]
  exact hI

theorem xCode_sound {args : List VV} {h h' : VHeap} {v : VV} (hop : xCode 39 36 args h = some (v, h')) : SoundF Tryd.prog 13 args h v h' := by
  intro ρ w margs hR hw hrel hG
  unfold xCode at hop
  split at hop
  · simp only [Option.some.injEq, Prod.mk.injEq] at hop
    obtain ⟨rfl, rfl⟩ := hop
    obtain ⟨mv, rfl, hm⟩ := hrel.one_inv
    cases hm
    refine (code_nil w).mono ?_
    rintro e w' ⟨rfl, hB⟩
    exact ⟨_, ρ, rfl, step_quiet hR hw hB, .int _ _⟩
  · rename_i t0 b i f
    split at hop
    · rename_i u n ht hrd
      split at hop
      · rename_i hu
        have ht := Nat.eq_of_beq_eq_true ht
        have hu := Nat.eq_of_beq_eq_true hu
        subst ht; subst hu
        simp only [Option.some.injEq, Prod.mk.injEq] at hop
        obtain ⟨rfl, rfl⟩ := hop
        obtain ⟨mv, rfl, hm⟩ := hrel.one_inv
        cases hm with
        | iface _ _ mp hp =>
          cases hp with
          | ptr _ _ _ l hb =>
            obtain ⟨cv, hcv, hcr⟩ := rd_cell hR hb hrd
            cases hcr with
            | iface _ _ mn hn =>
              cases hn
              have h1 : w.cell? ⟨l.mb, l.coff + i * l.esz + f + 1, none⟩ = some (.iface 36 (.int .i64 n)) := by rw [← hcv]; simp [addrAt, Nat.add_assoc]
              have hc := code_fault l.mb (l.coff + i * l.esz + f) n w hG.err h1
              exact hc.mono fun e w' ⟨he, hB⟩ => ⟨_, ρ, he, step_quiet hR hw hB, .int _ _⟩
      · cases hop
    · cases hop
  · cases hop

theorem seatX_sound : SoundX Tryd.prog seatX := by
  intro f g hg args h v h' hop
  unfold seatX at hg
  split at hg
  · rename_i hb
    have := Nat.eq_of_beq_eq_true hb; subst this
    cases hg
    exact xCode_sound hop
  · cases hg

end Go.Proofs.YtbeiflhnogedeaaDoor.V

