/-
  An evaluator of closed calls, on memory of its own: blocks are numbered by the evaluator, the room behind an appended slice is left open.
-/
import GoSem.Dispatch
import Derived.Calls
import GoSem.ClaimData
import Derived.Laws.Cells
import Derived.Laws.CopyRow
namespace Go.Ev

/-! ### tries -/
inductive Tr (α : Type) where
  | e
  | n (l : Tr α) (v : Option α) (r : Tr α)

variable {α : Type}

def Tr.get : Tr α → Nat → Option α
  | .e, _ => none
  | .n l v r, i => match i with
    | 0 => v
    | j + 1 => match Nat.beq (j % 2) 0 with
      | true => l.get (j / 2)
      | false => r.get (j / 2)

def Tr.put : Nat → Tr α → Nat → α → Tr α
  | 0, t, _, _ => t
  | f + 1, t, i, x =>
    match t with
    | .e => match i with
      | 0 => .n .e (some x) .e
      | j + 1 => match Nat.beq (j % 2) 0 with
        | true => .n (Tr.put f .e (j / 2) x) none .e
        | false => .n .e none (Tr.put f .e (j / 2) x)
    | .n l v r => match i with
      | 0 => .n l (some x) r
      | j + 1 => match Nat.beq (j % 2) 0 with
        | true => .n (Tr.put f l (j / 2) x) v r
        | false => .n l v (Tr.put f r (j / 2) x)

def Tr.set (t : Tr α) (i : Nat) (x : α) : Tr α := Tr.put (i + 1) t i x

def Tr.ofList : List α → Nat → Tr α → Tr α
  | [], _, t => t
  | x :: l, i, t => Tr.ofList l (i + 1) (t.set i x)

/-! ### memory -/
inductive Blk where
  /-- so many cells are known; 'sure': there are no more. -/
  | cells (c : Tr Value) (n : Nat) (elem : TypeId) (sure : Bool)
  /-- so many bytes; there may be room behind. -/
  | bytes (c : Tr Nat) (n : Nat) (elem : TypeId)
  | obj (o : Obj)
  | dead

structure Mem where
  blks : Tr Blk
  next : Nat

def Mem.wr (m : Mem) (b : Nat) (k : Blk) : Mem := { m with blks := m.blks.set b k }

/-- The mark in an address's 'spot' that a slice's capacity is open. -/
def openCap (a : Addr) : Bool := a.spot.isSome
/-- So many cells further on if there is spare room. -/
def lag (a : Addr) : Nat := a.spot.getD 0

def Mem.cell (m : Mem) (b i : Nat) : Option Value :=
  match m.blks.get b with
  | some (.cells c n _ _) => if i < n then c.get i else none
  | some (.bytes c n _) => if i < n then (match c.get i with | some k => some (.int .u8 (.ofNat k)) | none => none) else none
  | _ => none

def Mem.loadN (m : Mem) (b : Nat) : Nat → Nat → Option (List Value)
  | _, 0 => some []
  | i, k + 1 => match m.cell b i with
    | some v => match Mem.loadN m b (i + 1) k with
      | some l => some (v :: l)
      | none => none
    | none => none

def flat : Value → Bool
  | .agg _ | .tuple _ => false
  | _ => true

def setN (c : Tr Value) : Nat → List Value → Tr Value
  | _, [] => c
  | i, v :: l => setN (c.set i v) (i + 1) l

/-- The globals are below 'base': they are only read. -/
def Mem.storeN (base : Nat) (m : Mem) (b i : Nat) (l : List Value) : Option Mem :=
  if b < base then none else
  match m.blks.get b with
  | some (.cells c n t s) => if i + l.length ≤ n ∧ l.all flat then some (m.wr b (.cells (setN c i l) n t s)) else none
  | _ => none

def Mem.new (m : Mem) (k : Blk) : Mem := { blks := m.blks.set m.next k, next := m.next + 1 }
def Mem.newCells (m : Mem) (t : TypeId) (l : List Value) (sure : Bool) : Mem := m.new (.cells (Tr.ofList l 0 .e) l.length t sure)

/-! ### what needs no memory -/
def pureRunA {α : Type} (P : Program) : Sem α → Option α
  | .pure a => some a
  | .program k => pureRunA P (k P)
  | .mark _ k => pureRunA P k
  | _ => none

mutual
def closed : Value → Bool
  | .pointer (some _) | .slice (some _) _ _ | .map (some _) | .chan (some _) => false
  | .func _ ⟨a⟩ ⟨b⟩ => closedA a && closedA b
  | .iface _ v => closed v
  | .agg ⟨cs⟩ => closedA cs
  | .tuple ⟨cs⟩ => closedA cs
  | _ => true
def closedA : List Value → Bool
  | [] => true
  | v :: l => closed v && closedA l
end

/-- What comes out, if it names no block. -/
def pureRun (P : Program) (s : Sem Value) : Option Value :=
  match pureRunA P s with
  | some v => if closed v then some v else none
  | none => none

structure Fr where
  tm : Tr Value
  n : Nat

def Fr.val (fr : Fr) (base : Nat) : Operand → Option Value
  | .tmp t => some ((fr.tm.get t).getD undef')
  | .const v => if closed v then some v else none
  | .global g => if g < base then some (.pointer (some ⟨g, 0, none⟩)) else none
  | .func f => some (.func (.func f) #[] #[])
where undef' : Value := .tuple #[]

def Fr.put (fr : Fr) (d : Option Tmp) (v : Value) : Option Fr :=
  match d with
  | none => some fr
  | some t => if t < fr.n then some { fr with tm := fr.tm.set t v } else none

inductive Ex where
  | normal
  | exit (id : Nat)
  | ret

abbrev Ans := Option (Value × Mem)
abbrev CallF := FuncId → List Value → Mem → Ans

def vals (fr : Fr) (base : Nat) : List Operand → Option (List Value)
  | [] => some []
  | x :: l => match fr.val base x with
    | some v => match vals fr base l with
      | some vs => some (v :: vs)
      | none => none
    | none => none

def parts (fr : Fr) (base : Nat) : List (Nat × Operand) → Option (List (Nat × Value))
  | [] => some []
  | (i, x) :: l => match fr.val base x with
    | some v => match parts fr base l with
      | some vs => some ((i, v) :: vs)
      | none => none
    | none => none

def aggB (P : Program) (t : TypeId) : Option Bool :=
  match P.underlying t with
  | some (.struct _) | some (.array _ _) => some true
  | some _ => some false
  | none => none

def sizeB (P : Program) (t : TypeId) : Option Nat := (P.info? t).map (·.size)
def bytesB (P : Program) (t : TypeId) : Option Nat := (P.info? t).map (·.bytes)

def zeroB (P : Program) (t : TypeId) : Option Value :=
  match (P.info? t).bind (·.zero) with
  | some v => if closed v then some v else none
  | none => none

def evLoad (P : Program) (t : TypeId) (m : Mem) : Value → Option Value
  | .pointer (some a) => match a.spot with
    | none => match aggB P t with
      | some true => match sizeB P t with
        | some n => match m.loadN a.block a.off n with
          | some l => some (.agg l.toArray)
          | none => none
        | none => none
      | some false => m.cell a.block a.off
      | none => none
    | some _ => none
  | _ => none

def evStore (P : Program) (base : Nat) (t : TypeId) (m : Mem) (addr v : Value) : Option Mem :=
  match addr with
  | .pointer (some a) => match a.spot with
    | none => match sizeB P t with
      | some n => if v.cells.size = n then m.storeN base a.block a.off v.cells.toList else none
      | none => none
    | some _ => none
  | _ => none

def repeatL {α : Type} (l : List α) : Nat → List α
  | 0 => []
  | n + 1 => l ++ repeatL l n

/-- A slice's elements, so many. -/
def firstN (m : Mem) (size n : Nat) : Value → Option (List Value)
  | .slice (some a) _ _ => if lag a = 0 then m.loadN a.block a.off (n * size) else if n * size = 0 then some [] else none
  | .slice none _ _ => some []
  | .string s => some ((s.extract 0 n).data.toList.map fun b => .int .u8 b.toNat)
  | _ => none

def lenB : Value → Option Nat
  | .slice _ n _ => some n
  | .string s => some s.size
  | _ => none

def evAppend (P : Program) (base : Nat) (ats : List TypeId) (m : Mem) (s x : Value) : Ans :=
  match ats with
  | [sT, xT] => match P.underlying sT, P.underlying xT with
    | some (.slice elem), some xd =>
      if (match xd with | .int _ => true | _ => false) then none else
      match s, lenB x, sizeB P elem, bytesB P elem, zeroB P elem with
      | .slice sb sLen sCap, some n, some size, some bytes, some z =>
        if z.cells.size ≠ size then none else
        match firstN m size n x with
        | none => none
        | some new =>
          if new.length ≠ n * size then none else
          if sLen + n ≤ sCap then
            match sb with
            | some a => if lag a = 0 then match m.storeN base a.block (a.off + sLen * size) new with
              | some m' => some (.slice sb (sLen + n) sCap, m')
              | none => none
              else none
            | none => if new.isEmpty then some (.slice none (sLen + n) sCap, m) else none
          else if (sLen + n) * 4 * (bytes + 1) > 2 ^ 30 then none else
          match firstN m size sLen s with
          | none => none
          | some old =>
            if old.length ≠ sLen * size then none else
            match sb with
            | none => some (.slice (some ⟨m.next, 0, some 0⟩) (sLen + n) (sLen + n), m.newCells elem (old ++ new) false)
            | some a => match a.spot with
              | none => some (.slice (some ⟨m.next, 0, some 0⟩) (sLen + n) (sLen + n), m.newCells elem (old ++ new) false)
              | some _ => match m.blks.get a.block with
                | some (.cells _ k t false) =>
                  if t = elem ∧ a.off = 0 ∧ sCap * size = k ∧ base ≤ a.block ∧ lag a = 0 ∧ new.all flat = true then
                    some (.slice (some ⟨m.next, 0, some 0⟩) (sLen + n) (sLen + n), (m.wr a.block .dead).newCells elem (old ++ new) false)
                  else none
                | _ => none
      | _, _, _, _, _ => none
    | _, _ => none
  | _ => none

def evPtrEq (d : TypeDesc) (x y : Value) : Option Bool :=
  match d, x, y with
  | .pointer _, .pointer none, .pointer b => some b.isNone
  | .pointer _, .pointer (some _), .pointer none => some false
  | .slice _, .slice none _ _, .slice b _ _ => some b.isNone
  | .slice _, .slice (some _) _ _, .slice none _ _ => some false
  | .map _ _, .map none, .map b => some b.isNone
  | .map _ _, .map (some _), .map none => some false
  | .func _ _ _, .nilFunc, .func _ _ _ => some false
  | .func _ _ _, .func _ _ _, .nilFunc => some false
  | .interface _, .nilIface, .iface _ _ => some false
  | .interface _, .iface _ _, .nilIface => some false
  | _, _, _ => none

def evBin (P : Program) (op : BinOp) (t : TypeId) (xo yo : Operand) (x y : Value) : Option Value :=
  if closed x && closed y then pureRun P (do eqGuard op t xo yo x y; binOp op t x y)
  else match P.underlying t with
    | none => none
    | some d => match op with
      | .eql => (evPtrEq d x y).map .bool
      | .neq => (evPtrEq d x y).map fun b => .bool !b
      | _ => none

def addA (a : Addr) (n : Nat) : Addr := if n = 0 then a else { a with off := a.off + n }

def evField (P : Program) (s : TypeId) (f : Nat) : Value → Option Value
  | .pointer (some a) => match P.underlying s with
    | some (.struct fields) => match fields[f]? with
      | some fd => match sizeB P fd.type with
        | some n => if n = 0 ∨ a.spot.isSome then none else some (.pointer (some (addA a fd.offset)))
        | none => none
      | none => none
    | _ => none
  | _ => none

def evIndexAddr (P : Program) (t : TypeId) (x i : Value) : Option Value :=
  match i with
  | .int _ i => match P.underlying t, x with
    | some (.array len elem), .pointer (some a) => match sizeB P elem with
      | some size => if 0 ≤ i ∧ i < len ∧ a.spot.isNone then some (.pointer (some (addA a (i.toNat * size)))) else none
      | none => none
    | some (.slice elem), .slice (some a) len _ => match sizeB P elem with
      | some size => if 0 ≤ i ∧ i < len ∧ lag a = 0 then some (.pointer (some (addA { a with spot := none } (i.toNat * size)))) else none
      | none => none
    | _, _ => none
  | _ => none

def bound (v : Option Value) (d : Nat) : Option Nat :=
  match v with
  | none => some d
  | some (.int _ i) => if 0 ≤ i then some i.toNat else none
  | _ => none

/-- A slice of a slice: with a third bound the capacity is sure. -/
def evSlice (P : Program) (t : TypeId) (x : Value) (lo hi mx : Option Value) : Option Value :=
  match P.underlying t, x with
  | some (.string), .string _ => pureRun P (Instr.slice t x lo hi mx)
  | some (.slice elem), .slice a len cap => match sizeB P elem with
    | some size =>
      match bound mx cap with
      | some m => match bound hi len with
        | some h => match bound lo 0 with
          | some l =>
            if l ≤ h ∧ h ≤ m ∧ m ≤ cap ∧ (mx.isSome = true → hi.isSome = true) then
              match a with
              | none => some (.slice none (h - l) (m - l))
              | some a =>
                if lag a ≠ 0 then none else
                if mx.isSome then some (.slice (some (if m = l then { a with spot := none } else addA { a with spot := none } (l * size))) (h - l) (m - l))
                else if openCap a && m == l && l != 0 then some (.slice (some { a with spot := some (l * size) }) 0 0)
                else some (.slice (some (if m = l then a else addA a (l * size))) (h - l) (m - l))
            else none
          | none => none
        | none => none
      | none => none
    | none => none
  | some (.array n elem), .pointer (some a) => match sizeB P elem with
    | some size =>
      match bound mx n with
      | some m => match bound hi n with
        | some h => match bound lo 0 with
          | some l =>
            if l ≤ h ∧ h ≤ m ∧ m ≤ n ∧ a.spot.isNone ∧ (mx.isSome = true → hi.isSome = true) then some (.slice (some (if m = l then a else addA a (l * size))) (h - l) (m - l)) else none
          | none => none
        | none => none
      | none => none
    | none => none
  | _, _ => none

def evMakeSlice (P : Program) (t : TypeId) (m : Mem) (l c : Value) : Ans :=
  match P.underlying t, l, c with
  | some (.slice elem), .int _ l, .int _ c => match sizeB P elem, bytesB P elem, zeroB P elem with
    | some size, some bytes, some z =>
      if 0 ≤ l ∧ l ≤ c ∧ c ≤ 2 ^ 20 ∧ bytes ≤ 2 ^ 16 ∧ z.cells.size = size then
        some (.slice (some ⟨m.next, 0, none⟩) l.toNat c.toNat, m.newCells elem (repeatL z.cells.toList c.toNat) true)
      else none
    | _, _, _ => none
  | _, _, _ => none

def keyB (P : Program) (t : TypeId) (k : Value) : Bool :=
  match P.underlying t, k with
  | some (.int _), .int _ _ => true
  | _, _ => false

def mapOf (m : Mem) : Value → Option (Array MapEntry × Nat)
  | .map none => some (#[], 0)
  | .map (some r) => match m.blks.get r with
    | some (.obj (.map es c)) => some (es, c)
    | _ => none
  | _ => none

def evLookup (P : Program) (t : TypeId) (m : Mem) (x k : Value) (ok : Bool) : Option Value :=
  match P.underlying t with
  | some (.map kt et) => match keyB P kt k, mapOf m x, P.underlying kt, zeroB P et with
    | true, some (es, _), some kd, some z => match Instr.findNow kd k es.toList 0 with
      | some (some (_, v)) => some (if ok then .tuple #[v, .bool true] else v)
      | some none => some (if ok then .tuple #[z, .bool false] else z)
      | none => none
    | _, _, _, _ => none
  | _ => none

def setObjM (base : Nat) (m : Mem) (r : Nat) (o : Obj) : Option Mem :=
  if r < base then none else
  match m.blks.get r with
  | some (.obj _) => some (m.wr r (.obj o))
  | _ => none

def evMapUpdate (P : Program) (base : Nat) (t : TypeId) (m : Mem) (x k v : Value) : Option Mem :=
  match P.underlying t, x with
  | some (.map kt _), .map (some r) => match keyB P kt k, mapOf m x, P.underlying kt with
    | true, some (es, c), some kd => match Instr.findNow kd k es.toList 0 with
      | some (some (i, _)) => setObjM base m r (.map (es.modify i fun e => { e with key := k, val := v }) c)
      | some none => setObjM base m r (.map (es.push { key := k, val := v, born := c }) (c + 1))
      | none => none
    | _, _, _ => none
  | _, _ => none

def evDelete (P : Program) (base : Nat) (t : TypeId) (m : Mem) (x k : Value) : Option Mem :=
  match P.underlying t, x with
  | some (.map kt _), .map none => if keyB P kt k then some m else none
  | some (.map kt _), .map (some r) => match keyB P kt k, mapOf m x, P.underlying kt with
    | true, some (es, c), some kd => match Instr.findNow kd k es.toList 0 with
      | some (some (i, _)) => setObjM base m r (.map (es.eraseIdxIfInBounds i) c)
      | some none => setObjM base m r (.map es c)
      | none => none
    | _, _, _ => none
  | _, _ => none

def evRange (P : Program) (t : TypeId) (m : Mem) (x : Value) : Ans :=
  match P.underlying t, x with
  | some (.map _ _), .map none => some (.pointer (some ⟨m.next, 0, none⟩), m.new (.obj (.mapIter none 0 #[] 0)))
  | some (.map _ _), .map (some r) => match m.blks.get r with
    | some (.obj (.map _ c)) => some (.pointer (some ⟨m.next, 0, none⟩), m.new (.obj (.mapIter (some r) c #[] c)))
    | _ => none
  | _, _ => none

def evNext (base : Nat) (m : Mem) (it : Value) (isString : Bool) : Ans :=
  match it, isString with
  | .pointer (some ⟨r, 0, none⟩), false => match m.blks.get r with
    | some (.obj (.mapIter none _ _ _)) => some (.tuple #[.bool false], m)
    | some (.obj (.mapIter (some q) since seen last)) => match m.blks.get q with
      | some (.obj (.map es clock)) =>
        if !seen.isEmpty && !es.isEmpty && es.all (·.born ≥ last) then none else
        let left := es.filter fun e => !seen.contains e.born
        let old := left.filter (·.born < since)
        let new := left.filter (·.born ≥ since)
        let cands := (if old.isEmpty then #[none] else #[]) ++ (old ++ new).map some
        if cands.size = 1 then
          match cands[0]? with
          | some (some e) => match setObjM base m r (.mapIter (some q) since (seen.push e.born) clock) with
            | some m' => some (.tuple #[.bool true, e.key, e.val], m')
            | none => none
          | some none => some (.tuple #[.bool false], m)
          | none => none
        else none
      | _ => none
    | _ => none
  | _, _ => none

def evEntry (m : Mem) (it : Value) : Option Value :=
  match it with
  | .pointer (some ⟨r, 0, none⟩) => match m.blks.get r with
    | some (.obj (.mapIter (some q) _ seen stepped)) => match seen.back?, m.blks.get q with
      | some stamp, some (.obj (.map es clock)) =>
        if clock != stepped then none else
        match es.find? (·.born == stamp) with
        | some e => some (.tuple #[e.key, e.val])
        | none => none
      | _, _ => none
    | _ => none
  | _ => none

def evLen (P : Program) (t : TypeId) (m : Mem) (x : Value) : Option Value :=
  match P.underlying t, x with
  | some (.slice _), .slice _ n _ => some (goInt n)
  | some .string, .string s => some (goInt s.size)
  | some (.array n _), _ => some (goInt n)
  | some (.map _ _), x => match mapOf m x with
    | some (es, _) => some (goInt es.size)
    | none => none
  | _, _ => none

def evCopy (P : Program) (base : Nat) (t : TypeId) (m : Mem) (d s : Value) : Ans :=
  match P.underlying t with
  | some (.slice elem) => match d, lenB s, sizeB P elem with
    | .slice sb dLen _, some n, some size =>
      match firstN m size (Nat.min n dLen) s with
      | some l => match sb with
        | some a => if lag a = 0 then match m.storeN base a.block a.off l with
          | some m' => some (goInt (Nat.min n dLen), m')
          | none => none
          else none
        | none => if l.isEmpty then some (goInt (Nat.min n dLen), m) else none
      | none => none
    | _, _, _ => none
  | _ => none

def evClear (P : Program) (base : Nat) (t : TypeId) (m : Mem) (x : Value) : Ans :=
  match P.underlying t, x with
  | some _, .map none | some _, .slice none _ _ | some _, .slice _ 0 _ => some (.tuple #[], m)
  | some (.slice elem), .slice (some a) n _ => match zeroB P elem with
    | some z => if lag a = 0 then match m.storeN base a.block a.off (repeatL z.cells.toList n) with
      | some m' => some (.tuple #[], m')
      | none => none
      else none
    | none => none
  | _, _ => none

def evBuiltin (P : Program) (base : Nat) (b : Builtin) (ats : List TypeId) (m : Mem) (args : List Value) : Ans :=
  match b, args with
  | .append, [s, x] => evAppend P base ats m s x
  | .len, [x] => match ats with
    | [t] => match evLen P t m x with
      | some v => some (v, m)
      | none => none
    | _ => none
  | .copy, [d, s] => match ats with
    | t :: _ => evCopy P base t m d s
    | _ => none
  | .clear, [x] => match ats with
    | t :: _ => evClear P base t m x
    | _ => none
  | .delete, [x, k] => match ats with
    | t :: _ => match evDelete P base t m x k with
      | some m' => some (.tuple #[], m')
      | none => none
    | _ => none
  | .min, args => if closedA args then match pureRun P (Builtin.min_ #[] 0 args.toArray) with | some v => some (v, m) | none => none else none
  | .max, args => if closedA args then match pureRun P (Builtin.max_ #[] 0 args.toArray) with | some v => some (v, m) | none => none else none
  | _, _ => none

def evConvert (P : Program) (src dst : TypeId) (m : Mem) (x : Value) : Ans :=
  if closed x then match pureRun P (convert src dst x) with | some v => some (v, m) | none => none
  else none

/-- The method behind an interface's value: only rows without a path, of a receiver as it lies there. -/
def methodB (P : Program) (t : TypeId) (v : Value) (name : String) : Option (FuncId × Value) :=
  match P.info? t with
  | some i => match i.methods.find? (·.name == name) with
    | some mt => match mt.path.toList, mt.func, P.underlying t with
      | [], some (f, true), some (.pointer _) => some (f, v)
      | [], some (_, false), some (.pointer _) => none
      | [], some (f, false), some _ => some (f, v)
      | _, _, _ => none
    | none => none
  | none => none

/-- The method row of an interface's value is one of a pointer, without a path. -/
def nilOk (P : Program) (t : TypeId) (w : Value) (name : String) : Bool :=
  match P.info? t, P.underlying t, w with
  | some i, some (.pointer _), .pointer (some _) => match i.methods.find? (·.name == name) with
    | some mt => match mt.path.toList, mt.func with
      | [], some (_, true) => true
      | _, _ => false
    | none => false
  | _, _, _ => false

def evCallOp (P : Program) (base : Nat) (call : CallF) (fr : Fr) (m : Mem) (c : Call) : Ans :=
  match vals fr base c.args.toList with
  | none => none
  | some args =>
    match c.callee with
    | .builtin b => evBuiltin P base b c.argTypes.toList m args
    | .value f => match fr.val base f with
      | some (.func (.func g) first captured) => call g (first.toList ++ args ++ captured.toList) m
      | some (.func (.method name) first _) => match first.toList ++ args with
        | .iface t v :: rest => match methodB P t v name with
          | some (g, rv) => call g (rv :: rest) m
          | none => none
        | _ => none
      | _ => none
    | .invoke recv name => match fr.val base recv with
      | some (.iface t v) => match methodB P t v name with
        | some (g, rv) => call g (rv :: args) m
        | none => none
      | _ => none

/-- The part of an aggregate's cells. -/
def partB (P : Program) (t : TypeId) (cs : List Value) (off : Nat) : Option Value :=
  match aggB P t with
  | some true => match sizeB P t with
    | some n => if off + n ≤ cs.length then some (.agg ((cs.drop off).take n).toArray) else none
    | none => none
  | some false => cs[off]?
  | none => none

def places (P : Program) : List Field → Option (List (Nat × Nat))
  | [] => some []
  | f :: l => match sizeB P f.type, places P l with
    | some n, some r => some ((f.offset, n) :: r)
    | _, _ => none

def evBuild (P : Program) (t : TypeId) (l : List (Nat × Value)) : Option Value :=
  match zeroB P t with
  | some z => match P.underlying t with
    | some (.struct fields) => match places P fields.toList with
      | some ps => match Instr.fill (ps.toArray[·]?) z.cells l with
        | some cs => some (.agg cs)
        | none => none
      | none => none
    | some (.array _ elem) => match sizeB P elem with
      | some size => match Instr.fill (fun i => some (i * size, size)) z.cells l with
        | some cs => some (.agg cs)
        | none => none
      | none => none
    | _ => none
  | none => none

def evMakeChan (P : Program) (t : TypeId) (m : Mem) (l : Value) : Ans :=
  match P.underlying t, l with
  | some (.chan _ elem), .int _ n => match bytesB P elem with
    | some bytes => if 0 ≤ n ∧ n ≤ 2 ^ 20 ∧ bytes ≤ 2 ^ 16 then some (.chan (some m.next), m.new (.obj (.chan n.toNat #[] false 0 0 false))) else none
    | none => none
  | _, _ => none

/-- A bound, where there is one. -/
def optV (fr : Fr) (base : Nat) : Option Operand → Option (Option Value)
  | none => some none
  | some x => match fr.val base x with
    | some y => if closed y then some (some y) else none
    | none => none

def evOp (P : Program) (base : Nat) (call : CallF) (fr : Fr) (m : Mem) (o : Oper) : Ans :=
  let v (x : Option Value) : Ans := match x with | some x => some (x, m) | none => none
  let u (x : Option Mem) : Ans := match x with | some m' => some (.tuple #[], m') | none => none
  let on (x : Operand) (f : Value → Ans) : Ans := match fr.val base x with | some y => f y | none => none
  match o.op with
  | .move x | .assign x => on x fun y => some (y, m)
  | .pick c a b => on c fun c => match c with
    | .bool true => on a fun y => some (y, m)
    | .bool false => on b fun y => some (y, m)
    | _ => none
  | .alloc t => match zeroB P t with
    | some z => some (.pointer (some ⟨m.next, 0, none⟩), m.newCells t z.cells.toList true)
    | none => none
  | .box t x => on x fun y => if y.cells.toList.all flat then some (.pointer (some ⟨m.next, 0, none⟩), m.newCells t y.cells.toList true) else none
  | .build t ps => match parts fr base ps.toList with
    | some l => v (evBuild P t l)
    | none => none
  | .buildSlice t n ps => match parts fr base ps.toList, P.underlying t with
    | some l, some (.slice elem) => match sizeB P elem, zeroB P elem with
      | some size, some z =>
        if n * size ≤ 2 ^ 24 ∧ z.cells.size = size then
          match Instr.fill (fun i => some (i * size, size)) (repeatL z.cells.toList n).toArray l with
          | some cs => if cs.toList.all flat then some (.slice (some ⟨m.next, 0, none⟩) n n, m.newCells elem cs.toList true) else none
          | none => none
        else none
      | _, _ => none
    | _, _ => none
  | .load t a => on a fun a => v (evLoad P t m a)
  | .store t a x => on a fun a => on x fun x => u (evStore P base t m a x)
  | .nilCheck x => on x fun y => match y with
    | .pointer (some _) => some (y, m)
    | .iface _ _ => some (y, m)
    | .func (.func _) _ _ => some (y, m)
    | .func (.method name) first _ => match first.toList with
      | .iface t w :: _ => if nilOk P t w name then some (y, m) else none
      | _ => none
    | _ => none
  | .binOp op t x y _ => on x fun a => on y fun b => v (evBin P op t x y a b)
  | .unOp op _ x => on x fun a => if closed a then v (pureRun P (Op.unary op a)) else none
  | .convert s d x => on x fun a => evConvert P s d m a
  | .makeInterface t x => on x fun a => match P.underlying t with
    | some (.interface _) => none
    | some _ => some (.iface t a, m)
    | none => none
  | .makeFunc f first cap => match vals fr base first.toList, vals fr base cap.toList with
    | some a, some b => some (.func f a.toArray b.toArray, m)
    | _, _ => none
  | .makeMap _ r => match r with
    | none => some (.map (some m.next), m.new (.obj (.map #[] 0)))
    | some _ => none
  | .makeSlice t l c => on l fun l => on c fun c => evMakeSlice P t m l c
  | .makeChan t l => on l fun l => evMakeChan P t m l
  | .slice t x lo hi mx => on x fun x => match optV fr base lo, optV fr base hi, optV fr base mx with
    | some lo, some hi, some mx => v (evSlice P t x lo hi mx)
    | _, _, _ => none
  | .fieldAddr s x f => on x fun x => v (evField P s f x)
  | .field t x f => on x fun x => match P.underlying t, x with
    | some (.struct fields), .agg cs => match fields[f]? with
      | some fd => v (partB P fd.type cs.toList fd.offset)
      | none => none
    | _, _ => none
  | .indexAddr t x i => on x fun x => on i fun i => v (evIndexAddr P t x i)
  | .index t x i => on x fun x => on i fun i => if closed x && closed i then v (pureRun P (Instr.index t x i)) else match P.underlying t, x, i with
    | some (.array len elem), .agg cs, .int _ i => match sizeB P elem with
      | some size => if 0 ≤ i ∧ i < len then v (partB P elem cs.toList (i.toNat * size)) else none
      | none => none
    | _, _, _ => none
  | .lookup t x k ok => on x fun x => on k fun k => v (evLookup P t m x k ok)
  | .mapUpdate t x k y => on x fun x => on k fun k => on y fun y => u (evMapUpdate P base t m x k y)
  | .insert t x k y => on x fun x => on k fun k => on y fun y => u (evMapUpdate P base t m x k y)
  | .range t x => on x fun x => evRange P t m x
  | .next it s => on it fun it => evNext base m it s
  | .entry it => on it fun it => v (evEntry m it)
  | .extract t i => on t fun t => match t with
    | .tuple vs => v vs[i]?
    | _ => none
  | .call c => evCallOp P base call fr m c
  | _ => none

def guardB (ops : List Oper) (fr : Fr) (o : Oper) : Option Bool :=
  match o.guard with
  | none => some true
  | some (j, want) => match ops[j]? with
    | some oj => match oj.dst with
      | some d => if d < fr.n then match fr.tm.get d with
          | some (.bool b) => some (b == want)
          | _ => some false
        else none
      | none => some false
    | none => some false

def evOps (P : Program) (base : Nat) (call : CallF) (ops : List Oper) : List Oper → Fr → Mem → Option (Fr × Mem)
  | [], fr, m => some (fr, m)
  | o :: l, fr, m => match guardB ops fr o with
    | some true => match evOp P base call fr m o with
      | some (v, m') => match fr.put o.dst v with
        | some fr' => evOps P base call ops l fr' m'
        | none => none
      | none => none
    | some false => match fr.put o.dst (.tuple #[]) with
      | some fr' => evOps P base call ops l fr' m
      | none => none
    | none => none

/-! ### regions whose order is drawn -/
def optEq (a b : Option Addr) : Bool :=
  match a, b with
  | none, none => true
  | some x, some y => decide (x = y)
  | _, _ => false

mutual
/-- The same, as far as it can be seen here. -/
def veq : Value → Value → Bool
  | .bool a, .bool b => a == b
  | .int k a, .int k' b => decide (k = k') && decide (a = b)
  | .pointer a, .pointer b => optEq a b
  | .slice a n c, .slice a' n' c' => optEq a a' && (Nat.beq n n' && Nat.beq c c')
  | .map none, .map none => true
  | .map (some a), .map (some b) => Nat.beq a b
  | .chan (some a), .chan (some b) => Nat.beq a b
  | .nilFunc, .nilFunc => true
  | .func (.func g) ⟨a⟩ ⟨b⟩, .func (.func g') ⟨a'⟩ ⟨b'⟩ => Nat.beq g g' && (veqA a a' && veqA b b')
  | .string a, .string b => decide (a = b)
  | .nilIface, .nilIface => true
  | .iface t v, .iface t' v' => Nat.beq t t' && veq v v'
  | .agg ⟨a⟩, .agg ⟨b⟩ => veqA a b
  | .tuple ⟨a⟩, .tuple ⟨b⟩ => veqA a b
  | _, _ => false
def veqA : List Value → List Value → Bool
  | [], [] => true
  | v :: l, v' :: l' => veq v v' && veqA l l'
  | _, _ => false
end

inductive Kind where
  /-- it may read, it turns nothing. -/
  | quiet
  /-- it may turn something: such operations stand in one order. -/
  | chain
  /-- something new, which nothing else bears upon. -/
  | float

def kindOf (o : Oper) : Kind :=
  match o.op with
  | .alloc _ => .float
  | .makeMap _ none => .float
  | .call c => match c.callee with
    | .builtin .len => .quiet
    | .builtin .min => .quiet
    | .builtin .max => .quiet
    | _ => .chain
  | .store .. | .mapUpdate .. | .insert .. | .box .. | .buildSlice .. | .makeSlice .. | .range .. | .next .. | .makeMap .. | .makeChan .. => .chain
  | _ => .quiet

/-- What a new thing is. -/
def fblkOf (P : Program) (o : Oper) : Option Blk :=
  match o.op with
  | .alloc t => match zeroB P t with
    | some z => some (.cells (Tr.ofList z.cells.toList 0 .e) z.cells.toList.length t true)
    | none => none
  | .makeMap _ none => some (.obj (.map #[] 0))
  | _ => none

def fvalOf (o : Oper) (n : Nat) : Value :=
  match o.op with
  | .makeMap _ _ => .map (some n)
  | _ => .pointer (some ⟨n, 0, none⟩)

/-- One operation in the region's text order: the frame before it, its value, what it left, and behind which of the chain it was seen. -/
structure St where
  fr : Fr
  want : Bool
  v : Value
  m : Mem
  c : Nat

def isChain (o : Oper) : Bool := match kindOf o with | .chain => true | _ => false
def isFloat (o : Oper) : Bool := match kindOf o with | .float => true | _ => false

/-- 'mb': the memory behind the last of the chain ('c': that one's place, and 1); 'm': with what is new besides. -/
def lexRun (P : Program) (base : Nat) (call : CallF) (ops : List Oper) (n0 : Nat) : List Oper → Nat → Fr → Nat → Mem → Mem → Option (List St × Fr × Mem)
  | [], _, fr, _, _, m => some ([], fr, m)
  | o :: l, i, fr, c, mb, m => match guardB ops fr o with
    | none => none
    | some false => match fr.put o.dst (.tuple #[]) with
      | none => none
      | some fr' => match lexRun P base call ops n0 l (i + 1) fr' c mb m with
        | some (r, z) => some (⟨fr, false, .tuple #[], m, c⟩ :: r, z)
        | none => none
    | some true => match kindOf o with
      | .quiet => match evOp P base call fr mb o with
        | none => none
        | some (v, _) => match fr.put o.dst v with
          | none => none
          | some fr' => match lexRun P base call ops n0 l (i + 1) fr' c mb m with
            | some (r, z) => some (⟨fr, true, v, m, c⟩ :: r, z)
            | none => none
      | .chain => match evOp P base call fr m o with
        | none => none
        | some (v, m') => match fr.put o.dst v with
          | none => none
          | some fr' => match lexRun P base call ops n0 l (i + 1) fr' (i + 1) m' m' with
            | some (r, z) => some (⟨fr, true, v, m', c⟩ :: r, z)
            | none => none
      | .float => match fblkOf P o with
        | none => none
        | some k => match fr.put o.dst (fvalOf o (n0 + i)) with
          | none => none
          | some fr' => match lexRun P base call ops n0 l (i + 1) fr' c mb { m with blks := m.blks.set (n0 + i) k } with
            | some (r, z) => some (⟨fr, true, fvalOf o (n0 + i), { m with blks := m.blks.set (n0 + i) k }, c⟩ :: r, z)
            | none => none

/-- Of each operation: all those that must be behind it, as bits. -/
def maskOf (acc : List Nat) (o : Oper) : Nat := o.after.toList.foldl (fun b e => if Region.binds .any e then b ||| 2 ^ e.on ||| acc.getD e.on 0 else b) 0
def masks : List Oper → List Nat → List Nat
  | [], acc => acc
  | o :: l, acc => masks l (acc ++ [maskOf acc o])

def looks (ops : List Oper) (o : Oper) : List Tmp :=
  (o.op.operands.toList.filterMap fun | .tmp t => some t | _ => none) ++
  (match o.guard with
   | some (g, _) => ((ops[g]?).bind (·.dst)).toList
   | none => [])

/-- Each pair of operations, the one ahead of the other in the text. -/
def pairOk (ops : List Oper) (mk : List Nat) (i : Nat) (oi : Oper) (j : Nat) (oj : Oper) : Bool :=
  Nat.testBit (mk.getD j 0) i ||
  (!(isChain oj && (isChain oi || isFloat oi)) &&
   (match oi.dst with
    | some d => !(looks ops oj).contains d
    | none => true) &&
   (match oj.dst with
    | some d => !(looks ops oi).contains d
    | none => true))

def allFrom {α : Type} (p : Nat → α → Bool) : Nat → List α → Bool
  | _, [] => true
  | i, x :: l => p i x && allFrom p (i + 1) l

def apartB (o o' : Oper) : Bool := match o.dst, o'.dst with | some d, some d' => !Nat.beq d d' | _, _ => true

def regionOk (ops : List Oper) : Bool :=
  let mk := masks ops []
  allFrom (fun i oi => oi.after.toList.all (fun e => !Region.binds .any e || Nat.blt e.on i) &&
    allFrom (fun j oj => !Nat.blt i j || (pairOk ops mk i oi j oj && apartB oi oj)) 0 ops) 0 ops &&
  ops.all (fun o => match o.op with | .select .. => false | _ => true)

/-- Behind as many operations of the text as 'c', of the chain ('chs'): may operation i stand there? -/
def standsAt (chs : List Nat) (mk : List Nat) (i c : Nat) : Bool :=
  chs.all fun j => if Nat.blt j c then !Nat.testBit (mk.getD j 0) i else !Nat.testBit (mk.getD i 0) j

def quietOk (P : Program) (base : Nat) (call : CallF) (chs : List Nat) (mk : List Nat) (i : Nat) (o : Oper) (s : St) (c : Nat) (mc : Mem) : Bool :=
  !standsAt chs mk i c || match evOp P base call s.fr mc o with
    | some (v, _) => veq v s.v
    | none => false

def bounds : List Oper → List St → Nat → List (Nat × Mem)
  | o :: l, s :: r, i => if isChain o && s.want then (i + 1, s.m) :: bounds l r (i + 1) else bounds l r (i + 1)
  | _, _, _ => []

def checkAll (P : Program) (base : Nat) (call : CallF) (mk : List Nat) (chs : List Nat) (bs : List (Nat × Mem)) : List Oper → List St → Nat → Bool
  | o :: l, s :: r, i =>
    (match kindOf o with
     | .quiet => !s.want || bs.all fun x => Nat.beq x.1 s.c || quietOk P base call chs mk i o s x.1 x.2
     | _ => true) && checkAll P base call mk chs bs l r (i + 1)
  | _, _, _ => true

/-- Room for the numbers of what is new. -/
def bump (ops : List Oper) (m : Mem) : Mem := { m with next := m.next + (if ops.any isFloat then ops.length else 0) }

def evDrawn (P : Program) (base : Nat) (call : CallF) (ops : List Oper) (fr : Fr) (m : Mem) : Option (Fr × Mem) :=
  if regionOk ops then
    match lexRun P base call ops m.next ops 0 fr 0 (bump ops m) (bump ops m) with
    | none => none
    | some (r, fr', m') =>
      if checkAll P base call (masks ops []) ((bounds ops r 0).map (·.1 - 1)) ((0, bump ops m) :: bounds ops r 0) ops r 0 then some (fr', m') else none
  else none

abbrev Out := Option (Ex × Fr × Mem)

def iter (f : Fr → Mem → Out) : Nat → Fr → Mem → Out
  | 0, _, _ => none
  | n + 1, fr, m => match f fr m with
    | some (.normal, fr', m') => iter f n fr' m'
    | r => r

/-- A select of one case with a default, in the one goroutine. -/
def evSel (P : Program) (base : Nat) (fr : Fr) (m : Mem) (o : Oper) : Ans :=
  match o.op, o.guard with
  | .select cases false, none => match cases.toList with
    | [c] => match fr.val base c.chan, zeroB P c.elem with
      | some (.chan (some r)), some z => match m.blks.get r with
        | some (.obj (.chan cap buf false s rc tm)) => match c.send with
          | some x => match fr.val base x with
            | some v => if base ≤ r ∧ buf.size < cap then some (.tuple #[goInt 0, .bool false], m.wr r (.obj (.chan cap (buf.push v) false (s + 1) rc tm))) else none
            | none => none
          | none => match buf.toList with
            | v :: l => if base ≤ r then some (.tuple #[goInt 0, .bool true, v], m.wr r (.obj (.chan cap l.toArray false s (rc + 1) tm))) else none
            | [] => some (.tuple #[goInt (-1), .bool false, z], m)
        | _ => none
      | _, _ => none
    | _ => none
  | _, _ => none

def isSel (o : Oper) : Bool := match o.op with | .select .. => true | _ => false

def evReg (P : Program) (base : Nat) (call : CallF) (all : List Oper) (fr : Fr) (m : Mem) : Option (Fr × Mem) :=
  match all with
  | [] => some (fr, m)
  | o :: l => if isSel o then match evSel P base fr m o with
      | some (v, m') => match fr.put o.dst v with
        | some fr' => evOps P base call all l fr' m'
        | none => none
      | none => none
    else evOps P base call all (o :: l) fr m

def evCode (P : Program) (base : Nat) (call : CallF) : Code → Fr → Mem → Out
  | .skip, fr, m => some (.normal, fr, m)
  | .region _ ops drawn, fr, m => match (if drawn then evDrawn P base call ops.toList fr m else evReg P base call ops.toList fr m) with
    | some (fr', m') => some (.normal, fr', m')
    | none => none
  | .seq a b, fr, m => match evCode P base call a fr m with
    | some (.normal, fr', m') => evCode P base call b fr' m'
    | r => r
  | .cond c a b, fr, m => match fr.val base c with
    | some (.bool true) => evCode P base call a fr m
    | some (.bool false) => evCode P base call b fr m
    | _ => none
  | .block id c, fr, m => match evCode P base call c fr m with
    | some (.exit id', fr', m') => if id' = id then some (.normal, fr', m') else some (.exit id', fr', m')
    | r => r
  | .loop c, fr, m => iter (evCode P base call c) 100000 fr m
  | .exit id, fr, m => some (.exit id, fr, m)
  | .ret, fr, m => some (.ret, fr, m)
  | _, _, _ => none

def resultsB (P : Program) (fr : Fr) (m : Mem) : List ResultVar → Option (List Value)
  | [] => some []
  | .tmp t :: l => match resultsB P fr m l with
    | some vs => some ((fr.tm.get t).getD (.tuple #[]) :: vs)
    | none => none
  | .cell a t :: l => match evLoad P t m ((fr.tm.get a).getD (.tuple #[])), resultsB P fr m l with
    | some v, some vs => some (v :: vs)
    | _, _ => none

def evFn (P : Program) (base : Nat) (call : CallF) (fn : Func) (args : List Value) (m : Mem) : Ans :=
  match fn.body with
  | none => none
  | some c =>
    if fn.ntmps < args.length then none else
    match evCode P base call c { tm := Tr.ofList args 0 .e, n := fn.ntmps } m with
    | some (.normal, fr, m') | some (.ret, fr, m') => match resultsB P fr m' fn.results.toList with
      | some [v] => some (v, m')
      | some vs => some (.tuple vs.toArray, m')
      | none => none
    | _ => none

/-- 'special': the functions proved by hand, as far as they go. -/
def evCall (P : Program) (base : Nat) (special : CallF) : Nat → CallF
  | 0, _, _, _ => none
  | d + 1, f, args, m => match special f args m with
    | some r => some r
    | none => match P.funcs[f]? with
      | some fn => evFn P base (evCall P base special d) fn args m
      | none => none

end Go.Ev
/-
  What the evaluator's values and memory stand for: a renaming of its block numbers.
-/
namespace Go.Ev

/-! ### tries -/
section
variable {α : Type}

theorem Tr.get_e (i : Nat) : (Tr.e : Tr α).get i = none := rfl

theorem Tr.put_get : ∀ (f : Nat) (t : Tr α) (i : Nat) (x : α) (j : Nat), i < f → (Tr.put f t i x).get j = if j = i then some x else t.get j
  | 0, _, _, _, _, h => absurd h (by omega)
  | f + 1, .e, 0, x, j, _ => by
    cases j with
    | zero => simp [Tr.put, Tr.get]
    | succ j => simp only [Tr.put, Tr.get, if_neg (Nat.succ_ne_zero j)]; split <;> rfl
  | f + 1, .n l v r, 0, x, j, _ => by
    cases j with
    | zero => simp [Tr.put, Tr.get]
    | succ j => simp [Tr.put, Tr.get]
  | f + 1, .e, i + 1, x, j, h => by
    cases hb : Nat.beq (i % 2) 0 with
    | true =>
      have hi : i % 2 = 0 := Nat.eq_of_beq_eq_true hb
      cases j with
      | zero => simp [Tr.put, Tr.get, hb]
      | succ j =>
        simp only [Tr.put, Tr.get, hb]
        cases hc : Nat.beq (j % 2) 0 with
        | true =>
          have hj : j % 2 = 0 := Nat.eq_of_beq_eq_true hc
          simp only [Tr.put_get f .e (i / 2) x (j / 2) (by omega), Tr.get_e]
          have : (j / 2 = i / 2) ↔ (j + 1 = i + 1) := by omega
          simp only [this]
        | false =>
          have hj : j % 2 ≠ 0 := fun e => by rw [e] at hc; cases hc
          have : ¬ (j + 1 = i + 1) := by omega
          rw [if_neg this]
    | false =>
      have hi : i % 2 ≠ 0 := fun e => by rw [e] at hb; cases hb
      cases j with
      | zero => simp [Tr.put, Tr.get, hb]
      | succ j =>
        simp only [Tr.put, Tr.get, hb]
        cases hc : Nat.beq (j % 2) 0 with
        | true =>
          have hj : j % 2 = 0 := Nat.eq_of_beq_eq_true hc
          have : ¬ (j + 1 = i + 1) := by omega
          rw [if_neg this]
        | false =>
          have hj : j % 2 ≠ 0 := fun e => by rw [e] at hc; cases hc
          simp only [Tr.put_get f .e (i / 2) x (j / 2) (by omega), Tr.get_e]
          have : (j / 2 = i / 2) ↔ (j + 1 = i + 1) := by omega
          simp only [this]
  | f + 1, .n l v r, i + 1, x, j, h => by
    cases hb : Nat.beq (i % 2) 0 with
    | true =>
      have hi : i % 2 = 0 := Nat.eq_of_beq_eq_true hb
      cases j with
      | zero => simp [Tr.put, Tr.get, hb]
      | succ j =>
        simp only [Tr.put, Tr.get, hb]
        cases hc : Nat.beq (j % 2) 0 with
        | true =>
          have hj : j % 2 = 0 := Nat.eq_of_beq_eq_true hc
          simp only [Tr.put_get f l (i / 2) x (j / 2) (by omega)]
          have : (j / 2 = i / 2) ↔ (j + 1 = i + 1) := by omega
          simp only [this]
        | false =>
          have hj : j % 2 ≠ 0 := fun e => by rw [e] at hc; cases hc
          have : ¬ (j + 1 = i + 1) := by omega
          rw [if_neg this]
    | false =>
      have hi : i % 2 ≠ 0 := fun e => by rw [e] at hb; cases hb
      cases j with
      | zero => simp [Tr.put, Tr.get, hb]
      | succ j =>
        simp only [Tr.put, Tr.get, hb]
        cases hc : Nat.beq (j % 2) 0 with
        | true =>
          have hj : j % 2 = 0 := Nat.eq_of_beq_eq_true hc
          have : ¬ (j + 1 = i + 1) := by omega
          rw [if_neg this]
        | false =>
          have hj : j % 2 ≠ 0 := fun e => by rw [e] at hc; cases hc
          simp only [Tr.put_get f r (i / 2) x (j / 2) (by omega)]
          have : (j / 2 = i / 2) ↔ (j + 1 = i + 1) := by omega
          simp only [this]

theorem Tr.get_set (t : Tr α) (i : Nat) (x : α) (j : Nat) : (t.set i x).get j = if j = i then some x else t.get j :=
  Tr.put_get (i + 1) t i x j (by omega)
theorem Tr.get_set_eq (t : Tr α) (i : Nat) (x : α) : (t.set i x).get i = some x := by rw [Tr.get_set, if_pos rfl]
theorem Tr.get_set_ne (t : Tr α) (x : α) {i j : Nat} (h : j ≠ i) : (t.set i x).get j = t.get j := by rw [Tr.get_set, if_neg h]

theorem Tr.get_ofList : ∀ (l : List α) (k : Nat) (t : Tr α) (j : Nat), (Tr.ofList l k t).get j = if k ≤ j ∧ j < k + l.length then l[j - k]? else t.get j
  | [], k, t, j => by simp [Tr.ofList]; omega
  | x :: l, k, t, j => by
    rw [Tr.ofList, Tr.get_ofList l (k + 1) (t.set k x) j, Tr.get_set]
    simp only [List.length_cons]
    by_cases h1 : j = k
    · subst h1
      rw [if_neg (by omega), if_pos rfl, if_pos (by omega)]
      simp
    · rw [if_neg h1]
      by_cases h2 : k + 1 ≤ j ∧ j < k + 1 + l.length
      · rw [if_pos h2, if_pos (by omega)]
        obtain ⟨d, hd⟩ : ∃ d, j = k + 1 + d := ⟨j - (k + 1), by omega⟩
        subst hd
        rw [show k + 1 + d - k = d + 1 by omega, show k + 1 + d - (k + 1) = d by omega]
        simp
      · rw [if_neg h2, if_neg (by omega)]
end

/-! ### renamings -/
structure Slot where
  blk : Nat
  sh : Nat
  ext : Nat
abbrev Ren := Nat → Option Slot

def leafB : Value → Bool
  | .pointer (some _) | .slice (some _) _ _ | .map (some _) | .chan (some _) | .func _ _ _ | .iface _ _ | .agg _ | .tuple _ => false
  | _ => true

mutual
inductive VR (ρ : Ren) : Value → Value → Prop where
  | leaf {v : Value} : leafB v = true → VR ρ v v
  | ptr {a : Addr} {s : Slot} : ρ a.block = some s → a.spot = none → VR ρ (.pointer (some a)) (.pointer (some ⟨s.blk, s.sh + a.off, none⟩))
  | slice {a : Addr} {s : Slot} {n c : Nat} : ρ a.block = some s → a.spot = none → VR ρ (.slice (some a) n c) (.slice (some ⟨s.blk, s.sh + a.off, none⟩) n c)
  | sliceO {a : Addr} {s : Slot} {n c k : Nat} : ρ a.block = some s → a.spot = some k →
      VR ρ (.slice (some a) n c) (.slice (some ⟨s.blk, s.sh + a.off + (if s.ext = 0 then 0 else k), none⟩) n (c + s.ext))
  | map {r : Nat} {s : Slot} : ρ r = some s → VR ρ (.map (some r)) (.map (some s.blk))
  | chan {r : Nat} {s : Slot} : ρ r = some s → VR ρ (.chan (some r)) (.chan (some s.blk))
  | func {fn : Fn} {a a' b b' : Array Value} : VRL ρ a.toList a'.toList → VRL ρ b.toList b'.toList → VR ρ (.func fn a b) (.func fn a' b')
  | iface {t : TypeId} {v v' : Value} : VR ρ v v' → VR ρ (.iface t v) (.iface t v')
  | agg {a a' : Array Value} : VRL ρ a.toList a'.toList → VR ρ (.agg a) (.agg a')
  | tuple {a a' : Array Value} : VRL ρ a.toList a'.toList → VR ρ (.tuple a) (.tuple a')
inductive VRL (ρ : Ren) : List Value → List Value → Prop where
  | nil : VRL ρ [] []
  | cons {v v' : Value} {l l' : List Value} : VR ρ v v' → VRL ρ l l' → VRL ρ (v :: l) (v' :: l')
end

/-- It knows all that the other one knows. -/
def Ext (ρ ρ' : Ren) : Prop := ∀ b s, ρ b = some s → ρ' b = some s
theorem Ext.refl (ρ : Ren) : Ext ρ ρ := fun _ _ h => h
theorem Ext.trans {a b c : Ren} (h : Ext a b) (h' : Ext b c) : Ext a c := fun x s hx => h' x s (h x s hx)

mutual
theorem VR.mono {ρ ρ' : Ren} (he : Ext ρ ρ') : ∀ {v v' : Value}, VR ρ v v' → VR ρ' v v'
  | _, _, .leaf h => .leaf h
  | _, _, .ptr h h' => .ptr (he _ _ h) h'
  | _, _, .slice h h' => .slice (he _ _ h) h'
  | _, _, .sliceO h h' => .sliceO (he _ _ h) h'
  | _, _, .map h => .map (he _ _ h)
  | _, _, .chan h => .chan (he _ _ h)
  | _, _, .func h h' => .func (VRL.mono he h) (VRL.mono he h')
  | _, _, .iface h => .iface (VR.mono he h)
  | _, _, .agg h => .agg (VRL.mono he h)
  | _, _, .tuple h => .tuple (VRL.mono he h)
theorem VRL.mono {ρ ρ' : Ren} (he : Ext ρ ρ') : ∀ {l l' : List Value}, VRL ρ l l' → VRL ρ' l l'
  | _, _, .nil => .nil
  | _, _, .cons h h' => .cons (VR.mono he h) (VRL.mono he h')
end

theorem VRL.length {ρ : Ren} : ∀ {l l' : List Value}, VRL ρ l l' → l.length = l'.length
  | _, _, .nil => rfl
  | _, _, .cons _ h => by simp [VRL.length h]
theorem VRL.get {ρ : Ren} : ∀ {l l' : List Value}, VRL ρ l l' → ∀ {i : Nat} {v : Value}, l[i]? = some v → ∃ v', l'[i]? = some v' ∧ VR ρ v v'
  | _, _, .nil, i, v, h => by simp at h
  | _, _, .cons (v' := y) h0 h, 0, v, e => by simp at e; subst e; exact ⟨y, rfl, h0⟩
  | _, _, .cons _ h, i + 1, v, e => by simp at e; obtain ⟨v', e', r⟩ := VRL.get h e; exact ⟨v', by simpa using e', r⟩
theorem VRL.append {ρ : Ren} : ∀ {a a' b b' : List Value}, VRL ρ a a' → VRL ρ b b' → VRL ρ (a ++ b) (a' ++ b')
  | _, _, _, _, .nil, h => h
  | _, _, _, _, .cons h0 h, h' => .cons h0 (VRL.append h h')
theorem VRL.take {ρ : Ren} : ∀ {l l' : List Value}, VRL ρ l l' → ∀ (n : Nat), VRL ρ (l.take n) (l'.take n)
  | _, _, _, 0 => .nil
  | _, _, .nil, _ + 1 => .nil
  | _, _, .cons h0 h, n + 1 => .cons h0 (VRL.take h n)
theorem VRL.drop {ρ : Ren} : ∀ {l l' : List Value}, VRL ρ l l' → ∀ (n : Nat), VRL ρ (l.drop n) (l'.drop n)
  | _, _, h, 0 => h
  | _, _, .nil, _ + 1 => .nil
  | _, _, .cons _ h, n + 1 => VRL.drop h n

mutual
theorem VR.of_closed (ρ : Ren) : ∀ (v : Value), closed v = true → VR ρ v v
  | .bool _, _ | .int _ _, _ | .float _ _, _ | .complex _ _ _, _ | .string _, _ | .pointer none, _ | .slice none _ _, _ | .map none, _ | .chan none, _ | .nilFunc, _ | .nilIface, _ => .leaf rfl
  | .pointer (some _), h | .slice (some _) _ _, h | .map (some _), h | .chan (some _), h => by simp [closed] at h
  | .func _ ⟨a⟩ ⟨b⟩, h => by
    simp only [closed, Bool.and_eq_true] at h
    exact .func (VRL.of_closed ρ a h.1) (VRL.of_closed ρ b h.2)
  | .iface _ v, h => .iface (VR.of_closed ρ v (by simpa only [closed] using h))
  | .agg ⟨cs⟩, h => .agg (VRL.of_closed ρ cs (by simpa only [closed] using h))
  | .tuple ⟨cs⟩, h => .tuple (VRL.of_closed ρ cs (by simpa only [closed] using h))
theorem VRL.of_closed (ρ : Ren) : ∀ (l : List Value), closedA l = true → VRL ρ l l
  | [], _ => .nil
  | v :: l, h => by
    simp only [closedA, Bool.and_eq_true] at h
    exact .cons (VR.of_closed ρ v h.1) (VRL.of_closed ρ l h.2)
end

end Go.Ev
/-
  The evaluator's memory and the world's: what lies where, and what a run may have turned.
-/
namespace Go.Ev

def ER (ρ : Ren) (e e' : MapEntry) : Prop := e.key = e'.key ∧ e.born = e'.born ∧ VR ρ e.val e'.val ∧ VR ρ e.key e'.key
inductive ERL (ρ : Ren) : List MapEntry → List MapEntry → Prop where
  | nil : ERL ρ [] []
  | cons {e e' : MapEntry} {l l' : List MapEntry} : ER ρ e e' → ERL ρ l l' → ERL ρ (e :: l) (e' :: l')

theorem ER.mono {ρ ρ' : Ren} (he : Ext ρ ρ') {e e' : MapEntry} (h : ER ρ e e') : ER ρ' e e' := ⟨h.1, h.2.1, h.2.2.1.mono he, h.2.2.2.mono he⟩
theorem ERL.mono {ρ ρ' : Ren} (he : Ext ρ ρ') {l l' : List MapEntry} (h : ERL ρ l l') : ERL ρ' l l' := by
  induction h with
  | nil => exact .nil
  | cons h0 _ ih => exact .cons (h0.mono he) ih

inductive OR (ρ : Ren) : Obj → Obj → Prop where
  | map {es es' : Array MapEntry} {c : Nat} : ERL ρ es.toList es'.toList → OR ρ (.map es c) (.map es' c)
  | iterN {a : Nat} {b : Array Nat} {c : Nat} : OR ρ (.mapIter none a b c) (.mapIter none a b c)
  | iter {r : Nat} {s : Slot} {a : Nat} {b : Array Nat} {c : Nat} : ρ r = some s → OR ρ (.mapIter (some r) a b c) (.mapIter (some s.blk) a b c)
  | chan {cap : Nat} {buf buf' : Array Value} {cl : Bool} {s r : Nat} {tm : Bool} : VRL ρ buf.toList buf'.toList → OR ρ (.chan cap buf cl s r tm) (.chan cap buf' cl s r tm)
theorem OR.mono {ρ ρ' : Ren} (he : Ext ρ ρ') {o o' : Obj} (h : OR ρ o o') : OR ρ' o o' := by
  cases h with
  | map h => exact .map (h.mono he)
  | iterN => exact .iterN
  | iter h => exact .iter (he _ _ h)
  | chan h => exact .chan (h.mono he)

/-- What a block of the evaluator's stands for. -/
def BR (P : Program) (ρ : Ren) (k : Blk) (s : Slot) (w : World) : Prop :=
  match k with
  | .cells c n t sure => ∃ cs, w.heap[s.blk]? = some (.cells cs t (0, 0)) ∧ s.sh + n + s.ext * P.cellsOf t ≤ cs.size ∧
      (∀ i, i < n → ∃ v v', c.get i = some v ∧ cs[s.sh + i]? = some v' ∧ VR ρ v v') ∧ s.sh = 0 ∧ (sure = false → cs.size = n + s.ext * P.cellsOf t ∧ cs.size ≤ maxLen * P.cellsOf t)
  | .bytes c n t => ∃ cs, w.heap[s.blk]? = some (.cells cs t (0, 0)) ∧ (∀ i, i < n → ∃ k, c.get i = some k ∧ k < 256 ∧ cs[i]? = some (.int .u8 (.ofNat k))) ∧ s.sh = 0 ∧ cs.size = n + s.ext * P.cellsOf t ∧ cs.size ≤ maxLen * P.cellsOf t
  | .obj o => s.sh = 0 ∧ ∃ o', w.heap[s.blk]? = some o' ∧ OR ρ o o'
  | .dead => True

theorem BR.mono {P : Program} {ρ ρ' : Ren} (he : Ext ρ ρ') {k : Blk} {s : Slot} {w w' : World} (hw : w'.heap[s.blk]? = w.heap[s.blk]?) (h : BR P ρ k s w) : BR P ρ' k s w' := by
  cases k with
  | cells c n t b =>
    obtain ⟨cs, h1, h2, h3, h4⟩ := h
    exact ⟨cs, hw.trans h1, h2, fun i hi => let ⟨v, v', a, b, c⟩ := h3 i hi; ⟨v, v', a, b, c.mono he⟩, h4⟩
  | bytes c n t =>
    obtain ⟨cs, h1, h2⟩ := h
    exact ⟨cs, hw.trans h1, h2⟩
  | obj o => obtain ⟨h0, o', h1, h2⟩ := h; exact ⟨h0, o', hw.trans h1, h2.mono he⟩
  | dead => trivial

def live (m : Mem) (b : Nat) : Prop := ∃ k, m.blks.get b = some k ∧ k ≠ .dead

structure Rel (P : Program) (base : Nat) (ρ : Ren) (m : Mem) (w : World) : Prop where
  dom : ∀ b, m.next ≤ b → ρ b = none
  bnd : ∀ b k, m.blks.get b = some k → k ≠ .dead → b < m.next
  im : ∀ b k, m.blks.get b = some k → k ≠ .dead → ∃ s, ρ b = some s ∧ BR P ρ k s w
  inj : ∀ b b' s s', live m b → live m b' → ρ b = some s → ρ b' = some s' → s.blk = s'.blk → b = b'
  glob : ∀ b, b < base → ρ b = some ⟨b, 0, 0⟩
  low : base ≤ m.next

/-- What is no live block's image is as it was. -/
structure Kept (base : Nat) (ρ : Ren) (m : Mem) (w w' : World) : Prop where
  size : w.heap.size ≤ w'.heap.size
  heap : ∀ c, c < w.heap.size → (∀ b s, base ≤ b → live m b → ρ b = some s → s.blk ≠ c) → w'.heap[c]? = w.heap[c]?
  os : w'.os = w.os
  out : w'.output = w.output
  tape : w'.tape = w.tape

structure Went (P : Program) (base : Nat) (ρ : Ren) (m : Mem) (w : World) (ρ' : Ren) (m' : Mem) (w' : World) : Prop where
  ext : Ext ρ ρ'
  rel : Rel P base ρ' m' w'
  kept : Kept base ρ m w w'
  fresh : ∀ b s, m.next ≤ b → live m' b → ρ' b = some s → w.heap.size ≤ s.blk ∨ ∃ b0 s0, base ≤ b0 ∧ live m b0 ∧ ρ b0 = some s0 ∧ s0.blk = s.blk
  next : m.next ≤ m'.next
  none : ∀ b, b < m.next → live m' b → live m b
  same : ∀ b, b < m.next → ρ' b = ρ b

theorem live_lt {P : Program} {base : Nat} {ρ : Ren} {m : Mem} {w : World} (h : Rel P base ρ m w) {b : Nat} (hb : live m b) : b < m.next := let ⟨k, hk, hd⟩ := hb; h.bnd b k hk hd
theorem live_im {P : Program} {base : Nat} {ρ : Ren} {m : Mem} {w : World} (h : Rel P base ρ m w) {b : Nat} (hb : live m b) : ∃ s, ρ b = some s := let ⟨k, hk, hd⟩ := hb; let ⟨s, hs, _⟩ := h.im b k hk hd; ⟨s, hs⟩

theorem Went.refl {P : Program} {base : Nat} {ρ : Ren} {m : Mem} {w : World} (h : Rel P base ρ m w) : Went P base ρ m w ρ m w where
  ext := Ext.refl ρ
  rel := h
  kept := ⟨Nat.le_refl _, fun _ _ _ => rfl, rfl, rfl, rfl⟩
  fresh := fun b _ hb hl _ => absurd (live_lt h hl) (by omega)
  next := Nat.le_refl _
  none := fun _ _ h => h
  same := fun _ _ => rfl

theorem Went.trans {P : Program} {base : Nat} {ρ ρ1 ρ2 : Ren} {m m1 m2 : Mem} {w w1 w2 : World} (h0 : Rel P base ρ m w)
    (h : Went P base ρ m w ρ1 m1 w1) (h' : Went P base ρ1 m1 w1 ρ2 m2 w2) : Went P base ρ m w ρ2 m2 w2 where
  ext := h.ext.trans h'.ext
  rel := h'.rel
  kept := by
    refine ⟨Nat.le_trans h.kept.size h'.kept.size, fun c hc hno => ?_, h'.kept.os.trans h.kept.os, h'.kept.out.trans h.kept.out, h'.kept.tape.trans h.kept.tape⟩
    refine (h'.kept.heap c (Nat.lt_of_lt_of_le hc h.kept.size) fun b s hb hl hs => ?_).trans (h.kept.heap c hc hno)
    by_cases hbn : b < m.next
    · have hl0 := h.none b hbn hl
      obtain ⟨s0, hs0⟩ := live_im h0 hl0
      have : s0 = s := Option.some.inj ((h.ext b s0 hs0).symm.trans hs)
      exact this ▸ hno b s0 hb hl0 hs0
    · rcases h.fresh b s (by omega) hl hs with h1 | ⟨b0, s0, hb0, hl0, hs0, he⟩
      · omega
      · exact he ▸ hno b0 s0 hb0 hl0 hs0
  fresh := fun b s hb hl hs => by
    by_cases hb1 : b < m1.next
    · have hl1 := h'.none b hb1 hl
      obtain ⟨s1, hs1⟩ := live_im h.rel hl1
      have : s1 = s := Option.some.inj ((h'.ext b s1 hs1).symm.trans hs)
      subst this
      exact h.fresh b s1 hb hl1 hs1
    · rcases h'.fresh b s (by omega) hl hs with h1 | ⟨b0, s0, hb0, hl0, hs0, he⟩
      · exact .inl (Nat.le_trans h.kept.size h1)
      · by_cases hbn : b0 < m.next
        · have hl00 := h.none b0 hbn hl0
          obtain ⟨s00, hs00⟩ := live_im h0 hl00
          have : s00 = s0 := Option.some.inj ((h.ext b0 s00 hs00).symm.trans hs0)
          subst this
          exact .inr ⟨b0, s00, hb0, hl00, hs00, he⟩
        · rcases h.fresh b0 s0 (by omega) hl0 hs0 with h1 | ⟨b1, s1, hb1, hl1, hs1, he1⟩
          · exact .inl (he ▸ h1)
          · exact .inr ⟨b1, s1, hb1, hl1, hs1, he1.trans he⟩
  next := Nat.le_trans h.next h'.next
  none := fun b hb hl => h.none b hb (h'.none b (Nat.lt_of_lt_of_le hb h.next) hl)
  same := fun b hb => (h'.same b (Nat.lt_of_lt_of_le hb h.next)).trans (h.same b hb)

/-! ### a new block -/
def Ren.with (ρ : Ren) (b : Nat) (s : Slot) : Ren := fun x => if x = b then some s else ρ x

theorem Ren.ext_with {ρ : Ren} {b : Nat} {s : Slot} (h : ρ b = none) : Ext ρ (ρ.with b s) := fun x t hx => by
  unfold Ren.with
  by_cases he : x = b
  · subst he; rw [h] at hx; cases hx
  · rw [if_neg he]; exact hx

theorem went_new {P : Program} {base : Nat} {ρ : Ren} {m : Mem} {w : World} (h : Rel P base ρ m w) (k : Blk) (o : Obj) (x : Nat)
    (hb : BR P (ρ.with m.next ⟨w.heap.size, 0, x⟩) k ⟨w.heap.size, 0, x⟩ { w with heap := w.heap.push o }) :
    Went P base ρ m w (ρ.with m.next ⟨w.heap.size, 0, x⟩) (m.new k) { w with heap := w.heap.push o } := by
  have hdom : ρ m.next = none := h.dom _ (Nat.le_refl _)
  have he := Ren.ext_with (s := ⟨w.heap.size, 0, x⟩) hdom
  have hold : ∀ c, c < w.heap.size → (w.heap.push o)[c]? = w.heap[c]? := fun c hc => by rw [Array.getElem?_push, if_neg (by omega)]
  have hget : ∀ b, b ≠ m.next → (m.new k).blks.get b = m.blks.get b := fun b hb => by simp only [Mem.new]; exact Tr.get_set_ne _ _ hb
  have hlt : ∀ b s, ρ b = some s → live m b → s.blk < w.heap.size := fun b s hs ⟨k', hk', hd⟩ => by
    obtain ⟨s', hs', hbr⟩ := h.im b k' hk' hd
    have : s' = s := Option.some.inj (hs'.symm.trans hs)
    subst this
    have key : ∃ o', w.heap[s'.blk]? = some o' := by
      cases k' with
      | cells c n t b => obtain ⟨cs, h1, _⟩ := hbr; exact ⟨_, h1⟩
      | bytes c n t => obtain ⟨cs, h1, _⟩ := hbr; exact ⟨_, h1⟩
      | obj o => obtain ⟨_, o', h1, _⟩ := hbr; exact ⟨_, h1⟩
      | dead => exact absurd rfl hd
    obtain ⟨o', h1⟩ := key
    exact (Array.getElem?_eq_some_iff.1 h1).1
  have hl' : ∀ b, b ≠ m.next → live (m.new k) b → live m b := fun b hb ⟨k', hk', hd⟩ => ⟨k', (hget b hb).symm.trans hk', hd⟩
  refine ⟨he, ⟨fun b hb => ?_, fun b k' hk' hd => ?_, fun b k' hk' hd => ?_, fun b b' s s' hl hl'' hs hs' heq => ?_, fun b hb => ?_, ?_⟩, ⟨by simp, fun c hc _ => hold c hc, rfl, rfl, rfl⟩, fun b s hb hl hs => ?_, Nat.le_succ _, fun b hb hl => hl' b (by omega) hl, fun b hb => by rw [Ren.with, if_neg (by omega)]⟩
  · have : m.next + 1 ≤ b := hb
    rw [Ren.with, if_neg (by omega)]; exact h.dom b (by omega)
  · show b < m.next + 1
    by_cases hbn : b = m.next
    · omega
    · have := h.bnd b k' ((hget b hbn).symm.trans hk') hd; omega
  · by_cases hbn : b = m.next
    · subst hbn
      have : k' = k := by simp only [Mem.new, Tr.get_set_eq] at hk'; exact (Option.some.inj hk').symm
      subst this
      exact ⟨_, by rw [Ren.with, if_pos rfl], hb⟩
    · have hk0 := (hget b hbn).symm.trans hk'
      obtain ⟨s, hs, hbr⟩ := h.im b k' hk0 hd
      exact ⟨s, he b s hs, hbr.mono he (hold _ (hlt b s hs ⟨k', hk0, hd⟩))⟩
  · by_cases h1 : b = m.next <;> by_cases h2 : b' = m.next
    · omega
    · subst h1
      rw [Ren.with, if_pos rfl] at hs
      rw [Ren.with, if_neg h2] at hs'
      have := hlt b' s' hs' (hl' b' h2 hl'')
      cases hs
      simp only at heq
      omega
    · subst h2
      rw [Ren.with, if_pos rfl] at hs'
      rw [Ren.with, if_neg h1] at hs
      have := hlt b s hs (hl' b h1 hl)
      cases hs'
      simp only at heq
      omega
    · rw [Ren.with, if_neg h1] at hs
      rw [Ren.with, if_neg h2] at hs'
      exact h.inj b b' s s' (hl' b h1 hl) (hl' b' h2 hl'') hs hs' heq
  · have := h.low
    rw [Ren.with, if_neg (by omega)]; exact h.glob b hb
  · exact Nat.le_succ_of_le h.low
  · have : b = m.next := by have h1 : live (m.new k) b := hl; obtain ⟨k', hk', hd⟩ := h1; by_cases hbn : b = m.next; exact hbn; have := h.bnd b k' ((hget b hbn).symm.trans hk') hd; omega
    subst this
    rw [Ren.with, if_pos rfl] at hs
    cases hs
    exact .inl (Nat.le_refl _)

/-- A draw turns nothing that the evaluator sees. -/
theorem went_drew {P : Program} {base : Nat} {ρ : Ren} {m : Mem} {w : World} (h : Rel P base ρ m w) (d : Nat) : Went P base ρ m w ρ m { w with drawn := d } where
  ext := Ext.refl ρ
  rel := ⟨h.dom, h.bnd, fun b k hk hd => let ⟨s, hs, hb⟩ := h.im b k hk hd; ⟨s, hs, hb.mono (Ext.refl ρ) rfl⟩, h.inj, h.glob, h.low⟩
  kept := ⟨Nat.le_refl _, fun _ _ _ => rfl, rfl, rfl, rfl⟩
  fresh := fun b _ hb hl _ => absurd (live_lt h hl) (by omega)
  next := Nat.le_refl _
  none := fun _ _ h => h
  same := fun _ _ => rfl

/-! ### a block written -/
theorem went_wr {P : Program} {base : Nat} {ρ : Ren} {m : Mem} {w w' : World} (h : Rel P base ρ m w) {b : Nat} {s : Slot} {k : Blk} (hb : base ≤ b) (hl : live m b) (hs : ρ b = some s)
    (hk : BR P ρ k s w') (hw : ∀ c, c ≠ s.blk → w'.heap[c]? = w.heap[c]?) (hsz : w'.heap.size = w.heap.size) (hos : w'.os = w.os) (hout : w'.output = w.output) (htape : w'.tape = w.tape) :
    Went P base ρ m w ρ (m.wr b k) w' := by
  have hget : ∀ x, x ≠ b → (m.wr b k).blks.get x = m.blks.get x := fun x hx => Tr.get_set_ne _ _ hx
  have hbl : ∀ x, live (m.wr b k) x → live m x := fun x ⟨k', hk', hd⟩ => by
    by_cases hx : x = b
    · rw [hx]; exact hl
    · exact ⟨k', (hget x hx).symm.trans hk', hd⟩
  refine ⟨Ext.refl ρ, ⟨h.dom, fun x k' hk' hd => ?_, fun x k' hk' hd => ?_, fun x y s1 s2 hx hy => h.inj x y s1 s2 (hbl x hx) (hbl y hy), h.glob, h.low⟩,
    ⟨by omega, fun c _ hno => hw c (fun e => hno b s hb hl hs e.symm), hos, hout, htape⟩, fun x t hx hlx _ => absurd (live_lt h (hbl x hlx)) (by omega), Nat.le_refl _, fun x _ hlx => hbl x hlx, fun _ _ => rfl⟩
  · by_cases hx : x = b
    · rw [hx]; exact live_lt h hl
    · exact h.bnd x k' ((hget x hx).symm.trans hk') hd
  · by_cases hx : x = b
    · subst hx
      have : k' = k := by simp only [Mem.wr, Tr.get_set_eq] at hk'; exact (Option.some.inj hk').symm
      subst this
      exact ⟨s, hs, hk⟩
    · have hk0 := (hget x hx).symm.trans hk'
      obtain ⟨t, ht, hbr⟩ := h.im x k' hk0 hd
      refine ⟨t, ht, hbr.mono (Ext.refl ρ) (hw _ fun e => hx (h.inj x b t s ⟨k', hk0, hd⟩ hl ht hs e))⟩

/-- A block dies: its image may hold what it will. -/
theorem rel_kill {P : Program} {base : Nat} {ρ : Ren} {m : Mem} {w : World} (h : Rel P base ρ m w) {b : Nat} {s : Slot} (hb : base ≤ b) (hl : live m b) (hs : ρ b = some s) :
    Went P base ρ m w ρ (m.wr b .dead) w :=
  went_wr h hb hl hs trivial (fun _ _ => rfl) rfl rfl rfl rfl

/-! ### less known, and more known -/
/-- The one knows no more than the other. -/
def Sub (m X : Mem) : Prop := m.next = X.next ∧ ∀ b k, m.blks.get b = some k → k ≠ .dead → X.blks.get b = some k

theorem Sub.live {m X : Mem} (h : Sub m X) {b : Nat} (hb : live m b) : live X b := let ⟨k, hk, hd⟩ := hb; ⟨k, h.2 b k hk hd, hd⟩

theorem Rel.sub {P : Program} {base : Nat} {ρ : Ren} {m X : Mem} {w : World} (h : Rel P base ρ X w) (hs : Sub m X) : Rel P base ρ m w where
  dom := fun b hb => h.dom b (hs.1 ▸ hb)
  bnd := fun b k hk hd => hs.1 ▸ h.bnd b k (hs.2 b k hk hd) hd
  im := fun b k hk hd => h.im b k (hs.2 b k hk hd) hd
  inj := fun b b' s s' hb hb' => h.inj b b' s s' (hs.live hb) (hs.live hb')
  glob := h.glob
  low := hs.1 ▸ h.low

/-- What went on at the little that was known goes on at all: 'X'' knows of each block what 'm'' knows, or, where 'm' knew nothing, what 'X' knew. -/
theorem Went.sup {P : Program} {base : Nat} {ρ ρ' : Ren} {m m' X X' : Mem} {w w' : World} (h : Rel P base ρ X w) (hs : Sub m X) (g : Went P base ρ m w ρ' m' w') (hn : X'.next = m'.next)
    (hx : ∀ b k, X'.blks.get b = some k → k ≠ .dead → m'.blks.get b = some k ∨ (b < m.next ∧ base ≤ b ∧ ¬ live m b ∧ X.blks.get b = some k)) : Went P base ρ X w ρ' X' w' := by
  have old : ∀ b k, base ≤ b → ¬ live m b → X.blks.get b = some k → k ≠ .dead → ∃ s, ρ b = some s ∧ ρ' b = some s ∧ s.blk < w.heap.size ∧ w'.heap[s.blk]? = w.heap[s.blk]? ∧ BR P ρ k s w := fun b k hb hl hk hd => by
    obtain ⟨s, hs1, hbr⟩ := h.im b k hk hd
    have key : s.blk < w.heap.size := by
      cases k with
      | cells c n t z => obtain ⟨cs, h1, _⟩ := hbr; exact (Array.getElem?_eq_some_iff.1 h1).1
      | bytes c n t => obtain ⟨cs, h1, _⟩ := hbr; exact (Array.getElem?_eq_some_iff.1 h1).1
      | obj o => obtain ⟨_, o', h1, _⟩ := hbr; exact (Array.getElem?_eq_some_iff.1 h1).1
      | dead => exact absurd rfl hd
    refine ⟨s, hs1, g.ext b s hs1, key, g.kept.heap _ key fun b1 s1 hb1 hl1 hs2 he => ?_, hbr⟩
    have := h.inj b1 b s1 s (hs.live hl1) ⟨k, hk, hd⟩ hs2 hs1 he
    exact hl (this ▸ hl1)
  -- what is live at the end: known to 'm'', or left alone
  have cases' : ∀ b, live X' b → live m' b ∨ (b < m.next ∧ base ≤ b ∧ ¬ live m b ∧ live X b) := fun b ⟨k, hk, hd⟩ => by
    rcases hx b k hk hd with h1 | ⟨h1, h2, h3, h4⟩
    · exact .inl ⟨k, h1, hd⟩
    · exact .inr ⟨h1, h2, h3, k, h4, hd⟩
  have apart : ∀ b b' s s', live m' b → (base ≤ b' ∧ ¬ live m b' ∧ live X b') → ρ' b = some s → ρ' b' = some s' → s.blk = s'.blk → b = b' := fun b b' s s' hb ⟨hb0, hb1, k, hk, hd⟩ h1 h2 he => by
    obtain ⟨t, t1, t2, t3, t4, t5⟩ := old b' k hb0 hb1 hk hd
    have : t = s' := Option.some.inj (t2.symm.trans h2)
    subst this
    by_cases hbn : b < m.next
    · have hl := g.none b hbn hb
      obtain ⟨s1, hs1⟩ := live_im h (hs.live hl)
      have : s1 = s := Option.some.inj ((g.ext b s1 hs1).symm.trans h1)
      subst this
      exact h.inj b b' s1 t (hs.live hl) ⟨k, hk, hd⟩ hs1 t1 he
    · rcases g.fresh b s (by omega) hb h1 with h3 | ⟨b0, s0, q1, q2, q3, q4⟩
      · omega
      · have := h.inj b0 b' s0 t (hs.live q2) ⟨k, hk, hd⟩ q3 t1 (q4.trans he)
        exact absurd (this ▸ q2) hb1
  refine ⟨g.ext, ⟨fun b hb => g.rel.dom b (hn ▸ hb), fun b k hk hd => ?_, fun b k hk hd => ?_, fun b b' s s' hb hb' h1 h2 he => ?_, g.rel.glob, hn ▸ g.rel.low⟩, ⟨g.kept.size, fun c hc hno => g.kept.heap c hc fun b s hb hl => hno b s hb (hs.live hl), g.kept.os, g.kept.out, g.kept.tape⟩, fun b s hb hl h1 => ?_, by rw [hn, ← hs.1]; exact g.next, fun b hb hl => ?_, fun b hb => g.same b (hs.1 ▸ hb)⟩
  · rcases hx b k hk hd with h1 | ⟨h1, _⟩
    · exact hn ▸ g.rel.bnd b k h1 hd
    · rw [hn]; exact Nat.lt_of_lt_of_le h1 g.next
  · rcases hx b k hk hd with h1 | ⟨h0, h1, h2, h3⟩
    · exact g.rel.im b k h1 hd
    · obtain ⟨t, t1, t2, t3, t4, t5⟩ := old b k h1 h2 h3 hd
      exact ⟨t, t2, t5.mono g.ext t4⟩
  · rcases cases' b hb with c1 | ⟨c0, c1⟩ <;> rcases cases' b' hb' with d1 | ⟨d0, d1⟩
    · exact g.rel.inj b b' s s' c1 d1 h1 h2 he
    · exact apart b b' s s' c1 d1 h1 h2 he
    · exact (apart b' b s' s d1 c1 h2 h1 he.symm).symm
    · obtain ⟨c2, c3, k, c4, c5⟩ := c1
      obtain ⟨d2, d3, k', d4, d5⟩ := d1
      obtain ⟨t, t1, t2, _⟩ := old b k c2 c3 c4 c5
      obtain ⟨u, u1, u2, _⟩ := old b' k' d2 d3 d4 d5
      have e1 : t = s := Option.some.inj (t2.symm.trans h1)
      have e2 : u = s' := Option.some.inj (u2.symm.trans h2)
      subst e1; subst e2
      exact h.inj b b' t u ⟨k, c4, c5⟩ ⟨k', d4, d5⟩ t1 u1 he
  · rcases cases' b hl with c1 | ⟨c0, c1⟩
    · rcases g.fresh b s (hs.1 ▸ hb) c1 h1 with h3 | ⟨b0, s0, q1, q2, q3, q4⟩
      · exact .inl h3
      · exact .inr ⟨b0, s0, q1, hs.live q2, q3, q4⟩
    · rw [hs.1] at c0; omega
  · rcases cases' b hl with c1 | ⟨c0, c1, c2, c3⟩
    · exact hs.live (g.none b (hs.1 ▸ hb) c1)
    · exact c3

end Go.Ev
/-
  The evaluator's operations, one by one, beside the model's own.
-/
namespace Go.Ev

/-! ### frames -/
structure FR (ρ : Ren) (fr : Fr) (a : Act) : Prop where
  size : a.tmps.size = fr.n
  defers : a.defers = []
  val : ∀ i, VR ρ ((fr.tm.get i).getD undef) (a.tmps.getD i undef)

theorem FR.mono {ρ ρ' : Ren} (he : Ext ρ ρ') {fr : Fr} {a : Act} (h : FR ρ fr a) : FR ρ' fr a := ⟨h.size, h.defers, fun i => (h.val i).mono he⟩

theorem vr_undef (ρ : Ren) : VR ρ undef undef := .tuple .nil

theorem FR.put {ρ : Ren} {fr fr' : Fr} {a : Act} {d : Option Tmp} {v v' : Value} (h : FR ρ fr a) (hv : VR ρ v v') (hp : fr.put d v = some fr') : FR ρ fr' (a.put d v') := by
  cases d with
  | none => cases hp; exact h
  | some t =>
    simp only [Fr.put] at hp
    split at hp
    · rename_i ht
      cases hp
      refine ⟨by simp [Act.put, h.size], by simp [Act.put, h.defers], fun i => ?_⟩
      simp only [Act.put, Tr.get_set]
      by_cases hi : i = t
      · subst hi
        have : i < a.tmps.size := by rw [h.size]; exact ht
        simp [this, hv]
      · rw [if_neg hi]
        have := h.val i
        have hne : t ≠ i := fun e => hi e.symm
        rw [show (a.tmps.setIfInBounds t v').getD i undef = a.tmps.getD i undef by simp [Array.getD_eq_getD_getElem?, Array.getElem?_setIfInBounds_ne hne]]
        exact this
    · cases hp

theorem FR.eval {P : Program} {base : Nat} {ρ : Ren} {m : Mem} {w : World} {fr : Fr} {a : Act} (hr : Rel P base ρ m w) (h : FR ρ fr a) {x : Operand} {v : Value} (hx : fr.val base x = some v) : VR ρ v (a.eval x) := by
  cases x with
  | tmp t => simp only [Fr.val, Option.some.injEq] at hx; subst hx; exact h.val t
  | const c =>
    simp only [Fr.val] at hx
    split at hx
    · rename_i hc; cases hx; exact .of_closed ρ _ hc
    · cases hx
  | global g =>
    simp only [Fr.val] at hx
    split at hx
    · rename_i hg
      cases hx
      exact .ptr (a := ⟨g, 0, none⟩) (hr.glob g hg) rfl
    · cases hx
  | func f => simp only [Fr.val, Option.some.injEq] at hx; subst hx; exact .func .nil .nil

/-! ### types -/
theorem run_isAgg {P : Program} {t : TypeId} {b : Bool} (h : aggB P t = some b) (w : World) : (isAgg t).run P w = .ok b w := by
  unfold aggB at h
  cases hu : P.underlying t with
  | none => rw [hu] at h; cases h
  | some d =>
    rw [hu] at h
    simp only [isAgg, Sem.run_bind, run_underlying hu, Result.andThen_ok]
    cases d <;> first | (simp only [Option.some.injEq] at h; subst h; rfl) | (cases h; rfl)

theorem run_size {P : Program} {t : TypeId} {n : Nat} (h : sizeB P t = some n) (w : World) : (sizeOf t).run P w = .ok n w := by
  unfold sizeB at h
  cases hi : P.info? t with
  | none => rw [hi] at h; cases h
  | some i =>
    rw [hi] at h
    simp only [Option.map_some, Option.some.injEq] at h
    subst h
    simp [sizeOf, typeInfo, hi]

theorem run_zero {P : Program} {t : TypeId} {z : Value} (h : zeroB P t = some z) (w : World) : (zeroValue t).run P w = .ok z w := by
  unfold zeroB at h
  cases hi : P.info? t with
  | none => rw [hi] at h; cases h
  | some i =>
    rw [hi] at h
    simp only [Option.bind_some] at h
    cases hz : i.zero with
    | none => rw [hz] at h; cases h
    | some z' =>
      rw [hz] at h
      simp only at h
      split at h
      · cases h; simp [zeroValue, typeInfo, hi, hz]
      · cases h
theorem zero_closed {P : Program} {t : TypeId} {z : Value} (h : zeroB P t = some z) : closed z = true := by
  unfold zeroB at h
  split at h
  · split at h
    · cases h; assumption
    · cases h
  · cases h

/-! ### cells -/
theorem addr_add (b o n : Nat) : (⟨b, o, none⟩ : Addr).add n = ⟨b, o + n, none⟩ := by unfold Addr.add; split <;> simp_all

theorem cell_rel {P : Program} {base : Nat} {ρ : Ren} {m : Mem} {w : World} (h : Rel P base ρ m w) {b i : Nat} {v : Value} (hc : m.cell b i = some v) {s : Slot} (hs : ρ b = some s) :
    ∃ v', w.cell? ⟨s.blk, s.sh + i, none⟩ = some v' ∧ VR ρ v v' := by
  unfold Mem.cell at hc
  split at hc
  · rename_i c n t sure hb
    split at hc
    · rename_i hi
      obtain ⟨s', hs', cs, h1, h2, h3, _⟩ := h.im b _ hb (by simp)
      have : s' = s := Option.some.inj (hs'.symm.trans hs)
      subst this
      obtain ⟨v0, v', e1, e2, e3⟩ := h3 i hi
      have : v0 = v := Option.some.inj (e1.symm.trans hc)
      subst this
      exact ⟨v', by simp [World.cell?, h1, e2], e3⟩
    · cases hc
  · rename_i c n t hb
    split at hc
    · rename_i hi
      obtain ⟨s', hs', cs, h1, h2, h3, _⟩ := h.im b _ hb (by simp)
      have : s' = s := Option.some.inj (hs'.symm.trans hs)
      subst this
      obtain ⟨k, e1, e2, e3⟩ := h2 i hi
      rw [e1] at hc
      simp only [Option.some.injEq] at hc
      subst hc
      exact ⟨_, by simp [World.cell?, h1, h3, e3], .leaf rfl⟩
    · cases hc
  · cases hc

theorem loadN_rel {P : Program} {base : Nat} {ρ : Ren} {m : Mem} {w : World} (h : Rel P base ρ m w) {b : Nat} {s : Slot} (hs : ρ b = some s) : ∀ (k i : Nat) (l : List Value), m.loadN b i k = some l →
    ∃ l', l'.length = k ∧ VRL ρ l l' ∧ ∀ j v, l'[j]? = some v → w.cell? ⟨s.blk, s.sh + i + j, none⟩ = some v
  | 0, i, l, e => by simp only [Mem.loadN, Option.some.injEq] at e; subst e; exact ⟨[], rfl, .nil, fun j v e => by simp at e⟩
  | k + 1, i, l, e => by
    simp only [Mem.loadN] at e
    split at e
    · rename_i v hv
      split at e
      · rename_i l1 hl1
        cases e
        obtain ⟨v', hc, hvr⟩ := cell_rel h hv hs
        obtain ⟨l', h1, h2, h3⟩ := loadN_rel h hs k (i + 1) l1 hl1
        refine ⟨v' :: l', by simp [h1], .cons hvr h2, fun j x hx => ?_⟩
        cases j with
        | zero => simp at hx; subst hx; exact hc
        | succ j => simp at hx; have := h3 j x hx; rwa [show s.sh + (i + 1) + j = s.sh + i + (j + 1) by omega] at this
      · cases e
    · cases e

theorem run_loadN {P : Program} {base : Nat} {ρ : Ren} {m : Mem} {w : World} (h : Rel P base ρ m w) {b : Nat} {s : Slot} (hs : ρ b = some s) {k i : Nat} {l : List Value} (e : m.loadN b i k = some l) :
    ∃ l', (loadCells ⟨s.blk, s.sh + i, none⟩ k).run P w = .ok l'.toArray w ∧ VRL ρ l l' := by
  obtain ⟨l', h1, h2, h3⟩ := loadN_rel h hs k i l e
  refine ⟨l', ?_, h2⟩
  have := run_loadCells_list (P := P) w ⟨s.blk, s.sh + i, none⟩ l' fun j v hj => by rw [addr_add]; exact h3 j v hj
  rwa [h1] at this

theorem evLoad_sound {P : Program} {base : Nat} {ρ : Ren} {m : Mem} {w : World} (h : Rel P base ρ m w) {t : TypeId} {a a' v : Value} (ha : VR ρ a a') (e : evLoad P t m a = some v) :
    ∃ v', (Instr.loadAt t a').run P w = .ok v' w ∧ VR ρ v v' := by
  unfold evLoad at e
  split at e
  · rename_i ad
    split at e
    · rename_i hsp
      cases ha with
      | leaf h => simp [leafB] at h
      | ptr hs hsp' =>
        rename_i s
        split at e
        · rename_i hag
          split at e
          · rename_i n hn
            split at e
            · rename_i l hl
              cases e
              obtain ⟨l', h1, h2⟩ := run_loadN h hs hl
              refine ⟨.agg l'.toArray, ?_, .agg (by simpa using h2)⟩
              simp [Instr.loadAt, Instr.sureAddr, loadVar, run_isAgg hag, run_size hn, h1]
            · cases e
          · cases e
        · rename_i hag
          obtain ⟨v', hc, hvr⟩ := cell_rel h e hs
          refine ⟨v', ?_, hvr⟩
          simp [Instr.loadAt, Instr.sureAddr, loadVar, run_isAgg hag, hc]
        · cases e
    · cases e
  · cases e

/-! ### stores -/
theorem setN_get : ∀ (l : List Value) (c : Tr Value) (i j : Nat), (setN c i l).get j = if i ≤ j ∧ j < i + l.length then l[j - i]? else c.get j
  | [], c, i, j => by simp [setN]; omega
  | v :: l, c, i, j => by
    rw [setN, setN_get l (c.set i v) (i + 1) j, Tr.get_set]
    simp only [List.length_cons]
    by_cases h1 : j = i
    · subst h1
      rw [if_neg (by omega), if_pos rfl, if_pos (by omega)]
      simp
    · rw [if_neg h1]
      by_cases h2 : i + 1 ≤ j ∧ j < i + 1 + l.length
      · rw [if_pos h2, if_pos (by omega)]
        obtain ⟨d, hd⟩ : ∃ d, j = i + 1 + d := ⟨j - (i + 1), by omega⟩
        subst hd
        rw [show i + 1 + d - i = d + 1 by omega, show i + 1 + d - (i + 1) = d by omega]
        simp
      · rw [if_neg h2, if_neg (by omega)]

theorem VR.flat {ρ : Ren} {v v' : Value} (h : VR ρ v v') (hf : flat v = true) : v'.oneCell' = true := by
  cases h <;> first | rfl | (simp [Ev.flat] at hf; done) | skip
  cases v <;> first | rfl | (simp [Ev.flat] at hf; done)

theorem VRL.flat {ρ : Ren} : ∀ {l l' : List Value}, VRL ρ l l' → l.all Ev.flat = true → ∀ v ∈ l', v.oneCell' = true
  | _, _, .nil, _, v, hv => by simp at hv
  | _, _, .cons h0 h, hf, v, hv => by
    simp only [List.all_cons, Bool.and_eq_true] at hf
    rcases List.mem_cons.1 hv with rfl | hv
    · exact h0.flat hf.1
    · exact VRL.flat h hf.2 v hv

/-- The middle of a row written anew. -/
theorem mid_get (cur : List Value) (o : Nat) (vs : List Value) (h : o + vs.length ≤ cur.length) (j : Nat) :
    (cur.take o ++ vs ++ cur.drop (o + vs.length))[j]? = if o ≤ j ∧ j < o + vs.length then vs[j - o]? else cur[j]? := by
  simp only [List.getElem?_append, List.length_append, List.length_take, List.getElem?_take, List.getElem?_drop]
  have : min o cur.length = o := by omega
  rw [this]
  by_cases h1 : j < o
  · have h2 : j < o + vs.length := by omega
    have h3 : ¬ (o ≤ j ∧ j < o + vs.length) := by omega
    rw [if_neg h3]
    simp only [h1, h2, if_true]
  · by_cases h2 : j < o + vs.length
    · have h3 : o ≤ j ∧ j < o + vs.length := by omega
      rw [if_pos h3]
      simp only [h1, h2, if_true, if_false]
    · have h3 : ¬ (o ≤ j ∧ j < o + vs.length) := by omega
      rw [if_neg h3]
      simp only [h2, if_false]
      congr 1
      omega

theorem storeN_sound {P : Program} {base : Nat} {ρ : Ren} {m m' : Mem} {w : World} (h : Rel P base ρ m w) {b i : Nat} {s : Slot} (hs : ρ b = some s) {l l' : List Value} (hl : VRL ρ l l')
    (e : m.storeN base b i l = some m') : ∃ w', (storeCells ⟨s.blk, s.sh + i, none⟩ l').run P w = .ok () w' ∧ Went P base ρ m w ρ m' w' := by
  unfold Mem.storeN at e
  split at e
  · cases e
  · rename_i hb
    split at e
    · rename_i c n t sure hbk
      split at e
      · rename_i hc
        cases e
        obtain ⟨s', hs', cs, h1, h2, h3, h4⟩ := h.im b _ hbk (by simp)
        have : s' = s := Option.some.inj (hs'.symm.trans hs)
        subst this
        have hlen := hl.length
        have hrun := run_storeCells_at P s'.blk (s'.sh + i) t l' 0 cs w h1 (by omega) (hl.flat hc.2)
        simp only [Nat.add_zero] at hrun
        have hfit : s'.sh + i + l'.length ≤ cs.toList.length := by simp; omega
        refine ⟨_, hrun, went_wr h (by omega) ⟨_, hbk, by simp⟩ hs ⟨_, setRow_heap w _ _ _ _ _ h1, ?_, fun j hj => ?_, h4.1, fun hsu => ?_⟩ (fun c hc => setRow_other w _ _ _ hc) (by simp) rfl rfl rfl⟩
        · simp
          omega
        · rw [setN_get]
          simp only [List.getElem?_toArray, mid_get _ _ _ hfit]
          by_cases hj2 : i ≤ j ∧ j < i + l.length
          · rw [if_pos hj2, if_pos (by omega)]
            obtain ⟨d, hd⟩ : ∃ d, j = i + d := ⟨j - i, by omega⟩
            subst hd
            rw [show i + d - i = d by omega, show s'.sh + (i + d) - (s'.sh + i) = d by omega]
            have hd2 : d < l.length := by omega
            obtain ⟨v', hv', hvr⟩ := hl.get (i := d) (v := l[d]) (by simp [hd2])
            exact ⟨l[d], v', by simp [hd2], hv', hvr⟩
          · rw [if_neg hj2, if_neg (by omega)]
            obtain ⟨v, v', e1, e2, e3⟩ := h3 j hj
            exact ⟨v, v', e1, by simpa using e2, e3⟩
        · obtain ⟨q1, q2⟩ := h4.2 hsu
          have hsz : ((cs.toList.take (s'.sh + i) ++ l' ++ cs.toList.drop (s'.sh + i + l'.length)).toArray).size = cs.size := by
            simp
            omega
          rw [hsz]
          exact ⟨q1, q2⟩
      · cases e
    · cases e

theorem VR.cells {ρ : Ren} {v v' : Value} (h : VR ρ v v') : VRL ρ v.cells.toList v'.cells.toList := by
  cases h <;> first | (exact .cons (by first | exact .ptr ‹_› ‹_› | exact .slice ‹_› ‹_› | exact .sliceO ‹_› ‹_› | exact .map ‹_› | exact .chan ‹_› | exact .func ‹_› ‹_› | exact .iface ‹_› | exact .tuple ‹_›) .nil) | assumption | skip
  rename_i hl
  cases v <;> first | exact .cons (.leaf hl) .nil | (simp [leafB] at hl; done)

theorem evStore_sound {P : Program} {base : Nat} {ρ : Ren} {m m' : Mem} {w : World} (h : Rel P base ρ m w) {t : TypeId} {a a' v v' : Value} (ha : VR ρ a a') (hv : VR ρ v v')
    (e : evStore P base t m a v = some m') : ∃ w', (Instr.storeAt t a' v').run P w = .ok () w' ∧ Went P base ρ m w ρ m' w' := by
  unfold evStore at e
  split at e
  · rename_i ad
    split at e
    · rename_i hsp
      cases ha with
      | leaf h => simp [leafB] at h
      | ptr hs hsp' =>
        rename_i s
        split at e
        · rename_i n hn
          split at e
          · rename_i hsz
            obtain ⟨w', h1, h2⟩ := storeN_sound h hs hv.cells e
            have hl := hv.cells.length
            have hsz' : v'.cells.size = n := by simpa [← Array.length_toList, ← hl] using hsz
            refine ⟨w', ?_, h2⟩
            simp [Instr.storeAt, Instr.sureAddr, storeVar, run_size hn, hsz', h1]
          · cases e
        · cases e
    · cases e
  · cases e

/-! ### new rows -/
theorem new_sound {P : Program} {base : Nat} {ρ : Ren} {m : Mem} {w : World} (h : Rel P base ρ m w) (t : TypeId) {l : List Value} {cs : Array Value} (hl : VRL ρ l cs.toList) :
    ∃ w' ρ', (newRow t cs).run P w = .ok ⟨w.heap.size, 0, none⟩ w' ∧ Went P base ρ m w ρ' (m.newCells t l true) w' ∧ ρ' m.next = some ⟨w.heap.size, 0, 0⟩ := by
  refine ⟨{ w with heap := w.heap.push (.cells cs t) }, _, rfl, went_new h _ _ 0 ⟨cs, by simp, ?_, fun i hi => ?_, rfl, fun hsu => by cases hsu⟩, by rw [Ren.with, if_pos rfl]⟩
  · have := hl.length; simp at this; simp; omega
  · rw [Tr.get_ofList, if_pos (by omega)]
    obtain ⟨v', hv', hvr⟩ := hl.get (i := i) (v := l[i]) (by simp [hi])
    exact ⟨l[i], v', by simp [hi], by simpa using hv', hvr.mono (Ren.ext_with (h.dom _ (Nat.le_refl _)))⟩

end Go.Ev
/-
  The evaluator's operations that need no memory, beside the model's own.
-/
namespace Go.Ev

theorem pureRunA_sound {α : Type} {P : Program} : ∀ (s : Sem α) (v : α) (w : World), pureRunA P s = some v → s.run P w = .ok v w := by
  intro s
  induction s with
  | pure a => intro v w h; simp only [pureRunA, Option.some.injEq] at h; subst h; rfl
  | program k ih => intro v w h; simp only [pureRunA] at h; simp only [Sem.run]; exact ih P v w h
  | mark m k ih => intro v w h; simp only [pureRunA] at h; simp only [Sem.run]; exact ih v w h
  | _ => intro v w h; simp [pureRunA] at h

theorem pureRun_sound {P : Program} {s : Sem Value} {v : Value} (h : pureRun P s = some v) (w : World) : s.run P w = .ok v w ∧ ∀ ρ, VR ρ v v := by
  unfold pureRun at h
  split at h
  · rename_i x hx
    split at h
    · rename_i hc
      cases h
      exact ⟨pureRunA_sound s _ w hx, fun ρ => .of_closed ρ _ hc⟩
    · cases h
  · cases h

mutual
theorem VR.eq_closed {ρ : Ren} : ∀ {v v' : Value}, VR ρ v v' → closed v = true → v' = v
  | _, _, .leaf _, _ => rfl
  | _, _, .ptr _ _, h => by simp [closed] at h
  | _, _, .slice _ _, h => by simp [closed] at h
  | _, _, .sliceO _ _, h => by simp [closed] at h
  | _, _, .map _, h => by simp [closed] at h
  | _, _, .chan _, h => by simp [closed] at h
  | _, _, .func (a := ⟨a⟩) (a' := ⟨a'⟩) (b := ⟨b⟩) (b' := ⟨b'⟩) h1 h2, h => by
    simp only [closed, Bool.and_eq_true] at h
    have e1 := VRL.eq_closed h1 h.1
    have e2 := VRL.eq_closed h2 h.2
    simp only at e1 e2
    rw [e1, e2]
  | _, _, .iface h1, h => by
    simp only [closed] at h
    rw [VR.eq_closed h1 h]
  | _, _, .agg (a := ⟨a⟩) (a' := ⟨a'⟩) h1, h => by
    simp only [closed] at h
    have e1 := VRL.eq_closed h1 h
    simp only at e1
    rw [e1]
  | _, _, .tuple (a := ⟨a⟩) (a' := ⟨a'⟩) h1, h => by
    simp only [closed] at h
    have e1 := VRL.eq_closed h1 h
    simp only at e1
    rw [e1]
theorem VRL.eq_closed {ρ : Ren} : ∀ {l l' : List Value}, VRL ρ l l' → closedA l = true → l' = l
  | _, _, .nil, _ => rfl
  | _, _, .cons h1 h2, h => by
    simp only [closedA, Bool.and_eq_true] at h
    rw [VR.eq_closed h1 h.1, VRL.eq_closed h2 h.2]
end

theorem addr_addA (b o n : Nat) : (addA ⟨b, o, none⟩ n) = ⟨b, o + n, none⟩ := by unfold addA; split <;> simp_all
theorem addA_add (a : Addr) (ha : a.spot = none) (n : Nat) : addA a n = ⟨a.block, a.off + n, none⟩ := by cases a; simp only at ha; subst ha; exact addr_addA _ _ _

theorem vr_ptr {ρ : Ren} {b o : Nat} {s : Slot} (hs : ρ b = some s) : VR ρ (.pointer (some ⟨b, o, none⟩)) (.pointer (some ⟨s.blk, s.sh + o, none⟩)) := .ptr (a := ⟨b, o, none⟩) hs rfl
theorem vr_slice {ρ : Ren} {b o n c : Nat} {s : Slot} (hs : ρ b = some s) : VR ρ (.slice (some ⟨b, o, none⟩) n c) (.slice (some ⟨s.blk, s.sh + o, none⟩) n c) := .slice (a := ⟨b, o, none⟩) hs rfl

theorem vr_slice_inv {ρ : Ren} {a : Addr} {n c : Nat} {x' : Value} (h : VR ρ (.slice (some a) n c) x') (hl : lag a = 0) :
    ∃ s c', ρ a.block = some s ∧ x' = .slice (some ⟨s.blk, s.sh + a.off, none⟩) n c' ∧ ((a.spot = none ∧ c' = c) ∨ (a.spot = some 0 ∧ c' = c + s.ext)) := by
  cases h with
  | leaf h => simp [leafB] at h
  | slice hs hsp => exact ⟨_, _, hs, rfl, .inl ⟨hsp, rfl⟩⟩
  | sliceO hs hsp =>
    rename_i s k
    have hk : k = 0 := by unfold lag at hl; rw [hsp] at hl; exact hl
    subst hk
    exact ⟨s, _, hs, by simp, .inr ⟨hsp, rfl⟩⟩

theorem evField_sound {P : Program} {ρ : Ren} {s : TypeId} {f : Nat} {x x' v : Value} (hx : VR ρ x x') (e : evField P s f x = some v) (w : World) :
    ∃ v', (Instr.fieldAt s x' f).run P w = .ok v' w ∧ VR ρ v v' := by
  unfold evField at e
  split at e
  · rename_i a
    split at e
    · rename_i fields hu
      split at e
      · rename_i fd hf
        split at e
        · rename_i n hn
          split at e
          · cases e
          · rename_i hc
            cases e
            simp only [not_or, Option.isSome_iff_ne_none, ne_eq, Classical.not_not] at hc
            cases hx with
            | leaf h => simp [leafB] at h
            | ptr hs hsp =>
              rename_i t
              refine ⟨.pointer (some ⟨t.blk, t.sh + (a.off + fd.offset), none⟩), ?_, ?_⟩
              · simp [Instr.fieldAt, run_underlying hu, hf, Instr.sureAddr, fieldPlace, run_size hn, hc.1, addr_add, Nat.add_assoc]
              · rw [addA_add a hsp]; exact vr_ptr hs
        · cases e
      · cases e
    · cases e
  · cases e

theorem evIndexAddr_sound {P : Program} {ρ : Ren} {t : TypeId} {x x' i i' v : Value} (hx : VR ρ x x') (hi : VR ρ i i') (e : evIndexAddr P t x i = some v) (w : World) :
    ∃ v', (Instr.indexAt t x' i').run P w = .ok v' w ∧ VR ρ v v' := by
  unfold evIndexAddr at e
  split at e
  · rename_i k n
    cases hi
    split at e
    · rename_i len elem a hu
      split at e
      · rename_i size hsz
        split at e
        · rename_i hc
          cases e
          cases hx with
          | leaf h => simp [leafB] at h
          | ptr hs hsp =>
            rename_i s
            refine ⟨.pointer (some ⟨s.blk, s.sh + (a.off + n.toNat * size), none⟩), ?_, ?_⟩
            · simp [Instr.indexAt, asIntOf, run_underlying hu, Instr.sureAddr, hc.1, hc.2.1, run_size hsz, addr_add, Nat.add_assoc]
            · rw [addA_add a hsp]; exact vr_ptr hs
        · cases e
      · cases e
    · rename_i elem a len cap hu
      split at e
      · rename_i size hsz
        split at e
        · rename_i hc
          cases e
          obtain ⟨s, c', hs, rfl, _⟩ := vr_slice_inv hx hc.2.2
          refine ⟨.pointer (some ⟨s.blk, s.sh + (a.off + n.toNat * size), none⟩), ?_, ?_⟩
          · simp [Instr.indexAt, asIntOf, run_underlying hu, hc.1, hc.2.1, run_size hsz, addr_add, Nat.add_assoc]
          · rw [addA_add _ rfl]; exact vr_ptr hs
        · cases e
      · cases e
    · cases e
  · cases e

/-! ### slicing -/
def VRO (ρ : Ren) : Option Value → Option Value → Prop
  | none, none => True
  | some x, some x' => VR ρ x x'
  | _, _ => False
theorem run_bound {P : Program} {ρ : Ren} {v v' : Option Value} (hv : VRO ρ v v') {d n y : Nat} (e : bound v d = some n) (h : n ≤ y) (code : BoundsCode) (w : World) :
    (match v' with | none => n = d | some x' => (Instr.sliceBound x' y code).run P w = .ok n w) := by
  cases v with
  | none => cases v' with
    | none => simp only [bound, Option.some.injEq] at e; exact e.symm
    | some x' => exact hv.elim
  | some x => cases v' with
    | none => exact hv.elim
    | some x' =>
      simp only [bound] at e
      split at e
      · rename_i heq
        cases heq
      · rename_i k i heq
        cases heq
        split at e
        · rename_i hi
          cases e
          cases hv
          simp only [Instr.sliceBound, asIntOf, Sem.run_bind, Sem.run_pure, Result.andThen_ok]
          have : i ≤ (y : Int) := by omega
          simp [hi, this]
        · cases e
      · cases e

/-- The three bounds at once. -/
theorem run_bounds {P : Program} {ρ : Ren} {lo hi mx lo' hi' mx' : Option Value}
    (h1 : VRO ρ lo lo')
    (h2 : VRO ρ hi hi')
    (h3 : VRO ρ mx mx')
    {isS : Bool} {len cap cap' l h m : Nat} (em : bound mx cap = some m) (eh : bound hi len = some h) (el : bound lo 0 = some l) (b1 : l ≤ h) (b2 : h ≤ m) (b3 : m ≤ cap) (b4 : cap ≤ cap')
    (hm : mx.isSome = true → hi.isSome = true) (w : World) :
    (Instr.sliceBounds isS len cap' lo' hi' mx').run P w = .ok (l, h, if mx.isSome then m else cap') w := by
  cases mx with
  | none => cases mx' with
    | some _ => exact h3.elim
    | none =>
      simp only [bound, Option.some.injEq] at em
      subst em
      cases hi with
      | none => cases hi' with
        | some _ => exact h2.elim
        | none =>
          simp only [bound, Option.some.injEq] at eh
          subst eh
          cases lo with
          | none => cases lo' with
            | some _ => exact h1.elim
            | none =>
              simp only [bound, Option.some.injEq] at el
              subst el
              simp [Instr.sliceBounds]
          | some x => cases lo' with
            | none => exact h1.elim
            | some x' =>
              have r1 := run_bound (P := P) (v := some x) (v' := some x') h1 el b1 .sliceB w
              simp only at r1
              simp [Instr.sliceBounds, r1]
      | some y => cases hi' with
        | none => exact h2.elim
        | some y' =>
          have r2 := run_bound (P := P) (v := some y) (v' := some y') h2 eh (Nat.le_trans b2 b4) (if isS then .sliceAcap else .sliceAlen) w
          simp only at r2
          cases lo with
          | none => cases lo' with
            | some _ => exact h1.elim
            | none =>
              simp only [bound, Option.some.injEq] at el
              subst el
              simp [Instr.sliceBounds, r2]
          | some x => cases lo' with
            | none => exact h1.elim
            | some x' =>
              have r1 := run_bound (P := P) (v := some x) (v' := some x') h1 el b1 .sliceB w
              simp only at r1
              simp [Instr.sliceBounds, r1, r2]
  | some z => cases mx' with
    | none => exact h3.elim
    | some z' =>
      have r3 := run_bound (P := P) (v := some z) (v' := some z') h3 em (Nat.le_trans b3 b4) (if isS then .slice3Acap else .slice3Alen) w
      simp only at r3
      cases hi with
      | none => exact absurd (hm rfl) (by simp)
      | some y => cases hi' with
        | none => exact h2.elim
        | some y' =>
          have r2 := run_bound (P := P) (v := some y) (v' := some y') h2 eh b2 .slice3B w
          simp only at r2
          cases lo with
          | none => cases lo' with
            | some _ => exact h1.elim
            | none =>
              simp only [bound, Option.some.injEq] at el
              subst el
              simp [Instr.sliceBounds, r2, r3]
          | some x => cases lo' with
            | none => exact h1.elim
            | some x' =>
              have r1 := run_bound (P := P) (v := some x) (v' := some x') h1 el b1 .slice3C w
              simp only at r1
              simp [Instr.sliceBounds, r1, r2, r3]

theorem vr_sliceO {ρ : Ren} {b o n c k : Nat} {s : Slot} (hs : ρ b = some s) : VR ρ (.slice (some ⟨b, o, some k⟩) n c) (.slice (some ⟨s.blk, s.sh + o + (if s.ext = 0 then 0 else k), none⟩) n (c + s.ext)) := .sliceO (a := ⟨b, o, some k⟩) hs rfl

theorem evSlice_sound {P : Program} {ρ : Ren} {t : TypeId} {x x' v : Value} {lo hi mx lo' hi' mx' : Option Value} (hx : VR ρ x x') (h1 : VRO ρ lo lo') (h2 : VRO ρ hi hi') (h3 : VRO ρ mx mx')
    (e : evSlice P t x lo hi mx = some v) (hcl : ∀ s, x = .string s → lo' = lo ∧ hi' = hi ∧ mx' = mx) (w : World) :
    ∃ v', (Instr.sliceAt t x' lo' hi' mx').run P w = .ok v' w ∧ VR ρ v v' := by
  unfold evSlice at e
  split at e
  · rename_i s hu
    cases hx
    obtain ⟨rfl, rfl, rfl⟩ := hcl s rfl
    obtain ⟨r1, r2⟩ := pureRun_sound e w
    refine ⟨v, ?_, r2 ρ⟩
    simp only [Instr.sliceAt, Sem.run_bind, run_underlying hu, Result.andThen_ok]
    exact r1
  · rename_i elem a len cap hu
    split at e
    · rename_i size hsz
      split at e
      · rename_i m em
        split at e
        · rename_i h eh
          split at e
          · rename_i l el
            split at e
            · rename_i hc
              obtain ⟨b1, b2, b3, b4⟩ := hc
              split at e
              · cases e
                cases hx
                have hb := run_bounds (P := P) h1 h2 h3 (isS := true) em eh el b1 b2 b3 (Nat.le_refl cap) b4 w
                refine ⟨.slice none (h - l) (m - l), ?_, .leaf rfl⟩
                have hm : (if mx.isSome then m else cap) = m := by
                  cases mx with
                  | none => simp only [bound, Option.some.injEq] at em; simpa using em
                  | some z => rfl
                rw [hm] at hb
                simp [Instr.sliceAt, Instr.slice, run_underlying hu, hb, run_size hsz]
              · rename_i a
                split at e
                · cases e
                · rename_i hlag
                  have hlag : lag a = 0 := by simpa using hlag
                  obtain ⟨s, c', hs, rfl, hcap⟩ := vr_slice_inv hx hlag
                  have hc' : cap ≤ c' := by rcases hcap with ⟨_, h⟩ | ⟨_, h⟩ <;> omega
                  have hb := run_bounds (P := P) h1 h2 h3 (isS := true) em eh el b1 b2 b3 hc' b4 w
                  have hrun : ∀ M, (Instr.sliceBounds true len c' lo' hi' mx').run P w = .ok (l, h, M) w →
                      (Instr.sliceAt t (.slice (some ⟨s.blk, s.sh + a.off, none⟩) len c') lo' hi' mx').run P w = .ok (.slice (some (if M = l then ⟨s.blk, s.sh + a.off, none⟩ else ⟨s.blk, s.sh + (a.off + l * size), none⟩)) (h - l) (M - l)) w := fun M hM => by
                    simp only [Instr.sliceAt, Sem.run_bind, run_underlying hu, Result.andThen_ok, Instr.slice, hM, run_size hsz, Sem.run_pure]
                    by_cases hMl : M = l
                    · simp [hMl]
                    · simp [hMl, addr_add, Nat.add_assoc]
                  have hr := hrun _ hb
                  refine ⟨_, hr, ?_⟩
                  split at e
                  · rename_i hmx
                    cases e
                    simp only [hmx, if_true]
                    by_cases hml : m = l
                    · simp only [hml, if_true]; exact vr_slice hs
                    · simp only [hml, if_false]
                      rw [addA_add _ rfl]; exact vr_slice hs
                  · rename_i hmx
                    have hmx0 : mx.isSome = false := by simpa using hmx
                    have hmc : m = cap := by
                      cases mx with
                      | none => simp only [bound, Option.some.injEq] at em; exact em.symm
                      | some z => simp at hmx0
                    subst hmc
                    simp only [hmx0, if_false, Bool.false_eq_true]
                    split at e
                    · rename_i hop
                      simp only [Bool.and_eq_true, beq_iff_eq, bne_iff_ne, ne_eq, openCap] at hop
                      obtain ⟨⟨ho, hml⟩, hl0⟩ := hop
                      cases e
                      rcases hcap with ⟨h0, _⟩ | ⟨h0, hce⟩
                      · rw [h0] at ho; cases ho
                      · subst hce
                        subst hml
                        have hhl : h = m := by omega
                        subst hhl
                        by_cases hx0 : s.ext = 0
                        · have := vr_sliceO (o := a.off) (n := 0) (c := 0) (k := h * size) hs
                          simp only [hx0, if_true, Nat.add_zero, Nat.sub_self] at this ⊢
                          exact this
                        · have := vr_sliceO (o := a.off) (n := 0) (c := 0) (k := h * size) hs
                          have hne : ¬ (h + s.ext = h) := by omega
                          simp only [hx0, if_false, Nat.sub_self, hne, Nat.zero_add] at this ⊢
                          rw [show h + s.ext - h = s.ext by omega, show s.sh + (a.off + h * size) = s.sh + a.off + h * size by omega]
                          exact this
                    · rename_i hop
                      cases e
                      rcases hcap with ⟨h0, hce⟩ | ⟨h0, hce⟩
                      · subst hce
                        by_cases hml : c' = l
                        · simp only [hml, if_true]
                          exact .slice hs h0
                        · simp only [hml, if_false]
                          rw [addA_add a h0]; exact vr_slice hs
                      · subst hce
                        have hop' : ¬ (m = l ∧ l ≠ 0) := by
                          intro hh
                          apply hop
                          simp [openCap, h0, hh.1]
                          exact fun e => hh.2 (by omega)
                        by_cases hml : m = l
                        · have hl0 : l = 0 := Classical.byContradiction fun h => hop' ⟨hml, h⟩
                          subst hl0
                          subst hml
                          have := VR.sliceO (n := h - 0) (c := 0) hs h0
                          simpa using this
                        · have hne : ¬ (m + s.ext = l) := by omega
                          simp only [hml, hne, if_false]
                          have hadd : addA a (l * size) = ⟨a.block, a.off + l * size, some 0⟩ := by
                            unfold addA
                            cases a
                            simp only at h0
                            subst h0
                            split <;> simp_all
                          rw [hadd]
                          have := vr_sliceO (o := a.off + l * size) (n := h - l) (c := m - l) (k := 0) hs
                          rw [show m + s.ext - l = m - l + s.ext by omega]
                          simpa using this
            · cases e
          · cases e
        · cases e
      · cases e
    · cases e
  · rename_i n elem a hu
    split at e
    · rename_i size hsz
      split at e
      · rename_i m em
        split at e
        · rename_i h eh
          split at e
          · rename_i l el
            split at e
            · rename_i hc
              obtain ⟨b1, b2, b3, b4, b5⟩ := hc
              cases e
              cases hx with
              | leaf h => simp [leafB] at h
              | ptr hs hsp =>
                rename_i s
                have hb := run_bounds (P := P) h1 h2 h3 (isS := false) em eh el b1 b2 b3 (Nat.le_refl n) b5 w
                have hm : (if mx.isSome then m else n) = m := by
                  cases mx with
                  | none => simp only [bound, Option.some.injEq] at em; simpa using em
                  | some z => rfl
                rw [hm] at hb
                refine ⟨.slice (some (if m = l then ⟨s.blk, s.sh + a.off, none⟩ else ⟨s.blk, s.sh + (a.off + l * size), none⟩)) (h - l) (m - l), ?_, ?_⟩
                · simp only [Instr.sliceAt, Instr.sureAddr, Sem.run_bind, run_underlying hu, Result.andThen_ok, hb, run_size hsz, Sem.run_pure]
                  by_cases hMl : m = l
                  · simp [hMl]
                  · simp [hMl, addr_add, Nat.add_assoc]
                · by_cases hml : m = l
                  · simp only [hml, if_true]; exact .slice hs hsp
                  · simp only [hml, if_false]
                    rw [addA_add a hsp]; exact vr_slice hs
            · cases e
          · cases e
        · cases e
      · cases e
    · cases e
  · cases e

end Go.Ev
/-
  The evaluator's operations that make something, or take a part, beside the model's own.
-/
namespace Go.Ev

/-- What an operation that leaves a value comes to. -/
def Yields (P : Program) (base : Nat) (ρ : Ren) (m : Mem) (w : World) (s : Sem Value) (v : Value) (m' : Mem) : Prop :=
  ∃ v' w' ρ', s.run P w = .ok v' w' ∧ Went P base ρ m w ρ' m' w' ∧ VR ρ' v v'

theorem yields_same {P : Program} {base : Nat} {ρ : Ren} {m : Mem} {w : World} (h : Rel P base ρ m w) {s : Sem Value} {v v' : Value} (hr : s.run P w = .ok v' w) (hv : VR ρ v v') : Yields P base ρ m w s v m :=
  ⟨v', w, ρ, hr, .refl h, hv⟩

theorem vrl_closed (ρ : Ren) {l : List Value} (h : closedA l = true) : VRL ρ l l := .of_closed ρ l h
theorem closed_cells {v : Value} (h : closed v = true) : closedA v.cells.toList = true := by
  cases v <;> (simp only [Value.cells, closedA, Bool.and_true]; exact h)

theorem alloc_sound {P : Program} {base : Nat} {ρ : Ren} {m : Mem} {w : World} (h : Rel P base ρ m w) {t : TypeId} {z : Value} (hz : zeroB P t = some z) :
    Yields P base ρ m w (Instr.alloc t true (.tuple #[])) (.pointer (some ⟨m.next, 0, none⟩)) (m.newCells t z.cells.toList true) := by
  obtain ⟨w', ρ', h1, h2, h3⟩ := new_sound h t (cs := z.cells) (vrl_closed ρ (closed_cells (zero_closed hz)))
  refine ⟨_, w', ρ', ?_, h2, vr_ptr h3⟩
  simp [Instr.alloc, run_zero hz, newVar, h1]

theorem box_sound {P : Program} {base : Nat} {ρ : Ren} {m : Mem} {w : World} (h : Rel P base ρ m w) (t : TypeId) {x x' : Value} (hx : VR ρ x x') :
    Yields P base ρ m w (Instr.box t x') (.pointer (some ⟨m.next, 0, none⟩)) (m.newCells t x.cells.toList true) := by
  obtain ⟨w', ρ', h1, h2, h3⟩ := new_sound h t (cs := x'.cells) hx.cells
  refine ⟨_, w', ρ', ?_, h2, vr_ptr h3⟩
  simp [Instr.box, newVar, h1]

/-! ### zeros, many times over -/
theorem repeatL_length {α : Type} (l : List α) : ∀ n, (repeatL l n).length = n * l.length
  | 0 => by simp [repeatL]
  | n + 1 => by rw [repeatL, List.length_append, repeatL_length l n, Nat.succ_mul, Nat.add_comm]

theorem repeatL_get {α : Type} (l : List α) (hl : 0 < l.length) : ∀ (n i : Nat), i < n * l.length → (repeatL l n)[i]? = l[i % l.length]?
  | 0, i, h => by omega
  | n + 1, i, h => by
    rw [repeatL, List.getElem?_append]
    by_cases hi : i < l.length
    · rw [if_pos hi, Nat.mod_eq_of_lt hi]
    · rw [if_neg hi, repeatL_get l hl n (i - l.length) (by rw [Nat.succ_mul] at h; omega)]
      congr 1
      conv => rhs; rw [show i = (i - l.length) + l.length by omega]
      rw [Nat.add_mod_right]

theorem repeatL_eq (z : Array Value) (n k : Nat) (hk : n * z.size = k) : ((Array.range k).map (z[· % z.size]!)).toList = repeatL z.toList n := by
  apply List.ext_getElem?
  intro i
  by_cases hz : z.size = 0
  · have hk0 : k = 0 := by rw [← hk, hz, Nat.mul_zero]
    subst hk0
    have : (repeatL z.toList n).length = 0 := by rw [repeatL_length]; simp [hz]
    rw [List.length_eq_zero_iff.1 this]
    simp
  · by_cases hi : i < k
    · rw [repeatL_get z.toList (by simp; omega) n i (by simp; omega)]
      simp only [Array.length_toList]
      have hlt : i % z.size < z.size := Nat.mod_lt _ (by omega)
      simp [hi, hlt]
    · have h1 : (repeatL z.toList n).length ≤ i := by rw [repeatL_length]; simp; omega
      rw [List.getElem?_eq_none h1]
      simp
      omega

theorem closedA_append {a b : List Value} (ha : closedA a = true) (hb : closedA b = true) : closedA (a ++ b) = true := by
  induction a with
  | nil => exact hb
  | cons v a ih => simp only [closedA, Bool.and_eq_true, List.cons_append] at ha ⊢; exact ⟨ha.1, ih ha.2⟩
theorem closedA_repeat {l : List Value} (h : closedA l = true) : ∀ n, closedA (repeatL l n) = true
  | 0 => rfl
  | n + 1 => closedA_append h (closedA_repeat h n)

theorem run_bytes {P : Program} {t : TypeId} {n : Nat} (h : bytesB P t = some n) : ∃ i, P.info? t = some i ∧ i.bytes = n := by
  unfold bytesB at h
  cases hi : P.info? t with
  | none => rw [hi] at h; cases h
  | some i => rw [hi] at h; simp only [Option.map_some, Option.some.injEq] at h; exact ⟨i, rfl, h⟩

theorem evMakeSlice_sound {P : Program} {base : Nat} {ρ : Ren} {m m' : Mem} {w : World} (h : Rel P base ρ m w) {t : TypeId} {l l' c c' v : Value} (hl : VR ρ l l') (hc : VR ρ c c')
    (e : evMakeSlice P t m l c = some (v, m')) : Yields P base ρ m w (Instr.makeSlice t l' c') v m' := by
  unfold evMakeSlice at e
  split at e
  · rename_i elem k1 l k2 c hu
    cases hl
    cases hc
    split at e
    · rename_i size bytes z hs hb hz
      split at e
      · rename_i hcond
        obtain ⟨c1, c2, c3, c4, c5⟩ := hcond
        cases e
        obtain ⟨i, hi, hib⟩ := run_bytes hb
        have wl : IntKind.i64.wrap l = l := by simp [IntKind.wrap, IntKind.bits, IntKind.signed]; omega
        have wc : IntKind.i64.wrap c = c := by simp [IntKind.wrap, IntKind.bits, IntKind.signed]; omega
        have hcn : ((c.toNat : Nat) : Int) = c := by omega
        have hbig : ∀ x : Int, 0 ≤ x → x ≤ 2 ^ 20 → ¬ ((bytes : Int) * x > 2 ^ 48) := fun x h0 h1 => by
          have : (bytes : Int) * x ≤ 2 ^ 16 * 2 ^ 20 := Int.mul_le_mul (by omega) h1 h0 (by omega)
          omega
        have hzs : (z.cells.toList).length = size := by simpa using c5
        have hsz : (repeatL z.cells.toList c.toNat) = ((Array.range (c.toNat * size)).map ((if c.toNat * size = 0 then #[] else z.cells)[· % (if c.toNat * size = 0 then #[] else z.cells).size]!)).toList := by
          by_cases h0 : c.toNat * size = 0
          · rw [h0]
            have : (repeatL z.cells.toList c.toNat).length = 0 := by rw [repeatL_length, hzs, h0]
            rw [List.length_eq_zero_iff.1 this]
            simp
          · simp only [h0, if_false]
            exact (repeatL_eq z.cells c.toNat _ (by rw [c5])).symm
        obtain ⟨w', ρ', h1, h2, h3⟩ := new_sound h elem (l := repeatL z.cells.toList c.toNat) (cs := ((Array.range (c.toNat * size)).map ((if c.toNat * size = 0 then #[] else z.cells)[· % (if c.toNat * size = 0 then #[] else z.cells).size]!)))
          (by rw [← hsz]; exact vrl_closed ρ (closedA_repeat (closed_cells (zero_closed hz)) _))
        refine ⟨_, w', ρ', ?_, h2, vr_slice h3⟩
        have t1 : ¬ (c < 0) := by omega
        have t2 : ¬ (l < 0) := by omega
        have t3 : ¬ (l > c) := by omega
        have t4 := hbig c (by omega) (by omega)
        simp only [Instr.makeSlice, Sem.run_bind, run_underlying hu, Result.andThen_ok, asInt, asIntOf, Sem.run_pure, typeInfo, run_program, hi, hib, wl, wc]
        simp only [t1, t2, t3, t4, decide_false, Bool.or_false, Bool.false_eq_true, if_false, Sem.run_bind, Sem.run_pure, Result.andThen_ok, run_askRoom, run_size hs, Sem.run_ite]
        by_cases h0 : c.toNat * size = 0
        · simp only [h0, if_true] at h1 ⊢
          rw [h1]
          rfl
        · simp only [h0, if_false, run_zero hz, Result.andThen_ok] at h1 ⊢
          rw [h1]
          rfl
      · cases e
    · cases e
  · cases e

/-! ### literals -/
theorem VRL.set {ρ : Ren} : ∀ {l l' : List Value}, VRL ρ l l' → ∀ (i : Nat) {v v' : Value}, VR ρ v v' → VRL ρ (l.set i v) (l'.set i v')
  | _, _, .nil, _, _, _, _ => .nil
  | _, _, .cons _ h, 0, _, _, hv => .cons hv h
  | _, _, .cons h0 h, i + 1, _, _, hv => .cons h0 (VRL.set h i hv)

inductive PL (ρ : Ren) : List (Nat × Value) → List (Nat × Value) → Prop where
  | nil : PL ρ [] []
  | cons {i : Nat} {v v' : Value} {l l' : List (Nat × Value)} : VR ρ v v' → PL ρ l l' → PL ρ ((i, v) :: l) ((i, v') :: l')

theorem foldl_set_rel {ρ : Ren} (off : Nat) : ∀ {l l' : List Value}, VRL ρ l l' → ∀ (k : Nat) (cs cs' : Array Value), VRL ρ cs.toList cs'.toList →
    VRL ρ ((l.zipIdx k).foldl (fun cs (x : Value × Nat) => cs.setIfInBounds (off + x.2) x.1) cs).toList ((l'.zipIdx k).foldl (fun cs (x : Value × Nat) => cs.setIfInBounds (off + x.2) x.1) cs').toList
  | _, _, .nil, _, _, _, h => by simpa using h
  | _, _, .cons h0 hl, k, cs, cs', h => by
    simp only [List.zipIdx_cons, List.foldl_cons]
    refine foldl_set_rel off hl (k + 1) _ _ ?_
    simp only [Array.toList_setIfInBounds]
    exact h.set _ h0

theorem fill_rel {ρ : Ren} {place : Nat → Option (Nat × Nat)} : ∀ {l l' : List (Nat × Value)}, PL ρ l l' → ∀ (cs cs' r : Array Value), VRL ρ cs.toList cs'.toList → Instr.fill place cs l = some r →
    ∃ r', Instr.fill place cs' l' = some r' ∧ VRL ρ r.toList r'.toList
  | _, _, .nil, cs, cs', r, h, e => by simp only [Instr.fill, Option.some.injEq] at e; subst e; exact ⟨cs', rfl, h⟩
  | _, _, .cons (i := i) (v := v) (v' := v') h0 hl, cs, cs', r, h, e => by
    simp only [Instr.fill] at e ⊢
    split at e
    · cases e
    · rename_i off size hp
      have hc := h0.cells
      have hlen : v'.cells.size = v.cells.size := by have := hc.length; simpa using this.symm
      have hlen2 : cs'.size = cs.size := by have := h.length; simpa using this.symm
      rw [hlen, hlen2]
      split at e
      · cases e
      · rename_i hcond
        rw [if_neg hcond]
        refine fill_rel hl _ _ r ?_ e
        have := foldl_set_rel off hc 0 cs cs' h
        rw [← Array.foldl_toList, ← Array.foldl_toList, Array.toList_zipIdx, Array.toList_zipIdx]
        exact this

theorem places_run {P : Program} (w : World) : ∀ (fs : List Field) (ps : List (Nat × Nat)), places P fs = some ps →
    (fs.mapM fun f => (do pure (f.offset, ← sizeOf f.type) : Sem (Nat × Nat))).run P w = .ok ps w
  | [], ps, h => by simp only [places, Option.some.injEq] at h; subst h; rfl
  | f :: fs, ps, h => by
    simp only [places] at h
    split at h
    · rename_i n r hn hr
      cases h
      have ih := places_run w fs r hr
      simp only [List.mapM_cons, Sem.run_bind, run_size hn, Sem.run_pure, Result.andThen_ok, ih]
    · cases h

theorem build_sound {P : Program} {ρ : Ren} {t : TypeId} {l l' : List (Nat × Value)} {v : Value} (hl : PL ρ l l') (e : evBuild P t l = some v) (w : World) :
    ∃ v', (Instr.build t l'.toArray).run P w = .ok v' w ∧ VR ρ v v' := by
  unfold evBuild at e
  split at e
  · rename_i z hz
    have hzc := vrl_closed ρ (closed_cells (zero_closed hz))
    split at e
    · rename_i fields hu
      split at e
      · rename_i ps hps
        split at e
        · rename_i cs hcs
          cases e
          obtain ⟨cs', h1, h2⟩ := fill_rel hl _ _ _ hzc hcs
          refine ⟨.agg cs', ?_, .agg h2⟩
          have hp := places_run w fields.toList ps hps
          have hp' : (fields.mapM fun f => (do pure (f.offset, ← sizeOf f.type) : Sem (Nat × Nat))).run P w = .ok ps.toArray w := by
            rw [Array.mapM_eq_mapM_toList]
            simp only [Sem.run_map, hp, Result.andThen_ok]
          simp only [Instr.build, Sem.run_bind, run_zero hz, run_underlying hu, Result.andThen_ok, hp', h1, Sem.run_pure]
        · cases e
      · cases e
    · rename_i len elem hu
      split at e
      · rename_i size hs
        split at e
        · rename_i cs hcs
          cases e
          obtain ⟨cs', h1, h2⟩ := fill_rel hl _ _ _ hzc hcs
          refine ⟨.agg cs', ?_, .agg h2⟩
          simp only [Instr.build, Sem.run_bind, run_zero hz, run_underlying hu, Result.andThen_ok, run_size hs, h1, Sem.run_pure]
        · cases e
      · cases e
    · cases e
  · cases e

theorem buildSlice_sound {P : Program} {base : Nat} {ρ : Ren} {m : Mem} {w : World} (h : Rel P base ρ m w) {t elem : TypeId} {n size : Nat} {z : Value} {l l' : List (Nat × Value)} {cs : Array Value}
    (hu : P.underlying t = some (.slice elem)) (hs : sizeB P elem = some size) (hz : zeroB P elem = some z) (hn : n * size ≤ 2 ^ 24) (hzs : z.cells.size = size) (hl : PL ρ l l')
    (hf : Instr.fill (fun i => some (i * size, size)) (repeatL z.cells.toList n).toArray l = some cs) :
    Yields P base ρ m w (Instr.buildSlice t n l'.toArray) (.slice (some ⟨m.next, 0, none⟩) n n) (m.newCells elem cs.toList true) := by
  have hzs' : (z.cells.toList).length = size := by simpa using hzs
  have hsz : (repeatL z.cells.toList n) = ((Array.range (n * size)).map ((if n * size = 0 then #[] else z.cells)[· % (if n * size = 0 then #[] else z.cells).size]!)).toList := by
    by_cases h0 : n * size = 0
    · rw [h0]
      have : (repeatL z.cells.toList n).length = 0 := by rw [repeatL_length, hzs', h0]
      rw [List.length_eq_zero_iff.1 this]
      simp
    · simp only [h0, if_false]
      exact (repeatL_eq z.cells n _ (by rw [hzs])).symm
  have hrel : VRL ρ (repeatL z.cells.toList n).toArray.toList ((Array.range (n * size)).map ((if n * size = 0 then #[] else z.cells)[· % (if n * size = 0 then #[] else z.cells).size]!)).toList := by
    rw [← hsz]
    exact vrl_closed ρ (closedA_repeat (closed_cells (zero_closed hz)) _)
  obtain ⟨cs', h1, h2⟩ := fill_rel hl _ _ _ hrel hf
  obtain ⟨w', ρ', r1, r2, r3⟩ := new_sound h elem (l := cs.toList) (cs := cs') h2
  refine ⟨_, w', ρ', ?_, r2, vr_slice r3⟩
  have hn' : ¬ (n * size > 2 ^ 24) := by omega
  simp only [Instr.buildSlice, Sem.run_bind, run_underlying hu, Result.andThen_ok, run_size hs, hn', if_false, Sem.run_pure, Sem.run_ite]
  by_cases h0 : n * size = 0
  · simp only [h0, if_true] at h1 ⊢
    simp only [Result.andThen_ok, h1, Sem.run_bind, r1, Sem.run_pure]
  · simp only [h0, if_false] at h1 ⊢
    simp only [Sem.run_bind, run_zero hz, Result.andThen_ok, Sem.run_pure, h1, r1]

/-! ### parts -/
theorem part_sound {P : Program} {ρ : Ren} {t : TypeId} {cs cs' : Array Value} {off : Nat} {v : Value} (hc : VRL ρ cs.toList cs'.toList) (e : partB P t cs.toList off = some v) (w : World) :
    ∃ v', (part t cs' off).run P w = .ok v' w ∧ VR ρ v v' := by
  unfold partB at e
  split at e
  · rename_i ha
    split at e
    · rename_i n hn
      split at e
      · rename_i hle
        cases e
        refine ⟨.agg (cs'.extract off (off + n)), ?_, .agg ?_⟩
        · simp only [part, Sem.run_bind, run_isAgg ha, Result.andThen_ok, if_true, run_size hn, Sem.run_pure]
        · have := (hc.drop off).take n
          simpa [Array.toList_extract, List.extract] using this
      · cases e
    · cases e
  · rename_i ha
    obtain ⟨v', h1, h2⟩ := hc.get e
    refine ⟨v', ?_, h2⟩
    have h1' : cs'[off]? = some v' := by simpa using h1
    simp [part, run_isAgg ha, h1']
  · cases e

end Go.Ev
