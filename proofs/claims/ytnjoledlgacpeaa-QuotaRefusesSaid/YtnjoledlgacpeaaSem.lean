import GoSem.Core.Value
import GoSem.Core.Ast
import GoSem.Core.View
import GoSem.Op.String
set_option linter.unusedVariables false
set_option linter.unusedSimpArgs false
/-
  The abstract interpreter: data that carry their content, a small machine code, and what it computes. Nothing of the model's memory stands here.
-/
namespace Go.Abs
open Go

inductive D where
  | junk
  | undef
  | nils (e : Nat)
  | bool (b : Bool)
  | int (k : IntKind) (n : Int)
  | str (s : List UInt8)
  | nilp
  | nilm
  | nilf
  | ptr (o off : Nat)
  | lptr (t off : Nat)
  | ref (cs : List D)
  | sl (es : List (List D)) (own : Option Nat)
  | msl (o off len esz : Nat)
  | map (o : Nat)
  | func (f : Nat) (caps : List D)
  | agg (cs : List D)
  | tup (vs : List D)
  /-- this very value -/
  | val (v : Value)
  deriving Inhabited

/-- The copy of a value that may not be appended to. -/
def D.strip : D → D
  | .sl es _ => .sl es none
  | .nils _ => .sl [] none
  | d => d

/-- One cell that stays as it is whatever is done elsewhere. -/
def D.pure1 : D → Bool
  | .bool _ | .int _ _ | .str _ | .nilp | .nilm | .nilf | .ref _ | .sl _ _ | .nils _ | .func _ [] => true
  | _ => false

/-- One cell. -/
def D.plain : D → Bool
  | .junk | .undef | .lptr _ _ | .agg _ | .tup _ | .val _ => false
  | _ => true

def D.notL : D → Bool
  | .lptr _ _ => false
  | _ => true

def D.cells : D → List D
  | .agg cs => cs.map D.strip
  | d => [d]

/-- A struct's cell that is laid into memory: of nil it is known that nothing is shared. -/
def D.ripe : D → D
  | .nils e => .sl [] (some e)
  | d => d.strip

def D.raw : D → List D
  | .agg cs => cs.map D.ripe
  | d => [d]

/-- A struct without what is its own. -/
def D.bare : D → D
  | .agg cs => .agg (cs.map D.strip)
  | d => d

def D.deep (d : D) : D := d.bare.strip

inductive X where
  | tmp (t : Nat)
  | const (d : D)
  deriving Inhabited

inductive MOp where
  | move (x : X) (steal : Bool)
  | assign (x : X)
  | pick (c a b : X)
  | alloc (zero : List D)
  | box (x : X)
  | build (zero : List D) (parts : List (Nat × Nat × X))
  | buildSlice (e esz n : Nat) (zero : List D) (parts : List (Nat × X))
  | load (agg : Bool) (size : Nat) (a : X) (steal : Bool)
  | store (size : Nat) (a x : X)
  | nilCheck (x : X)
  | bin (op : BinOp) (x y : X)
  | eqb (neg : Bool) (x y : X)
  | eqn (neg : Bool) (x : X)
  | un (op : UnOp) (x : X)
  | conv (k : IntKind) (x : X)
  | mkfunc (f : Nat) (caps : List X)
  | mkmap
  | mkslice (esz bytes : Nat) (zero : List D) (len cap : X)
  | slice (esz : Nat) (x : X) (lo hi : Option X)
  | sliceStr (x : X) (lo hi : Option X)
  | fieldAddr (off : Nat) (x : X)
  | field (agg : Bool) (off size : Nat) (x : X)
  | indexAddr (esz : Nat) (x i : X)
  | indexArr (ad agg : Bool) (len esz : Nat) (x i : X)
  | lookup (kk : Nat) (agg : Bool) (zero : List D) (x i : X) (ok : Bool)
  | mapUpdate (kk : Nat) (m k x : X)
  /-- .. of what may be the address of a variable of the frame's own: that becomes an object. -/
  | mapUpdateP (kk : Nat) (m k x : X)
  | extract (x : X) (i : Nat)
  | len (kind : Nat) (x : X)
  | append (e esz bytes : Nat) (mutable : Bool) (x y : X)
  | max (xs : List X)
  | call (f : Nat) (args : List X)
  | callv (f : X) (args : List X)
  | defer (f : X) (args : List X)
  /-- A load that is not through the box of t. -/
  | loadA (t : Nat) (agg : Bool) (size : Nat) (a : X)
  /-- A store into the box of t, which t itself points to. -/
  | storeR (size : Nat) (t : Nat) (x : X)
  /-- An allocation where there was no box before. -/
  | allocR (zero : List D)
  /-- A call whose arguments hold no address of the frame's own variables. -/
  | callS (f : Nat) (args : List X)
  | indexStr (x i : X)
  | delete (kk : Nat) (m k : X)
  deriving Inhabited

structure MOper where
  dst : Option Nat
  op : MOp
  guard : Option (Nat × Bool)
  deriving Inhabited

inductive Obj where
  | cells (cs : List D)
  | map (es : List (D × D))
  | dead
  /-- the object ahead of this one is a row of such elements -/
  | row (e : Nat)
  deriving Inhabited

structure Fr where
  slots : List D
  boxes : List (Option (List D))
  defers : List (D × List D)

inductive AE where
  | normal
  | exit (id : Nat)
  | ret

inductive MCode where
  | skip
  | region (quiet : Bool) (ops : List MOper)
  | seq (a b : MCode)
  | cond (x : X) (a b : MCode)
  | block (id : Nat) (c : MCode)
  | loop (keep : List Nat) (c : MCode)
  | exit (id : Nat)
  | ret
  /-- What a statement does, told by a function. -/
  | nat (N : Fr → List Obj → Option (AE × Fr × List Obj))
  deriving Inhabited

inductive MRes where
  | tmp (t : Nat)
  | cell (t : Nat) (agg : Bool) (size : Nat)
  deriving Inhabited

structure MFunc where
  nparams : Nat
  ntmps : Nat
  results : List MRes
  body : MCode
  deriving Inhabited

abbrev St := List Obj

def Fr.at (fr : Fr) (t : Nat) : D := fr.slots.getD t .junk
def Fr.set (fr : Fr) (t : Nat) (d : D) : Fr := { fr with slots := fr.slots.set t d }
def Fr.setBox (fr : Fr) (t : Nat) (b : Option (List D)) : Fr := { fr with boxes := fr.boxes.set t b }
def Fr.boxAt (fr : Fr) (t : Nat) : Option (List D) := (fr.boxes[t]?).getD none

/-- The value of an operand: a copy. -/
def Fr.val (fr : Fr) : X → D
  | .tmp t => (fr.at t).strip
  | .const d => d.strip

/-- The value of an argument. -/
def Fr.arg (fr : Fr) : X → D
  | .tmp t => (fr.val (.tmp t)).deep
  | .const d => d.strip

/-- The value itself, with what is its own. -/
def Fr.take (fr : Fr) : X → D × Fr
  | .tmp t => (fr.at t, fr.set t (fr.at t).strip)
  | .const d => (d, fr)

def killL (t : Nat) : D → D
  | .lptr s off => if s = t then .junk else .lptr s off
  | d => d

def relinkL (t o : Nat) : D → D
  | .lptr s off => if s = t then .ptr o off else .lptr s off
  | d => d

/-- A variable's own memory, new. -/
def Fr.newBox (fr : Fr) (t : Nat) (cs : List D) : Fr :=
  match fr.boxAt t with
  | none => fr.setBox t (some cs)
  | some _ => { fr with slots := fr.slots.map (killL t), boxes := fr.boxes.set t (some cs) }

/-- A variable's memory that is to be seen from outside becomes an object. -/
def Fr.promote (fr : Fr) (σ : St) (t : Nat) : Option (Fr × St) :=
  match fr.boxAt t with
  | some cs => some ({ fr with slots := fr.slots.map (relinkL t σ.length), boxes := fr.boxes.set t none }, σ ++ [.cells cs])
  | none => none

/-- The variable that x points to, if it is one of the frame's own, becomes an object. -/
def Fr.ownP (fr : Fr) (σ : St) (x : X) : Option (Fr × St) :=
  match fr.val x with
  | .lptr s _ => fr.promote σ s
  | _ => some (fr, σ)

def Fr.promoteX (fr : Fr) (σ : St) : X → Option (D × Fr × St)
  | .const d => some (d.strip, fr, σ)
  | .tmp t =>
    match fr.at t with
    | .lptr s off => (fr.promote σ s).map fun (fr', σ') => (.ptr σ.length off, fr', σ')
    | d => some (d.deep, fr, σ)

def Fr.promoteAll (fr : Fr) (σ : St) : List X → Option (List D × Fr × St)
  | [] => some ([], fr, σ)
  | x :: xs =>
    match fr.promoteX σ x with
    | some (d, fr, σ) => (Fr.promoteAll fr σ xs).map fun (ds, r) => (d :: ds, r)
    | none => none

def setAt {α : Type} (cs : List α) (off : Nat) : List α → List α
  | [] => cs
  | d :: ds => setAt (cs.set off d) (off + 1) ds

/-- The cells that an address shows. -/
def cellsAt (fr : Fr) (σ : St) : D → Option (List D)
  | .ref cs => some cs
  | .lptr t off => (fr.boxAt t).map (·.drop off)
  | .ptr o off =>
    match σ[o]? with
    | some (.cells cs) => some (cs.drop off)
    | _ => none
  | _ => none

def storeAt (fr : Fr) (σ : St) (a : D) (ds : List D) : Option (Fr × St) :=
  match a with
  | .lptr t off =>
    match fr.boxAt t with
    | some cs => if off + ds.length ≤ cs.length then some (fr.setBox t (some (setAt cs off ds)), σ) else none
    | none => none
  | .ptr o off =>
    match σ[o]? with
    | some (.cells cs) => if off + ds.length ≤ cs.length then some (fr, σ.set o (.cells (setAt cs off ds))) else none
    | _ => none
  | _ => none

def shiftD (op : BinOp) (k : IntKind) (x y : Int) : Option D :=
  if y < 0 then none else
  match op with
  | .shl => some (.int k (k.wrap (x * 2 ^ (min y.toNat k.bits))))
  | .shr => some (.int k (x.fdiv (2 ^ (min y.toNat k.bits))))
  | _ => none

def intD (op : BinOp) (k : IntKind) (x y : Int) : Option D :=
  match op with
  | .add => some (.int k (k.wrap (x + y)))
  | .sub => some (.int k (k.wrap (x - y)))
  | .mul => some (.int k (k.wrap (x * y)))
  | .quo => if y = 0 then none else some (.int k (k.wrap (x.tdiv y)))
  | .rem => if y = 0 then none else some (.int k (x.tmod y))
  | .and => some (.int k (k.wrap (BitVec.ofInt k.bits x &&& BitVec.ofInt k.bits y).toNat))
  | .or => some (.int k (k.wrap (BitVec.ofInt k.bits x ||| BitVec.ofInt k.bits y).toNat))
  | .xor => some (.int k (k.wrap (BitVec.ofInt k.bits x ^^^ BitVec.ofInt k.bits y).toNat))
  | .eql => some (.bool (x == y))
  | .neq => some (.bool (x != y))
  | .lss => some (.bool (decide (x < y)))
  | .leq => some (.bool (decide (x ≤ y)))
  | .gtr => some (.bool (decide (x > y)))
  | .geq => some (.bool (decide (x ≥ y)))
  | _ => none

def strD (op : BinOp) (x y : List UInt8) : Option D :=
  match op with
  | .add => if x.length + y.length ≤ 140737488355328 then some (.str (x ++ y)) else none
  | .eql => some (.bool (x == y))
  | .neq => some (.bool (!(x == y)))
  | .lss => some (.bool (Op.bytesLess x y))
  | .leq => some (.bool (Op.bytesLess x y || x == y))
  | .gtr => some (.bool (!(Op.bytesLess x y || x == y)))
  | .geq => some (.bool (!(Op.bytesLess x y)))
  | _ => none

def binD (op : BinOp) : D → D → Option D
  | .int k x, .int k' y =>
    match op with
    | .shl => shiftD .shl k x y
    | .shr => shiftD .shr k x y
    | op => if k = k' then intD op k x y else none
  | .str x, .str y => strD op x y
  | _, _ => none

def eqbD (neg : Bool) : D → D → Option D
  | .bool x, .bool y => some (.bool ((x == y) != neg))
  | _, _ => none

def eqnD (neg : Bool) : D → Option D
  | .nilp => some (.bool (!neg))
  | .ptr _ _ | .lptr _ _ | .ref _ => some (.bool neg)
  | _ => none

def unD (op : UnOp) : D → Option D
  | .int k n =>
    match op with
    | .neg => some (.int k (k.wrap (0 - n)))
    | _ => none
  | .bool b =>
    match op with
    | .not => some (.bool (!b))
    | _ => none
  | _ => none

/-- Are two keys the same? 0: numbers; 1: texts; else truths. -/
def eqKey : Nat → D → D → Option Bool
  | 0, .int k a, .int k' b => if k = k' then some (a == b) else none
  | 1, .str a, .str b => some (a == b)
  | 2, .bool a, .bool b => some (a == b)
  | _, _, _ => none

def findKey (kk : Nat) (k : D) : List (D × D) → Option (Option D)
  | [] => some none
  | (k', v) :: es =>
    match eqKey kk k k' with
    | some true => some (some v)
    | some false => findKey kk k es
    | none => none

def putKey (kk : Nat) (k x : D) : List (D × D) → Option (List (D × D))
  | [] => some [(k, x)]
  | (k', v) :: es =>
    match eqKey kk k k' with
    | some true => some ((k, x) :: es)
    | some false => (putKey kk k x es).map ((k', v) :: ·)
    | none => none

def delKey (kk : Nat) (k : D) : List (D × D) → Option (List (D × D))
  | [] => some []
  | (k', v) :: es =>
    match eqKey kk k k' with
    | some true => some es
    | some false => (delKey kk k es).map ((k', v) :: ·)
    | none => none

def keyD : Nat → D → Bool
  | 0, .int _ _ | 1, .str _ | 2, .bool _ => true
  | _, _ => false

def fillD (cs : List D) : List (Nat × Nat × D) → Option (List D)
  | [] => some cs
  | (off, size, d) :: rest =>
    if d.cells.length = size ∧ off + size ≤ cs.length ∧ d.cells.all D.plain then fillD (setAt cs off (d.cells.map D.strip)) rest else none

def fillE (es : List (List D)) (esz : Nat) : List (Nat × D) → Option (List (List D))
  | [] => some es
  | (i, d) :: rest =>
    if d.cells.length = esz ∧ i < es.length ∧ d.cells.all D.pure1 then fillE (es.set i (d.cells.map D.strip)) esz rest else none

/-- A row of cells, element by element. -/
def chunk (esz : Nat) (cs : List D) : Nat → List (List D)
  | 0 => []
  | n + 1 => cs.take esz :: chunk esz (cs.drop esz) n

/-- What a slice shows: its elements. -/
def elems (σ : St) : D → Option (List (List D))
  | .sl es _ => some es
  | .msl o off n esz =>
    match σ[o]? with
    | some (.cells cs) => if off + n * esz ≤ cs.length ∧ 0 < esz ∧ cs.all D.pure1 then some (chunk esz ((cs.drop off).map D.strip) n) else none
    | _ => none
  | _ => none

def intOf? : D → Option Int
  | .int _ n => some n
  | _ => none

def loD : Option D → Option Nat
  | none => some 0
  | some d => (intOf? d).bind fun n => if 0 ≤ n then some n.toNat else none

def hiD (len : Nat) : Option D → Option Nat
  | none => some len
  | some d => (intOf? d).bind fun n => if 0 ≤ n then some n.toNat else none

def Fr.optVal (fr : Fr) : Option X → Option D
  | none => none
  | some x => some (fr.val x)

def room : Nat := 140737488355328

/-- What a call answers goes out: nothing of the callee's own memory. -/
def freeze1 (σ : St) : D → Option D
  | .bool b => some (.bool b)
  | .int k n => some (.int k n)
  | .str s => some (.str s)
  | .nilp => some .nilp
  | .nilm => some .nilm
  | .nilf => some .nilf
  | .ref cs => some (.ref cs)
  | .sl es own => some (.sl es own)
  | .func f [] => some (.func f [])
  | .msl o off n esz => (elems σ (.msl o off n esz)).map (.sl · none)
  | _ => none

def freezeL (σ : St) : List D → Option (List D)
  | [] => some []
  | d :: ds =>
    match freeze1 σ d with
    | some d => (freezeL σ ds).map (d.strip :: ·)
    | none => none

def freezeT (σ : St) : List D → Option (List D)
  | [] => some []
  | .agg cs :: ds =>
    match freezeL σ cs with
    | some cs => (freezeT σ ds).map (.agg cs :: ·)
    | none => none
  | d :: ds =>
    match freeze1 σ d with
    | some d => (freezeT σ ds).map (d.strip :: ·)
    | none => none

def freeze (σ : St) : D → Option D
  | .agg cs => (freezeL σ cs).map .agg
  | .tup vs => (freezeT σ vs).map .tup
  | d => freeze1 σ d

def scalar1 : D → Bool
  | .bool _ | .int _ _ | .str _ | .nilp => true
  | _ => false

def scalar : D → Bool
  | .tup vs => vs.all scalar1
  | d => scalar1 d

/-- An argument that a call may have without seeing the store. -/
def pureArg : D → Bool
  | .agg cs => cs.all D.pure1
  | .msl .. => true
  | d => d.pure1

def snap (σ : St) : List D → Option (List D × List Nat)
  | [] => some ([], [])
  | .msl o off n esz :: ds =>
    match elems σ (.msl o off n esz), snap σ ds with
    | some es, some (r, os) => some (.sl es none :: r, o :: os)
    | _, _ => none
  | d :: ds => (snap σ ds).map fun (r, os) => (d :: r, os)

def killAll (σ : St) : List Nat → St
  | [] => σ
  | o :: os => killAll (σ.set o .dead) os

abbrev Cal := Nat → List D → St → Option (D × St)

def doCall (cal : Cal) (f : Nat) (args : List D) (σ : St) : Option (D × St) :=
  if args.all pureArg then
    match snap σ args with
    | none => none
    | some (args', os) =>
      match cal f args' [] with
      | none => none
      | some (r, σc) =>
        match freeze σc r with
        | none => if args.all D.notL then cal f args σ else none
        | some r' => some (r', if os.isEmpty || scalar r' then σ else killAll σ os)
  else if args.all D.notL then cal f args σ else none

/-- A call that leaves the store as it is. -/
def doCallQ (cal : Cal) (f : Nat) (args : List D) (σ : St) : Option D :=
  if args.all pureArg then
    match snap σ args with
    | none => none
    | some (args', os) =>
      match cal f args' [] with
      | none => none
      | some (r, σc) =>
        match freeze σc r with
        | none => none
        | some r' => if os.isEmpty || scalar r' then some r' else none
  else none

def maxD : D → List D → Option D
  | .int k a, [] => some (.int k a)
  | .int k a, .int k' b :: ds => if k = k' then maxD (.int k (if b > a then b else a)) ds else none
  | _, _ => none

def D.inBox (t : Nat) : D → Bool
  | .lptr s _ => s == t
  | _ => false

def evalOp (cal : Cal) (quiet : Bool) (dst : Option Nat) (op : MOp) (fr : Fr) (σ : St) : Option (D × Fr × St) :=
  match op with
  | .move x steal =>
    if steal then let (d, fr) := fr.take x; some (d, fr, σ) else some (fr.val x, fr, σ)
  | .assign x => let (d, fr) := fr.take x; some (d, fr, σ)
  | .pick c a b =>
    match fr.val c with
    | .bool true => some (fr.val a, fr, σ)
    | .bool false => some (fr.val b, fr, σ)
    | _ => none
  | .alloc zero =>
    match dst with
    | some t => some (.lptr t 0, fr.newBox t zero, σ)
    | none => none
  | .box x =>
    match dst with
    | some t =>
      let cs := (fr.val x).cells
      if cs.all D.plain then some (.lptr t 0, fr.newBox t (fr.val x).raw, σ) else none
    | none => none
  | .build zero parts => (fillD zero (parts.map fun (o, s, x) => (o, s, fr.val x))).map fun cs => (.agg cs, fr, σ)
  | .buildSlice e esz n zero parts =>
    (fillE (List.replicate n zero) esz (parts.map fun (i, x) => (i, fr.val x))).map fun es => (.sl es (some e), fr, σ)
  | .load agg size a steal =>
    match cellsAt fr σ (fr.val a) with
    | none => none
    | some cs =>
      if agg then (if size ≤ cs.length then some (.agg ((cs.take size).map D.strip), fr, σ) else none)
      else match cs with
        | [] => none
        | d :: _ =>
          if steal then (storeAt fr σ (fr.val a) [d.strip]).map fun (fr, σ) => (d, fr, σ)
          else some (d.strip, fr, σ)
  | .store size a x =>
    let (d, fr') := fr.take x
    if d.cells.length = size ∧ d.cells.all D.plain then (storeAt fr' σ (fr.val a) d.raw).map fun (fr, σ) => (.junk, fr, σ) else none
  | .nilCheck x =>
    match fr.val x with
    | .ptr o off => some (.ptr o off, fr, σ)
    | .lptr t off => some (.lptr t off, fr, σ)
    | .ref cs => some (.ref cs, fr, σ)
    | _ => none
  | .bin op x y => (binD op (fr.val x) (fr.val y)).map (·, fr, σ)
  | .eqb neg x y => (eqbD neg (fr.val x) (fr.val y)).map (·, fr, σ)
  | .eqn neg x => (eqnD neg (fr.val x)).map (·, fr, σ)
  | .un op x => (unD op (fr.val x)).map (·, fr, σ)
  | .conv k x =>
    match fr.val x with
    | .int _ n => some (.int k (k.wrap n), fr, σ)
    | _ => none
  | .mkfunc f caps => (fr.promoteAll σ caps).map fun (ds, fr, σ) => (.func f ds, fr, σ)
  | .mkmap => some (.map σ.length, fr, σ ++ [.map []])
  | .mkslice esz bytes zero len cap =>
    match fr.val len, fr.val cap with
    | .int .i64 n, .int .i64 c =>
      if 0 ≤ n ∧ n = c ∧ n * bytes ≤ 140737488355328 ∧ n < 4611686018427387904 then
        some (.msl σ.length 0 n.toNat esz, fr, σ ++ [.cells (List.replicate n.toNat zero).flatten])
      else none
    | _, _ => none
  | .slice esz x lo hi =>
    match fr.val x with
    | .sl es _ =>
      match loD (fr.optVal lo), hiD es.length (fr.optVal hi) with
      | some l, some h => if l ≤ h ∧ h ≤ es.length ∧ (es.all fun e => e.length == esz) then some (.sl ((es.drop l).take (h - l)) none, fr, σ) else none
      | _, _ => none
    | .msl o off n esz' =>
      match loD (fr.optVal lo), hiD n (fr.optVal hi) with
      | some l, some h =>
        if l ≤ h ∧ h ≤ n ∧ esz' = esz then (if l = n ∧ 0 < l then some (.sl [] none, fr, σ) else some (.msl o (off + l * esz) (h - l) esz, fr, σ)) else none
      | _, _ => none
    | _ => none
  | .sliceStr x lo hi =>
    match fr.val x with
    | .str s =>
      match loD (fr.optVal lo), hiD s.length (fr.optVal hi) with
      | some l, some h => if l ≤ h ∧ h ≤ s.length then some (.str ((s.drop l).take (h - l)), fr, σ) else none
      | _, _ => none
    | _ => none
  | .fieldAddr off x =>
    match fr.val x with
    | .ref cs => some (.ref (cs.drop off), fr, σ)
    | .lptr t o => some (.lptr t (o + off), fr, σ)
    | .ptr o a => some (.ptr o (a + off), fr, σ)
    | _ => none
  | .field agg off size x =>
    match fr.val x with
    | .agg cs =>
      if agg then (if off + size ≤ cs.length then some (.agg ((cs.drop off).take size), fr, σ) else none)
      else (cs[off]?).map (·.strip, fr, σ)
    | _ => none
  | .indexAddr esz x i =>
    match intOf? (fr.val i) with
    | none => none
    | some i =>
      if 0 ≤ i then
        match fr.val x with
        | .sl es _ =>
          match es[i.toNat]? with
          | some e => if e.length = esz then some (.ref e, fr, σ) else none
          | none => none
        | .msl o off n esz' => if i < n ∧ esz' = esz then some (.ptr o (off + i.toNat * esz), fr, σ) else none
        | _ => none
      else none
  | .indexArr ad agg len esz x i =>
    match intOf? (fr.val i) with
    | none => none
    | some i =>
      if 0 ≤ i ∧ i < len then
        if ad then
          match fr.val x with
          | .lptr t o => some (.lptr t (o + i.toNat * esz), fr, σ)
          | .ptr o a => some (.ptr o (a + i.toNat * esz), fr, σ)
          | _ => none
        else
          match fr.val x with
          | .agg cs =>
            if agg then (if (i.toNat + 1) * esz ≤ cs.length then some (.agg ((cs.drop (i.toNat * esz)).take esz), fr, σ) else none)
            else if esz = 1 then (cs[i.toNat]?).map (·.strip, fr, σ) else none
          | _ => none
      else none
  | .lookup kk agg zero x i ok =>
    match fr.val x with
    | .map o =>
      match σ[o]? with
      | some (.map es) =>
        if keyD kk (fr.val i) then
          match findKey kk (fr.val i) es with
          | some (some v) => some (if ok then .tup [v, .bool true] else v, fr, σ)
          | some none =>
            match zero with
            | z :: rest =>
              if agg then some (if ok then .tup [.agg (z :: rest), .bool false] else .agg (z :: rest), fr, σ)
              else if rest.isEmpty then some (if ok then .tup [z.strip, .bool false] else z.strip, fr, σ) else none
            | [] => none
          | none => none
        else none
      | _ => none
    | _ => none
  | .mapUpdate kk m k x =>
    match fr.val m with
    | .map o =>
      match σ[o]? with
      | some (.map es) =>
        if keyD kk (fr.val k) ∧ (fr.val x).notL then (putKey kk (fr.val k) (fr.val x) es).map fun es => (.junk, fr, σ.set o (.map es)) else none
      | _ => none
    | _ => none
  | .mapUpdateP kk m k x =>
    match fr.ownP σ x with
    | none => none
    | some (fr, σ) =>
      match fr.val m with
      | .map o =>
        match σ[o]? with
        | some (.map es) =>
          if keyD kk (fr.val k) ∧ (fr.val x).notL then (putKey kk (fr.val k) (fr.val x) es).map fun es => (.junk, fr, σ.set o (.map es)) else none
        | _ => none
      | _ => none
  | .extract x i =>
    match fr.val x with
    | .tup vs => (vs[i]?).map (·.strip, fr, σ)
    | _ => none
  | .len 0 x =>
    match fr.val x with
    | .sl es _ => some (.int .i64 es.length, fr, σ)
    | .msl _ _ n _ => some (.int .i64 n, fr, σ)
    | _ => none
  | .len 1 x =>
    match fr.val x with
    | .str s => some (.int .i64 s.length, fr, σ)
    | _ => none
  | .len _ x =>
    match fr.val x with
    | .map o =>
      match σ[o]? with
      | some (.map es) => some (.int .i64 es.length, fr, σ)
      | _ => none
    | _ => none
  | .append e esz bytes mutable x y =>
    match elems σ (fr.val y) with
    | none => none
    | some ys =>
      if (ys.all fun y => y.length == esz) then
        if mutable then
          match fr.val x with
          | .msl o off n esz' =>
            match σ[o]?, σ[o + 1]? with
            | some (.cells cs), some (.row e') =>
              if esz' = esz ∧ off = 0 ∧ e' = e ∧ 0 < ys.length ∧ n * esz ≤ cs.length ∧ (cs.take (n * esz)).all scalar1 ∧ ys.flatten.all scalar1 ∧ (n + ys.length) * bytes ≤ room ∧ n + ys.length < 4611686018427387904 then
                some (.msl σ.length 0 (n + ys.length) esz, fr, σ.set o .dead ++ [.cells (cs.take (n * esz) ++ ys.flatten), .row e])
              else none
            | _, _ => none
          | .sl [] _ =>
            match fr.take x with
            | (.sl [] (some e'), fr) =>
              if e' = e ∧ 0 < ys.length ∧ ys.flatten.all scalar1 ∧ ys.length * bytes ≤ room ∧ ys.length < 4611686018427387904 then some (.msl σ.length 0 ys.length esz, fr, σ ++ [.cells ys.flatten, .row e]) else none
            | _ => none
          | _ => none
        else
          let (d, fr) := fr.take x
          match d with
          | .sl xs (some e') =>
            if e' = e ∧ (xs.length + ys.length) * bytes ≤ room ∧ xs.length + ys.length < 4611686018427387904 then some (.sl (xs ++ ys) (some e), fr, σ) else none
          | _ => none
      else none
  | .max xs =>
    match xs.map fr.val with
    | d :: ds => (maxD d ds).map (·, fr, σ)
    | [] => none
  | .call f args =>
    if quiet then (doCallQ cal f (args.map fun x => (fr.val x).deep) σ).map fun r => (r, fr, σ) else
    match fr.promoteAll σ args with
    | none => none
    | some (ds, fr, σ) => (doCall cal f ds σ).map fun (r, σ) => (r, fr, σ)
  | .callv x args =>
    match fr.val x with
    | .func f caps =>
      if quiet then (doCallQ cal f ((args.map fun x => (fr.val x).deep) ++ caps) σ).map fun r => (r, fr, σ) else
      match fr.promoteAll σ args with
      | none => none
      | some (ds, fr, σ) => (doCall cal f (ds ++ caps) σ).map fun (r, σ) => (r, fr, σ)
    | _ => none
  | .defer x args =>
    match fr.val x with
    | .func f caps =>
      match fr.promoteAll σ args with
      | none => none
      | some (ds, fr, σ) => some (.junk, { fr with defers := (.func f caps, ds) :: fr.defers }, σ)
    | _ => none
  | .loadA t agg size a =>
    if (fr.val a).inBox t then none else
    match cellsAt fr σ (fr.val a) with
    | none => none
    | some cs =>
      if agg then (if size ≤ cs.length then some (.agg ((cs.take size).map D.strip), fr, σ) else none)
      else match cs with
        | [] => none
        | d :: _ => some (d.strip, fr, σ)
  | .storeR size t x =>
    if (fr.val (.tmp t)).inBox t then
      let (d, fr') := fr.take x
      if d.cells.length = size ∧ d.cells.all D.plain then (storeAt fr' σ (fr.val (.tmp t)) d.raw).map fun (fr, σ) => (.junk, fr, σ) else none
    else none
  | .allocR zero =>
    match dst with
    | some t => if (fr.boxAt t).isNone then some (.lptr t 0, fr.setBox t (some zero), σ) else none
    | none => none
  | .callS f args =>
    if (args.map fr.arg).all D.notL then (doCall cal f (args.map fr.arg) σ).map fun (r, σ) => (r, fr, σ) else none
  | .indexStr x i =>
    match intOf? (fr.val i) with
    | none => none
    | some i =>
      if 0 ≤ i then
        match fr.val x with
        | .str s => (s[i.toNat]?).map fun b => (.int .u8 (b.toNat : Int), fr, σ)
        | _ => none
      else none
  | .delete kk m k =>
    match fr.val m with
    | .map o =>
      match σ[o]? with
      | some (.map es) =>
        if keyD kk (fr.val k) then (delKey kk (fr.val k) es).map fun es => (.junk, fr, σ.set o (.map es)) else none
      | _ => none
    | _ => none

def Fr.put (fr : Fr) (dst : Option Nat) (d : D) : Fr :=
  match dst with
  | some t => fr.set t d
  | none => fr

def wantedD (fr : Fr) : Option (Nat × Bool) → Option Bool
  | none => some true
  | some (t, want) =>
    match fr.at t with
    | .bool b => some (b == want)
    | .undef => some false
    | _ => none

def runOp (cal : Cal) (quiet : Bool) (o : MOper) (fr : Fr) (σ : St) : Option (Fr × St) :=
  match wantedD fr o.guard with
  | none => none
  | some false => some (fr.put o.dst .undef, σ)
  | some true =>
    match evalOp cal quiet o.dst o.op fr σ with
    | some (d, fr, σ) => some (fr.put o.dst d, σ)
    | none => none

def runOps (cal : Cal) (quiet : Bool) : List MOper → Fr → St → Option (Fr × St)
  | [], fr, σ => some (fr, σ)
  | o :: ops, fr, σ =>
    match runOp cal quiet o fr σ with
    | some (fr, σ) => runOps cal quiet ops fr σ
    | none => none

def keptD (keep : List Nat) : D → D
  | .lptr s off => if keep.contains s then .lptr s off else .junk
  | d => d

def clearS (keep : List Nat) : Nat → List D → List D
  | _, [] => []
  | i, d :: ds => (if keep.contains i then keptD keep d else .junk) :: clearS keep (i + 1) ds

def clearB (keep : List Nat) : Nat → List (Option (List D)) → List (Option (List D))
  | _, [] => []
  | i, b :: bs => (if keep.contains i then b else none) :: clearB keep (i + 1) bs

def Fr.clear (keep : List Nat) (fr : Fr) : Fr := { fr with slots := clearS keep 0 fr.slots, boxes := clearB keep 0 fr.boxes }

abbrev RunR := Option (AE × Fr × St)

def iter (F : Fr → St → RunR) (keep : List Nat) : Nat → Fr → St → RunR
  | 0, _, _ => none
  | n + 1, fr, σ =>
    match F (fr.clear keep) σ with
    | some (.normal, fr, σ) => iter F keep n fr σ
    | r => r

def runC (cal : Cal) (fuel : Nat) : MCode → Fr → St → RunR
  | .skip, fr, σ => some (.normal, fr, σ)
  | .region quiet ops, fr, σ => (runOps cal quiet ops fr σ).map fun (fr, σ) => (.normal, fr, σ)
  | .seq a b, fr, σ =>
    match runC cal fuel a fr σ with
    | some (.normal, fr, σ) => runC cal fuel b fr σ
    | r => r
  | .cond x a b, fr, σ =>
    match fr.val x with
    | .bool true => runC cal fuel a fr σ
    | .bool false => runC cal fuel b fr σ
    | _ => none
  | .block id c, fr, σ =>
    match runC cal fuel c fr σ with
    | some (.exit i, fr, σ) => if i = id then some (.normal, fr, σ) else some (.exit i, fr, σ)
    | r => r
  | .loop keep c, fr, σ => iter (runC cal fuel c) keep fuel fr σ
  | .exit id, fr, σ => some (.exit id, fr, σ)
  | .ret, fr, σ => some (.ret, fr, σ)
  | .nat N, fr, σ => N fr σ

/-- The deferred calls of a function that returns. -/
def runDefers (cal : Cal) : List (D × List D) → St → Option St
  | [], σ => some σ
  | (.func f caps, args) :: ds, σ =>
    if (args ++ caps).all D.notL then
      match cal f (args ++ caps) σ with
      | some (_, σ) => runDefers cal ds σ
      | none => none
    else none
  | _ :: _, _ => none

/-- A result variable's value. -/
def resD (fr : Fr) (σ : St) : MRes → Option D
  | .tmp t => some (fr.at t).bare
  | .cell t agg size =>
    match cellsAt fr σ (fr.at t) with
    | none => none
    | some cs =>
      if agg then (if size ≤ cs.length then some (.agg ((cs.take size).map D.strip)) else none)
      else match cs with
        | [] => none
        | d :: _ => some d.strip

def resAll (fr : Fr) (σ : St) : List MRes → Option (List D)
  | [] => some []
  | r :: rs =>
    match resD fr σ r with
    | some d => (resAll fr σ rs).map (d.strip :: ·)
    | none => none

/-- What a function answers. The address of a variable of its own: that variable becomes an object. -/
def resultOf (fr : Fr) (σ : St) : List MRes → Option (D × St)
  | [r] =>
    match resD fr σ r with
    | some (.lptr t off) => (fr.promote σ t).map fun (_, σ') => (.ptr σ.length off, σ')
    | some d => some (d, σ)
    | none => none
  | rs =>
    match resAll fr σ rs with
    | some ds => if ds.all D.notL then some (.tup ds, σ) else none
    | none => none

abbrev Table := Nat → Option MFunc

def enterFr (m : MFunc) (args : List D) : Fr := { slots := args.map D.strip ++ List.replicate (m.ntmps - args.length) .junk, boxes := List.replicate m.ntmps none, defers := [] }

def runBody (cal : Cal) (fuel : Nat) (m : MFunc) (args : List D) (σ : St) : Option (Fr × St) :=
  if args.length = m.nparams ∧ m.nparams ≤ m.ntmps then
    match runC cal fuel m.body (enterFr m args) σ with
    | some (.exit _, _, _) => none
    | some (_, fr, σ) => some (fr, σ)
    | none => none
  else none

/-- It is told by no function. -/
def MCode.told : MCode → Bool
  | .seq a b => a.told || b.told
  | .cond _ a b => a.told || b.told
  | .block _ c => c.told
  | .loop _ c => c.told
  | .nat _ => true
  | _ => false

/-- A call of a function that leaves no deferred calls. -/
def plainN (T : Table) (cal : Cal) (fuel : Nat) : Cal := fun f args σ =>
  match T f with
  | none => none
  | some m =>
    if m.body.told then none else
    match runBody cal fuel m args σ with
    | some (fr, σ) => if fr.defers.isEmpty then resultOf fr σ m.results else none
    | none => none

def callN (T : Table) : Nat → Cal
  | 0, _, _, _ => none
  | n + 1, f, args, σ =>
    match T f with
    | none => none
    | some m =>
      match runBody (callN T n) n m args σ with
      | some (fr, σ) =>
        if fr.defers.isEmpty then resultOf fr σ m.results else
        if m.body.told then none else
        match runDefers (plainN T (callN T n) n) fr.defers σ with
        | some σ => resultOf fr σ m.results
        | none => none
      | none => none

/-- slices.Clone, without its question. -/
def cloneA (e : Nat) : MCode := .region false [⟨some 2, .assign (.const (.sl [] (some e))), none⟩]
def cloneD (e esz bytes : Nat) (z : List D) : MCode := .seq (.region false [⟨some 5, .buildSlice e esz 0 z [], none⟩, ⟨some 6, .move (.tmp 0) false, none⟩, ⟨some 7, .append e esz bytes false (.tmp 5) (.tmp 6), none⟩, ⟨some 2, .assign (.tmp 7), none⟩]) .ret
def mclone (e esz bytes : Nat) (z : List D) : MFunc := ⟨1, 8, [.tmp 2], .seq (cloneA e) (cloneD e esz bytes z)⟩

end Go.Abs
