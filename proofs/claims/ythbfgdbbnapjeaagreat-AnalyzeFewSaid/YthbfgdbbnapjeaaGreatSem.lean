/-
  A part of AnalyzeFew's proof.
-/
import GoSem.Core.Value
import GoSem.Core.Ast
import GoSem.Core.View
import GoSem.Op.String
import Derived.Laws.BitsLemmas
import Derived.KernelRfl
import GoSem.Core.Program
import GoSem.Core.Code
import GoSem.Core.Region
import GoSem.Op.Equal
set_option linter.unusedVariables false
set_option linter.unusedSimpArgs false
namespace Go.Abs
open Go
theorem om {p : Prop} (h : p := by omega) : p := h
theorem asm {p : Prop} (h : p := by assumption) : p := h
inductive D where
 | junk
 | undef
 | nils (e : Nat)
 | bool (b : Bool)
 | int (k : IntKind) (n : Int)
 | str (s : List UInt8)
 | nilp
 | nilm
 | nilf
 | ptr (o off : Nat)
 | lptr (t off : Nat)
 | ref (cs : List D)
 | sl (es : List (List D)) (own : Option Nat)
 | msl (o off len esz : Nat)
 | map (o : Nat)
 | func (f : Nat) (caps : List D)
 | agg (cs : List D)
 | tup (vs : List D)
 /-- this very value -/
 | val (v : Value)
 deriving Inhabited
def D.strip : D → D
 | .sl es _ => .sl es none
 | .nils _ => .sl [] none
 | d => d
def D.pure1 : D → Bool
 | .bool _ | .int _ _ | .str _ | .nilp | .nilm | .nilf | .ref _ | .sl _ _ | .nils _ | .func _ [] => true
 | _ => false
def D.plain : D → Bool
 | .junk | .undef | .lptr _ _ | .agg _ | .tup _ | .val _ => false
 | _ => true
def D.notL : D → Bool
 | .lptr _ _ => false
 | _ => true
def D.cells : D → List D
 | .agg cs => cs.map D.strip
 | d => [d]
def D.ripe : D → D
 | .nils e => .sl [] (some e)
 | d => d.strip
def D.raw : D → List D
 | .agg cs => cs.map D.ripe
 | d => [d]
def D.bare : D → D
 | .agg cs => .agg (cs.map D.strip)
 | d => d
def D.deep (d : D) : D := d.bare.strip
inductive X where
 | tmp (t : Nat)
 | const (d : D)
 deriving Inhabited
inductive MOp where
 | move (x : X) (steal : Bool)
 | assign (x : X)
 | pick (c a b : X)
 | alloc (zero : List D)
 | box (x : X)
 | build (zero : List D) (parts : List (Nat × Nat × X))
 | buildSlice (e esz n : Nat) (zero : List D) (parts : List (Nat × X))
 | load (agg : Bool) (size : Nat) (a : X) (steal : Bool)
 | store (size : Nat) (a x : X)
 | nilCheck (x : X)
 | bin (op : BinOp) (x y : X)
 | eqb (neg : Bool) (x y : X)
 | eqn (neg : Bool) (x : X)
 | eqA (n : Nat) (neg : Bool) (x y : X)
 | un (op : UnOp) (x : X)
 | conv (k : IntKind) (x : X)
 | mkfunc (f : Nat) (caps : List X)
 | mkmap
 | mkslice (esz bytes : Nat) (zero : List D) (len cap : X)
 | slice (esz : Nat) (x : X) (lo hi : Option X)
 | sliceStr (x : X) (lo hi : Option X)
 | fieldAddr (off : Nat) (x : X)
 | field (agg : Bool) (off size : Nat) (x : X)
 | indexAddr (esz : Nat) (x i : X)
 | indexArr (ad agg : Bool) (len esz : Nat) (x i : X)
 | lookup (kk : Nat) (agg : Bool) (zero : List D) (x i : X) (ok : Bool)
 | mapUpdate (kk : Nat) (m k x : X)
 /-- .. of what may be the address of a variable of the frame's own: that becomes an object. -/
 | mapUpdateP (kk : Nat) (m k x : X)
 | extract (x : X) (i : Nat)
 | len (kind : Nat) (x : X)
 | append (e esz bytes : Nat) (mutable : Bool) (x y : X)
 | max (xs : List X)
 | min (xs : List X)
 /-- what the interpreter does not follow -/
 | bad
 | call (f : Nat) (args : List X)
 | callv (f : X) (args : List X)
 | defer (f : X) (args : List X)
 /-- A load that is not through the box of t. -/
 | loadA (t : Nat) (agg : Bool) (size : Nat) (a : X)
 /-- A store into the box of t, which t itself points to. -/
 | storeR (size : Nat) (t : Nat) (x : X)
 /-- An allocation where there was no box before. -/
 | allocR (zero : List D)
 /-- A call whose arguments hold no address of the frame's own variables. -/
 | callS (f : Nat) (args : List X)
 | indexStr (x i : X)
 | delete (kk : Nat) (m k : X)
 /-- A load of what is the frame's own, or of content. -/
 | loadL (agg : Bool) (size : Nat) (a : X)
 /-- a call that sees the store, whatever its arguments -/
 | callM (f : Nat) (args : List X)
 /-- a row of its own in memory -/
 | buildM (e esz n : Nat) (zero : List D) (parts : List (Nat × X))
 /-- a row's cells are put to nothing -/
 | clear (esz : Nat) (zero : List D) (x : X)
 /-- a load of what is the frame's own, but not through the box of t, or of content -/
 | loadB (t : Nat) (agg : Bool) (size : Nat) (a : X)
 /-- a call of a value; its arguments hold no address of the frame's own variables -/
 | callvS (f : X) (args : List X)
 /-- a load of an object, or of content: never of what is the frame's own -/
 | loadP (agg : Bool) (size : Nat) (a : X)
 /-- a load out of the frame's own box that takes what it loads -/
 | loadT (agg : Bool) (size : Nat) (a : X)
 /-- a load that takes the cell at off of the box of t -/
 | loadK (t off size : Nat) (a : X)
 deriving Inhabited
structure MOper where
 dst : Option Nat
 op : MOp
 guard : Option (Nat × Bool)
 deriving Inhabited
inductive Obj where
 | cells (cs : List D)
 | map (es : List (D × D))
 | dead
 /-- the object ahead of this one is a row of such elements -/
 | row (e : Nat)
 /-- a map that is ranged over: it may be read alone -/
 | mapR (es : List (D × D))
 deriving Inhabited
structure MRange where
 keep : List Nat
 res : List Nat
 pre : List MOper
 m : X
 it : Nat
 tupN : Nat
 okT : Nat
 tupE : Nat
 ext : MOper
 tail : List MOper
 idOut : Nat
 idIn : Nat
structure Fr where
 slots : List D
 boxes : List (Option (List D))
 defers : List (D × List D)
inductive AE where
 | normal
 | exit (id : Nat)
 | ret
inductive MCode where
 | skip
 | region (quiet : Bool) (ops : List MOper)
 /-- A region in every order that its edges allow. -/
 | regionA (ops : List MOper) (pre : List (List Nat))
 /-- A region that may be run by one of these, in the order of the text; else in every order. -/
 | regionQ (alts : List (Bool × List MOper)) (ops : List MOper) (pre : List (List Nat))
 | seq (a b : MCode)
 | cond (x : X) (a b : MCode)
 | block (id : Nat) (c : MCode)
 | loop (keep : List Nat) (c : MCode)
 | exit (id : Nat)
 | ret
 /-- A range over a map, and what comes behind it up to the function's end: in every order of the entries. -/
 | rangeM (R : MRange) (body rest : MCode)
 /-- What a statement does, told by a function. -/
 | nat (N : Fr → List Obj → Option (AE × Fr × List Obj))
 deriving Inhabited
inductive MRes where
 | tmp (t : Nat)
 | cell (t : Nat) (agg : Bool) (size : Nat)
 deriving Inhabited
structure MFunc where
 nparams : Nat
 ntmps : Nat
 results : List MRes
 body : MCode
 deriving Inhabited
abbrev St := List Obj
def Fr.at (fr : Fr) (t : Nat) : D := fr.slots.getD t .junk
def Fr.set (fr : Fr) (t : Nat) (d : D) : Fr := { fr with slots := fr.slots.set t d }
def Fr.setBox (fr : Fr) (t : Nat) (b : Option (List D)) : Fr := { fr with boxes := fr.boxes.set t b }
def Fr.boxAt (fr : Fr) (t : Nat) : Option (List D) := (fr.boxes[t]?).getD none
def Fr.val (fr : Fr) : X → D
 | .tmp t => (fr.at t).strip
 | .const d => d.strip
def Fr.arg (fr : Fr) : X → D
 | .tmp t => (fr.val (.tmp t)).deep
 | .const d => d.strip
def Fr.take (fr : Fr) : X → D × Fr
 | .tmp t => (fr.at t, fr.set t (fr.at t).strip)
 | .const d => (d, fr)
def killL (t : Nat) : D → D
 | .lptr s off => if s = t then .junk else .lptr s off
 | d => d
def relinkL (t o : Nat) : D → D
 | .lptr s off => if s = t then .ptr o off else .lptr s off
 | d => d
def Fr.newBox (fr : Fr) (t : Nat) (cs : List D) : Fr :=
 match fr.boxAt t with
 | none => fr.setBox t (some cs)
 | some _ => { fr with slots := fr.slots.map (killL t), boxes := fr.boxes.set t (some cs) }
def Fr.promote (fr : Fr) (σ : St) (t : Nat) : Option (Fr × St) :=
 match fr.boxAt t with
 | some cs => some ({ fr with slots := fr.slots.map (relinkL t σ.length), boxes := fr.boxes.set t none }, σ ++ [.cells cs])
 | none => none
def Fr.ownP (fr : Fr) (σ : St) (x : X) : Option (Fr × St) :=
 match fr.val x with
 | .lptr s _ => fr.promote σ s
 | _ => some (fr, σ)
def Fr.promoteX (fr : Fr) (σ : St) : X → Option (D × Fr × St)
 | .const d => some (d.strip, fr, σ)
 | .tmp t =>
  match fr.at t with
  | .lptr s off => (fr.promote σ s).map fun (fr', σ') => (.ptr σ.length off, fr', σ')
  | d => some (d.deep, fr, σ)
def Fr.promoteAll (fr : Fr) (σ : St) : List X → Option (List D × Fr × St)
 | [] => some ([], fr, σ)
 | x :: xs =>
  match fr.promoteX σ x with
  | some (d, fr, σ) => (Fr.promoteAll fr σ xs).map fun (ds, r) => (d :: ds, r)
  | none => none
def setAt {α : Type} (cs : List α) (off : Nat) : List α → List α
 | [] => cs
 | d :: ds => setAt (cs.set off d) (off + 1) ds
def cellsAt (fr : Fr) (σ : St) : D → Option (List D)
 | .ref cs => some cs
 | .lptr t off => (fr.boxAt t).map (·.drop off)
 | .ptr o off =>
  match σ[o]? with
  | some (.cells cs) => some (cs.drop off)
  | _ => none
 | _ => none
def storeAt (fr : Fr) (σ : St) (a : D) (ds : List D) : Option (Fr × St) :=
 match a with
 | .lptr t off =>
  match fr.boxAt t with
  | some cs => if off + ds.length ≤ cs.length then some (fr.setBox t (some (setAt cs off ds)), σ) else none
  | none => none
 | .ptr o off =>
  match σ[o]? with
  | some (.cells cs) => if off + ds.length ≤ cs.length then some (fr, σ.set o (.cells (setAt cs off ds))) else none
  | _ => none
 | _ => none
def shiftD (op : BinOp) (k : IntKind) (x y : Int) : Option D :=
 if y < 0 then none else
 match op with
 | .shl => some (.int k (k.wrap (x * 2 ^ (min y.toNat k.bits))))
 | .shr => some (.int k (x.fdiv (2 ^ (min y.toNat k.bits))))
 | _ => none
def intD (op : BinOp) (k : IntKind) (x y : Int) : Option D :=
 match op with
 | .add => some (.int k (k.wrap (x + y)))
 | .sub => some (.int k (k.wrap (x - y)))
 | .mul => some (.int k (k.wrap (x * y)))
 | .quo => if y = 0 then none else some (.int k (k.wrap (x.tdiv y)))
 | .rem => if y = 0 then none else some (.int k (x.tmod y))
 | .and => some (.int k (k.wrap (BitVec.ofInt k.bits x &&& BitVec.ofInt k.bits y).toNat))
 | .or => some (.int k (k.wrap (BitVec.ofInt k.bits x ||| BitVec.ofInt k.bits y).toNat))
 | .xor => some (.int k (k.wrap (BitVec.ofInt k.bits x ^^^ BitVec.ofInt k.bits y).toNat))
 | .eql => some (.bool (x == y))
 | .neq => some (.bool (x != y))
 | .lss => some (.bool (decide (x < y)))
 | .leq => some (.bool (decide (x ≤ y)))
 | .gtr => some (.bool (decide (x > y)))
 | .geq => some (.bool (decide (x ≥ y)))
 | _ => none
def strD (op : BinOp) (x y : List UInt8) : Option D :=
 match op with
 | .add => if x.length + y.length ≤ 140737488355328 then some (.str (x ++ y)) else none
 | .eql => some (.bool (x == y))
 | .neq => some (.bool (!(x == y)))
 | .lss => some (.bool (Op.bytesLess x y))
 | .leq => some (.bool (Op.bytesLess x y || x == y))
 | .gtr => some (.bool (!(Op.bytesLess x y || x == y)))
 | .geq => some (.bool (!(Op.bytesLess x y)))
 | _ => none
def binD (op : BinOp) : D → D → Option D
 | .int k x, .int k' y =>
  match op with
  | .shl => shiftD .shl k x y
  | .shr => shiftD .shr k x y
  | op => if k = k' then intD op k x y else none
 | .str x, .str y => strD op x y
 | _, _ => none
def eqbD (neg : Bool) : D → D → Option D
 | .bool x, .bool y => some (.bool ((x == y) != neg))
 | _, _ => none
def eqnD (neg : Bool) : D → Option D
 | .nilp => some (.bool (!neg))
 | .ptr _ _ | .lptr _ _ | .ref _ => some (.bool neg)
 | _ => none
def unD (op : UnOp) : D → Option D
 | .int k n =>
  match op with
  | .neg => some (.int k (k.wrap (0 - n)))
  | _ => none
 | .bool b =>
  match op with
  | .not => some (.bool (!b))
  | _ => none
 | _ => none
inductive LK where
 | b
 | i (k : IntKind)
 | s
 deriving DecidableEq
def LK.fits : LK → D → Bool
 | .b, .bool _ => true
 | .i k, .int k' _ => decide (k = k')
 | .s, .str _ => true
 | _, _ => false
def fitL : List LK → List D → Bool
 | [], [] => true
 | k :: ks, d :: ds => k.fits d && fitL ks ds
 | _, _ => false
def leafEq : D → D → Bool
 | .bool a, .bool b => a == b
 | .int _ a, .int _ b => a == b
 | .str a, .str b => a == b
 | _, _ => false
def eqLs : List D → List D → Bool
 | [], [] => true
 | x :: xs, y :: ys => leafEq x y && eqLs xs ys
 | _, _ => false
def LK.code : LK → Nat
 | .b => 1
 | .s => 2
 | .i .i8 => 3
 | .i .i16 => 4
 | .i .i32 => 5
 | .i .i64 => 6
 | .i .u8 => 7
 | .i .u16 => 8
 | .i .u32 => 9
 | .i .u64 => 10
def lkOf : Nat → Option LK
 | 1 => some .b
 | 2 => some .s
 | 3 => some (.i .i8)
 | 4 => some (.i .i16)
 | 5 => some (.i .i32)
 | 6 => some (.i .i64)
 | 7 => some (.i .u8)
 | 8 => some (.i .u16)
 | 9 => some (.i .u32)
 | 10 => some (.i .u64)
 | _ => none
def decK : Nat → Nat → List LK
 | 0, _ => []
 | f + 1, n =>
  match lkOf (n % 16) with
  | some k => k :: decK f (n / 16)
  | none => []
def keyLs (n : Nat) : List LK := decK 32 n
def encK : List LK → Nat
 | [] => 0
 | k :: ks => k.code + 16 * encK ks
def eqaD (n : Nat) (neg : Bool) : D → D → Option D
 | .agg xs, .agg ys => if fitL (keyLs n) xs = true ∧ fitL (keyLs n) ys = true then some (.bool (eqLs xs ys != neg)) else none
 | _, _ => none
def eqKey : Nat → D → D → Option Bool
 | 0, .int k a, .int k' b => if k = k' then some (a == b) else none
 | 1, .str a, .str b => some (a == b)
 | 2, .bool a, .bool b => some (a == b)
 | n + 3, .agg xs, .agg ys => if fitL (keyLs n) xs = true ∧ fitL (keyLs n) ys = true then some (eqLs xs ys) else none
 | _, _, _ => none
def findKey (kk : Nat) (k : D) : List (D × D) → Option (Option D)
 | [] => some none
 | (k', v) :: es =>
  match eqKey kk k k' with
  | some true => some (some v)
  | some false => findKey kk k es
  | none => none
def putKey (kk : Nat) (k x : D) : List (D × D) → Option (List (D × D))
 | [] => some [(k, x)]
 | (k', v) :: es =>
  match eqKey kk k k' with
  | some true => some ((k, x) :: es)
  | some false => (putKey kk k x es).map ((k', v) :: ·)
  | none => none
def delKey (kk : Nat) (k : D) : List (D × D) → Option (List (D × D))
 | [] => some []
 | (k', v) :: es =>
  match eqKey kk k k' with
  | some true => some es
  | some false => (delKey kk k es).map ((k', v) :: ·)
  | none => none
def keyD : Nat → D → Bool
 | 0, .int _ _ | 1, .str _ | 2, .bool _ => true
 | n + 3, .agg xs => fitL (keyLs n) xs
 | _, _ => false
def fillD (cs : List D) : List (Nat × Nat × D) → Option (List D)
 | [] => some cs
 | (off, size, d) :: rest =>
  if d.cells.length = size ∧ off + size ≤ cs.length ∧ d.cells.all D.plain then fillD (setAt cs off (d.cells.map D.strip)) rest else none
def fillE (es : List (List D)) (esz : Nat) : List (Nat × D) → Option (List (List D))
 | [] => some es
 | (i, d) :: rest =>
  if d.cells.length = esz ∧ i < es.length ∧ d.cells.all D.pure1 then fillE (es.set i (d.cells.map D.strip)) esz rest else none
def chunk (esz : Nat) (cs : List D) : Nat → List (List D)
 | 0 => []
 | n + 1 => cs.take esz :: chunk esz (cs.drop esz) n
def elems (σ : St) : D → Option (List (List D))
 | .sl es _ => some es
 | .msl o off n esz =>
  match σ[o]? with
  | some (.cells cs) => if off + n * esz ≤ cs.length ∧ 0 < esz ∧ cs.all D.pure1 then some (chunk esz ((cs.drop off).map D.strip) n) else none
  | _ => none
 | _ => none
def intOf? : D → Option Int
 | .int _ n => some n
 | _ => none
def loD : Option D → Option Nat
 | none => some 0
 | some d => (intOf? d).bind fun n => if 0 ≤ n then some n.toNat else none
def hiD (len : Nat) : Option D → Option Nat
 | none => some len
 | some d => (intOf? d).bind fun n => if 0 ≤ n then some n.toNat else none
def Fr.optVal (fr : Fr) : Option X → Option D
 | none => none
 | some x => some (fr.val x)
def room : Nat := 140737488355328
def freeze1 (σ : St) : D → Option D
 | .bool b => some (.bool b)
 | .int k n => some (.int k n)
 | .str s => some (.str s)
 | .nilp => some .nilp
 | .nilm => some .nilm
 | .nilf => some .nilf
 | .ref cs => some (.ref cs)
 | .sl es own => some (.sl es own)
 | .func f [] => some (.func f [])
 | .msl o off n esz => (elems σ (.msl o off n esz)).map (.sl · none)
 | _ => none
def freezeL (σ : St) : List D → Option (List D)
 | [] => some []
 | d :: ds =>
  match freeze1 σ d with
  | some d => (freezeL σ ds).map (d.strip :: ·)
  | none => none
def freezeT (σ : St) : List D → Option (List D)
 | [] => some []
 | .agg cs :: ds =>
  match freezeL σ cs with
  | some cs => (freezeT σ ds).map (.agg cs :: ·)
  | none => none
 | d :: ds =>
  match freeze1 σ d with
  | some d => (freezeT σ ds).map (d.strip :: ·)
  | none => none
def freeze (σ : St) : D → Option D
 | .agg cs => (freezeL σ cs).map .agg
 | .tup vs => (freezeT σ vs).map .tup
 | d => freeze1 σ d
def scalar1 : D → Bool
 | .bool _ | .int _ _ | .str _ | .nilp => true
 | _ => false
def calm1 : D → Bool
 | .bool _ | .int _ _ | .str _ | .nilp | .nilm | .nilf | .ref _ | .sl _ none | .func _ [] => true
 | _ => false
def scalar : D → Bool
 | .tup vs => vs.all scalar1
 | d => scalar1 d
def pureArg : D → Bool
 | .agg cs => cs.all D.pure1
 | .msl .. => true
 | d => d.pure1
def snap (σ : St) : List D → Option (List D × List Nat)
 | [] => some ([], [])
 | .msl o off n esz :: ds =>
  match elems σ (.msl o off n esz), snap σ ds with
  | some es, some (r, os) => some (.sl es none :: r, o :: os)
  | _, _ => none
 | d :: ds => (snap σ ds).map fun (r, os) => (d :: r, os)
def killAll (σ : St) : List Nat → St
 | [] => σ
 | o :: os => killAll (σ.set o .dead) os
abbrev Cal := Nat → List D → St → Option (D × St)
def doCall (cal : Cal) (f : Nat) (args : List D) (σ : St) : Option (D × St) :=
 if args.all pureArg then
  match snap σ args with
  | none => none
  | some (args', os) =>
   match cal f args' [] with
   | none => if args.all D.notL then cal f args σ else none
   | some (r, σc) =>
    match freeze σc r with
    | none => if args.all D.notL then cal f args σ else none
    | some r' => some (r', if os.isEmpty || scalar r' then σ else killAll σ os)
 else if args.all D.notL then cal f args σ else none
def doCallQ (cal : Cal) (f : Nat) (args : List D) (σ : St) : Option D :=
 if args.all pureArg then
  match snap σ args with
  | none => none
  | some (args', os) =>
   match cal f args' [] with
   | none => none
   | some (r, σc) =>
    match freeze σc r with
    | none => none
    | some r' => if os.isEmpty || scalar r' then some r' else none
 else none
def pureD : D → Bool
 | .agg cs => cs.all D.pure1
 | .tup vs => vs.all fun | .agg cs => cs.all D.pure1 | d => d.pure1
 | d => d.pure1
def maxD : D → List D → Option D
 | .int k a, [] => some (.int k a)
 | .int k a, .int k' b :: ds => if k = k' then maxD (.int k (if b > a then b else a)) ds else none
 | _, _ => none
def minD : D → List D → Option D
 | .int k a, [] => some (.int k a)
 | .int k a, .int k' b :: ds => if k = k' then minD (.int k (if b < a then b else a)) ds else none
 | _, _ => none
def mapOf (σ : St) (o : Nat) : Option (List (D × D)) :=
 match σ[o]? with
 | some (.map es) => some es
 | some (.mapR es) => some es
 | _ => none
def D.inBox (t : Nat) : D → Bool
 | .lptr s _ => s == t
 | _ => false
def okL : D → Bool
 | .lptr _ _ | .ref _ => true
 | _ => false
def okP : D → Bool
 | .ptr _ _ | .ref _ => true
 | _ => false
def okK (t off : Nat) : D → Bool
 | .lptr s o => s == t && o == off
 | _ => false
def okT : D → Bool
 | .lptr _ _ => true
 | _ => false
def evalOp (cal : Cal) (quiet : Bool) (dst : Option Nat) (op : MOp) (fr : Fr) (σ : St) : Option (D × Fr × St) :=
 match op with
 | .move x steal =>
  if steal then let (d, fr) := fr.take x; some (d, fr, σ) else some (fr.val x, fr, σ)
 | .assign x => let (d, fr) := fr.take x; some (d, fr, σ)
 | .pick c a b =>
  match fr.val c with
  | .bool true => some (fr.val a, fr, σ)
  | .bool false => some (fr.val b, fr, σ)
  | _ => none
 | .alloc zero =>
  match dst with
  | some t => some (.lptr t 0, fr.newBox t zero, σ)
  | none => none
 | .box x =>
  match dst with
  | some t =>
   let cs := (fr.val x).cells
   if cs.all D.plain then some (.lptr t 0, fr.newBox t (fr.val x).raw, σ) else none
  | none => none
 | .build zero parts => (fillD zero (parts.map fun (o, s, x) => (o, s, fr.val x))).map fun cs => (.agg cs, fr, σ)
 | .buildSlice e esz n zero parts =>
  (fillE (List.replicate n zero) esz (parts.map fun (i, x) => (i, fr.val x))).map fun es => (.sl es (some e), fr, σ)
 | .load agg size a steal =>
  match cellsAt fr σ (fr.val a) with
  | none => none
  | some cs =>
   if agg then (if size ≤ cs.length then some (.agg ((cs.take size).map D.strip), fr, σ) else none)
   else match cs with
    | [] => none
    | d :: _ =>
     if steal then (storeAt fr σ (fr.val a) [d.strip]).map fun (fr, σ) => (d, fr, σ)
     else some (d.strip, fr, σ)
 | .store size a x =>
  let (d, fr') := fr.take x
  if d.cells.length = size ∧ d.cells.all D.plain then (storeAt fr' σ (fr.val a) d.raw).map fun (fr, σ) => (.junk, fr, σ) else none
 | .nilCheck x =>
  match fr.val x with
  | .ptr o off => some (.ptr o off, fr, σ)
  | .lptr t off => some (.lptr t off, fr, σ)
  | .ref cs => some (.ref cs, fr, σ)
  | _ => none
 | .bin op x y => (binD op (fr.val x) (fr.val y)).map (·, fr, σ)
 | .eqb neg x y => (eqbD neg (fr.val x) (fr.val y)).map (·, fr, σ)
 | .eqn neg x => (eqnD neg (fr.val x)).map (·, fr, σ)
 | .eqA n neg x y => (eqaD n neg (fr.val x) (fr.val y)).map (·, fr, σ)
 | .un op x => (unD op (fr.val x)).map (·, fr, σ)
 | .conv k x =>
  match fr.val x with
  | .int _ n => some (.int k (k.wrap n), fr, σ)
  | _ => none
 | .mkfunc f caps => (fr.promoteAll σ caps).map fun (ds, fr, σ) => (.func f ds, fr, σ)
 | .mkmap => some (.map σ.length, fr, σ ++ [.map []])
 | .mkslice esz bytes zero len cap =>
  match fr.val len, fr.val cap with
  | .int .i64 n, .int .i64 c =>
   if 0 ≤ n ∧ n = c ∧ n * bytes ≤ 140737488355328 ∧ n < 4611686018427387904 then
    some (.msl σ.length 0 n.toNat esz, fr, σ ++ [.cells (List.replicate n.toNat zero).flatten])
   else none
  | _, _ => none
 | .slice esz x lo hi =>
  match fr.val x with
  | .sl es _ =>
   match loD (fr.optVal lo), hiD es.length (fr.optVal hi) with
   | some l, some h => if l ≤ h ∧ h ≤ es.length ∧ (es.all fun e => e.length == esz) then some (.sl ((es.drop l).take (h - l)) none, fr, σ) else none
   | _, _ => none
  | .msl o off n esz' =>
   match loD (fr.optVal lo), hiD n (fr.optVal hi) with
   | some l, some h =>
    if l ≤ h ∧ h ≤ n ∧ esz' = esz then (if l = n ∧ 0 < l then some (.sl [] none, fr, σ) else some (.msl o (off + l * esz) (h - l) esz, fr, σ)) else none
   | _, _ => none
  | _ => none
 | .sliceStr x lo hi =>
  match fr.val x with
  | .str s =>
   match loD (fr.optVal lo), hiD s.length (fr.optVal hi) with
   | some l, some h => if l ≤ h ∧ h ≤ s.length then some (.str ((s.drop l).take (h - l)), fr, σ) else none
   | _, _ => none
  | _ => none
 | .fieldAddr off x =>
  match fr.val x with
  | .ref cs => some (.ref (cs.drop off), fr, σ)
  | .lptr t o => some (.lptr t (o + off), fr, σ)
  | .ptr o a => some (.ptr o (a + off), fr, σ)
  | _ => none
 | .field agg off size x =>
  match fr.val x with
  | .agg cs =>
   if agg then (if off + size ≤ cs.length then some (.agg ((cs.drop off).take size), fr, σ) else none)
   else (cs[off]?).map (·.strip, fr, σ)
  | _ => none
 | .indexAddr esz x i =>
  match intOf? (fr.val i) with
  | none => none
  | some i =>
   if 0 ≤ i then
    match fr.val x with
    | .sl es _ =>
     match es[i.toNat]? with
     | some e => if e.length = esz then some (.ref e, fr, σ) else none
     | none => none
    | .msl o off n esz' => if i < n ∧ esz' = esz then some (.ptr o (off + i.toNat * esz), fr, σ) else none
    | _ => none
   else none
 | .indexArr ad agg len esz x i =>
  match intOf? (fr.val i) with
  | none => none
  | some i =>
   if 0 ≤ i ∧ i < len then
    if ad then
     match fr.val x with
     | .lptr t o => some (.lptr t (o + i.toNat * esz), fr, σ)
     | .ptr o a => some (.ptr o (a + i.toNat * esz), fr, σ)
     | _ => none
    else
     match fr.val x with
     | .agg cs =>
      if agg then (if (i.toNat + 1) * esz ≤ cs.length then some (.agg ((cs.drop (i.toNat * esz)).take esz), fr, σ) else none)
      else if esz = 1 then (cs[i.toNat]?).map (·.strip, fr, σ) else none
     | _ => none
   else none
 | .lookup kk agg zero x i ok =>
  match fr.val x with
  | .map o =>
   match mapOf σ o with
   | some es =>
    if keyD kk (fr.val i) then
     match findKey kk (fr.val i) es with
     | some (some v) => some (if ok then .tup [v, .bool true] else v, fr, σ)
     | some none =>
      match zero with
      | z :: rest =>
       if agg then some (if ok then .tup [.agg (z :: rest), .bool false] else .agg (z :: rest), fr, σ)
       else if rest.isEmpty then some (if ok then .tup [z.strip, .bool false] else z.strip, fr, σ) else none
      | [] => none
     | none => none
    else none
   | _ => none
  | _ => none
 | .mapUpdate kk m k x =>
  match fr.val m with
  | .map o =>
   match σ[o]? with
   | some (.map es) =>
    if keyD kk (fr.val k) ∧ (fr.val x).notL then (putKey kk (fr.val k) (fr.val x) es).map fun es => (.junk, fr, σ.set o (.map es)) else none
   | _ => none
  | _ => none
 | .mapUpdateP kk m k x =>
  match fr.ownP σ x with
  | none => none
  | some (fr, σ) =>
   match fr.val m with
   | .map o =>
    match σ[o]? with
    | some (.map es) =>
     if keyD kk (fr.val k) ∧ (fr.val x).notL then (putKey kk (fr.val k) (fr.val x) es).map fun es => (.junk, fr, σ.set o (.map es)) else none
    | _ => none
   | _ => none
 | .extract x i =>
  match fr.val x with
  | .tup vs => (vs[i]?).map (·.strip, fr, σ)
  | _ => none
 | .len 0 x =>
  match fr.val x with
  | .sl es _ => some (.int .i64 es.length, fr, σ)
  | .msl _ _ n _ => some (.int .i64 n, fr, σ)
  | _ => none
 | .len 1 x =>
  match fr.val x with
  | .str s => some (.int .i64 s.length, fr, σ)
  | _ => none
 | .len _ x =>
  match fr.val x with
  | .map o =>
   match mapOf σ o with
   | some es => some (.int .i64 es.length, fr, σ)
   | _ => none
  | _ => none
 | .append e esz bytes mutable x y =>
  match elems σ (fr.val y) with
  | none => none
  | some ys =>
   if (ys.all fun y => y.length == esz) then
    if mutable then
     match fr.val x with
     | .msl o off n esz' =>
      match σ[o]?, σ[o + 1]? with
      | some (.cells cs), some (.row e') =>
       if esz' = esz ∧ off = 0 ∧ e' = e ∧ 0 < ys.length ∧ n * esz ≤ cs.length ∧ (cs.take (n * esz)).all calm1 ∧ ys.flatten.all calm1 ∧ (n + ys.length) * bytes ≤ room ∧ n + ys.length < 4611686018427387904 then
        some (.msl σ.length 0 (n + ys.length) esz, fr, σ.set o .dead ++ [.cells (cs.take (n * esz) ++ ys.flatten), .row e])
       else none
      | _, _ => none
     | .sl [] _ =>
      match fr.take x with
      | (.sl [] (some e'), fr) =>
       if e' = e ∧ 0 < ys.length ∧ ys.flatten.all calm1 ∧ ys.length * bytes ≤ room ∧ ys.length < 4611686018427387904 then some (.msl σ.length 0 ys.length esz, fr, σ ++ [.cells ys.flatten, .row e]) else none
      | _ => none
     | _ => none
    else
     let (d, fr) := fr.take x
     match d with
     | .sl xs (some e') =>
      if e' = e ∧ (xs.length + ys.length) * bytes ≤ room ∧ xs.length + ys.length < 4611686018427387904 then some (.sl (xs ++ ys) (some e), fr, σ) else none
     | _ => none
   else none
 | .max xs =>
  match xs.map fr.val with
  | d :: ds => (maxD d ds).map (·, fr, σ)
  | [] => none
 | .min xs =>
  match xs.map fr.val with
  | d :: ds => (minD d ds).map (·, fr, σ)
  | [] => none
 | .bad => none
 | .call f args =>
  if quiet then (doCallQ cal f (args.map fun x => (fr.val x).deep) σ).map fun r => (r, fr, σ) else
  match fr.promoteAll σ args with
  | none => none
  | some (ds, fr, σ) => (doCall cal f ds σ).map fun (r, σ) => (r, fr, σ)
 | .callv x args =>
  match fr.val x with
  | .func f caps =>
   if quiet then (doCallQ cal f ((args.map fun x => (fr.val x).deep) ++ caps) σ).map fun r => (r, fr, σ) else
   match fr.promoteAll σ args with
   | none => none
   | some (ds, fr, σ) => (doCall cal f (ds ++ caps) σ).map fun (r, σ) => (r, fr, σ)
  | _ => none
 | .defer x args =>
  match fr.val x with
  | .func f caps =>
   match fr.promoteAll σ args with
   | none => none
   | some (ds, fr, σ) => some (.junk, { fr with defers := (.func f caps, ds) :: fr.defers }, σ)
  | _ => none
 | .loadA t agg size a =>
  if (fr.val a).inBox t then none else
  match cellsAt fr σ (fr.val a) with
  | none => none
  | some cs =>
   if agg then (if size ≤ cs.length then some (.agg ((cs.take size).map D.strip), fr, σ) else none)
   else match cs with
    | [] => none
    | d :: _ => some (d.strip, fr, σ)
 | .loadL agg size a =>
  if okL (fr.val a) then
   match cellsAt fr σ (fr.val a) with
   | none => none
   | some cs =>
    if agg then (if size ≤ cs.length then some (.agg ((cs.take size).map D.strip), fr, σ) else none)
    else match cs with
     | [] => none
     | d :: _ => some (d.strip, fr, σ)
  else none
 | .storeR size t x =>
  if (fr.val (.tmp t)).inBox t then
   let (d, fr') := fr.take x
   if d.cells.length = size ∧ d.cells.all D.plain then (storeAt fr' σ (fr.val (.tmp t)) d.raw).map fun (fr, σ) => (.junk, fr, σ) else none
  else none
 | .allocR zero =>
  match dst with
  | some t => if (fr.boxAt t).isNone then some (.lptr t 0, fr.setBox t (some zero), σ) else none
  | none => none
 | .callS f args =>
  if (args.map fr.arg).all D.notL then (doCall cal f (args.map fr.arg) σ).map fun (r, σ) => (r, fr, σ) else none
 | .indexStr x i =>
  match intOf? (fr.val i) with
  | none => none
  | some i =>
   if 0 ≤ i then
    match fr.val x with
    | .str s => (s[i.toNat]?).map fun b => (.int .u8 (b.toNat : Int), fr, σ)
    | _ => none
   else none
 | .delete kk m k =>
  match fr.val m with
  | .map o =>
   match σ[o]? with
   | some (.map es) =>
    if keyD kk (fr.val k) then (delKey kk (fr.val k) es).map fun es => (.junk, fr, σ.set o (.map es)) else none
   | _ => none
  | _ => none
 | .callM f args =>
  match fr.promoteAll σ args with
  | none => none
  | some (ds, fr, σ) => if ds.all D.notL then (cal f ds σ).map fun (r, σ) => (r, fr, σ) else none
 | .loadB t agg size a =>
  if (fr.val a).inBox t then none else
  if okL (fr.val a) then
   match cellsAt fr σ (fr.val a) with
   | none => none
   | some cs =>
    if agg then (if size ≤ cs.length then some (.agg ((cs.take size).map D.strip), fr, σ) else none)
    else match cs with
     | [] => none
     | d :: _ => some (d.strip, fr, σ)
  else none
 | .loadP agg size a =>
  if okP (fr.val a) then
   match cellsAt fr σ (fr.val a) with
   | none => none
   | some cs =>
    if agg then (if size ≤ cs.length then some (.agg ((cs.take size).map D.strip), fr, σ) else none)
    else match cs with
     | [] => none
     | d :: _ => some (d.strip, fr, σ)
  else none
 | .loadT agg size a =>
  if okT (fr.val a) then
   match cellsAt fr σ (fr.val a) with
   | none => none
   | some cs =>
    if agg then (if size ≤ cs.length then some (.agg ((cs.take size).map D.strip), fr, σ) else none)
    else match cs with
     | [] => none
     | d :: _ => (storeAt fr σ (fr.val a) [d.strip]).map fun (fr, σ) => (d, fr, σ)
  else none
 | .loadK t off _ a =>
  if okK t off (fr.val a) then
   match cellsAt fr σ (fr.val a) with
   | none => none
   | some cs =>
    match cs with
     | [] => none
     | d :: _ => (storeAt fr σ (fr.val a) [d.strip]).map fun (fr, σ) => (d, fr, σ)
  else none
 | .callvS x args =>
  match fr.val x with
  | .func f caps => if (args.map fr.arg).all D.notL then (doCall cal f (args.map fr.arg ++ caps) σ).map fun (r, σ) => (r, fr, σ) else none
  | _ => none
 | .buildM e esz n zero parts =>
  match fillE (List.replicate n zero) esz (parts.map fun (i, x) => (i, fr.val x)) with
  | some es => if 0 < n ∧ es.flatten.all calm1 then some (.msl σ.length 0 n esz, fr, σ ++ [.cells es.flatten, .row e]) else none
  | none => none
 | .clear esz zero x =>
  match fr.val x with
  | .sl [] _ => some (.junk, fr, σ)
  | .msl o off n esz' =>
   if n = 0 then some (.junk, fr, σ) else
   if esz' = esz then (storeAt fr σ (.ptr o off) (List.replicate n (zero.map D.strip)).flatten).map fun (fr, σ) => (.junk, fr, σ) else none
  | _ => none
def Fr.put (fr : Fr) (dst : Option Nat) (d : D) : Fr :=
 match dst with
 | some t => fr.set t d
 | none => fr
def wantedD (fr : Fr) : Option (Nat × Bool) → Option Bool
 | none => some true
 | some (t, want) =>
  match fr.at t with
  | .bool b => some (b == want)
  | .undef => some false
  | _ => none
def runOp (cal : Cal) (quiet : Bool) (o : MOper) (fr : Fr) (σ : St) : Option (Fr × St) :=
 match wantedD fr o.guard with
 | none => none
 | some false => some (fr.put o.dst .undef, σ)
 | some true =>
  match evalOp cal quiet o.dst o.op fr σ with
  | some (d, fr, σ) => some (fr.put o.dst d, σ)
  | none => none
def runOps (cal : Cal) (quiet : Bool) : List MOper → Fr → St → Option (Fr × St)
 | [], fr, σ => some (fr, σ)
 | o :: ops, fr, σ =>
  match runOp cal quiet o fr σ with
  | some (fr, σ) => runOps cal quiet ops fr σ
  | none => none
def keptD (keep : List Nat) : D → D
 | .lptr s off => if keep.contains s then .lptr s off else .junk
 | d => d
def clearS (keep : List Nat) : Nat → List D → List D
 | _, [] => []
 | i, d :: ds => (if keep.contains i then keptD keep d else .junk) :: clearS keep (i + 1) ds
def clearB (keep : List Nat) : Nat → List (Option (List D)) → List (Option (List D))
 | _, [] => []
 | i, b :: bs => (if keep.contains i then b else none) :: clearB keep (i + 1) bs
def Fr.clear (keep : List Nat) (fr : Fr) : Fr := { fr with slots := clearS keep 0 fr.slots, boxes := clearB keep 0 fr.boxes }
abbrev RunR := Option (AE × Fr × St)
def iter (F : Fr → St → RunR) (keep : List Nat) : Nat → Fr → St → RunR
 | 0, _, _ => none
 | n + 1, fr, σ =>
  match F (fr.clear keep) σ with
  | some (.normal, fr, σ) => iter F keep n fr σ
  | r => r
mutual
def sameD : D → D → Bool
 | .junk, .junk => true
 | .undef, .undef => true
 | .nils e, .nils e' => e == e'
 | .bool b, .bool b' => b == b'
 | .int k n, .int k' n' => decide (k = k') && decide (n = n')
 | .str s, .str s' => s == s'
 | .nilp, .nilp => true
 | .nilm, .nilm => true
 | .nilf, .nilf => true
 | .ptr o f, .ptr o' f' => o == o' && f == f'
 | .lptr o f, .lptr o' f' => o == o' && f == f'
 | .ref cs, .ref cs' => sameDs cs cs'
 | .sl es o, .sl es' o' => o == o' && sameDss es es'
 | .msl a b c d, .msl a' b' c' d' => a == a' && b == b' && c == c' && d == d'
 | .map o, .map o' => o == o'
 | .func f cs, .func f' cs' => f == f' && sameDs cs cs'
 | .agg cs, .agg cs' => sameDs cs cs'
 | .tup cs, .tup cs' => sameDs cs cs'
 | _, _ => false
def sameDs : List D → List D → Bool
 | [], [] => true
 | d :: ds, e :: es => sameD d e && sameDs ds es
 | _, _ => false
def sameDss : List (List D) → List (List D) → Bool
 | [], [] => true
 | d :: ds, e :: es => sameDs d e && sameDss ds es
 | _, _ => false
end
def sameL {α : Type} (f : α → α → Bool) : List α → List α → Bool
 | [], [] => true
 | a :: as, b :: bs => f a b && sameL f as bs
 | _, _ => false
def sameB : Option (List D) → Option (List D) → Bool
 | none, none => true
 | some a, some b => sameDs a b
 | _, _ => false
def sameO : Obj → Obj → Bool
 | .cells a, .cells b => sameDs a b
 | .map a, .map b => sameL (fun x y => sameD x.1 y.1 && sameD x.2 y.2) a b
 | .dead, .dead => true
 | .row a, .row b => a == b
 | .mapR a, .mapR b => sameL (fun x y => sameD x.1 y.1 && sameD x.2 y.2) a b
 | _, _ => false
def sameFr (a b : Fr) : Bool := sameDs a.slots b.slots && sameL sameB a.boxes b.boxes && sameL (fun x y => sameD x.1 y.1 && sameDs x.2 y.2) a.defers b.defers
def sameS (a b : Fr × St) : Bool := sameFr a.1 b.1 && sameL sameO a.2 b.2
abbrev AnyLay := List (List Bool × (Fr × St))
def anyAdd : AnyLay → List Bool → Fr × St → Option AnyLay
 | [], k, s => some [(k, s)]
 | x :: L, k, s => if x.1 == k then (if sameS s x.2 then some (x :: L) else none) else (anyAdd L k s).map (x :: ·)
def anyMay (pre : List (List Nat)) (m : List Bool) (j : Nat) : Bool := !m.getD j true && (pre.getD j []).all (m.getD · false)
def anyFrom (cal : Cal) (q : Bool) (ms : List MOper) (pre : List (List Nat)) (m : List Bool) (s : Fr × St) : List Nat → AnyLay → Option AnyLay
 | [], L => some L
 | j :: js, L =>
  if anyMay pre m j then
   match ms[j]? with
   | some o =>
    match runOp cal q o s.1 s.2 with
    | some s' =>
     match anyAdd L (m.set j true) s' with
     | some L' => anyFrom cal q ms pre m s js L'
     | none => none
    | none => none
   | none => none
  else anyFrom cal q ms pre m s js L
def anyStep (cal : Cal) (q : Bool) (ms : List MOper) (pre : List (List Nat)) : AnyLay → AnyLay → Option AnyLay
 | [], L => some L
 | x :: xs, L =>
  match anyFrom cal q ms pre x.1 x.2 (List.range ms.length) L with
  | some L' => anyStep cal q ms pre xs L'
  | none => none
def anyLays (cal : Cal) (q : Bool) (ms : List MOper) (pre : List (List Nat)) : Nat → AnyLay → Option (Fr × St)
 | 0, [x] => some x.2
 | 0, _ => none
 | n + 1, L =>
  match anyStep cal q ms pre L [] with
  | some L' => anyLays cal q ms pre n L'
  | none => none
def runAny (cal : Cal) (q : Bool) (ms : List MOper) (pre : List (List Nat)) (fr : Fr) (σ : St) : Option (Fr × St) :=
 anyLays cal q ms pre ms.length [(List.replicate ms.length false, (fr, σ))]
def runAlts (cal : Cal) : List (Bool × List MOper) → Fr → St → Option (Fr × St)
 | [], _, _ => none
 | (q, ops) :: alts, fr, σ =>
  match runOps cal q ops fr σ with
  | some r => some r
  | none => runAlts cal alts fr σ
def insAll {α : Type} (x : α) : List α → List (List α)
 | [] => [[x]]
 | y :: ys => (x :: y :: ys) :: (insAll x ys).map (y :: ·)
def permsOf {α : Type} : List α → List (List α)
 | [] => [[]]
 | x :: xs => (permsOf xs).flatMap (insAll x)
def samePairs (a b : List (D × D)) : Bool := sameL (fun x y => sameD x.1 y.1 && sameD x.2 y.2) a b
def isIt (R : MRange) (n0 : Nat) (fr : Fr) : Bool :=
 match fr.val (.tmp R.it) with
 | .ptr n 0 => n == n0
 | _ => false
def askM (cal : Cal) (R : MRange) (n0 : Nat) (b : Bool) (t : List D) (fr : Fr) (σ : St) : Option (Fr × St) :=
 if isIt R n0 (fr.clear R.keep) then
  match runOps cal false [R.ext] ((fr.clear R.keep).put (some R.tupN) (.tup (.bool b :: t))) σ with
  | some (fr, σ) =>
   match fr.val (.tmp R.okT) with
   | .bool b' => if b' = b ∧ isIt R n0 fr = true then some (fr, σ) else none
   | _ => none
  | none => none
 else none
def roundsM (cal : Cal) (F : Fr → St → RunR) (R : MRange) (n0 : Nat) : List (D × D) → Fr → St → RunR
 | [], fr, σ => (askM cal R n0 false [] fr σ).map fun (fr, σ) => (.normal, fr, σ)
 | e :: p, fr, σ =>
  match askM cal R n0 true [.junk, .junk] fr σ with
  | none => none
  | some (fr, σ) =>
   match runOps cal false R.tail (fr.put (some R.tupE) (.tup [e.1, e.2])) σ with
   | none => none
   | some (fr, σ) =>
    match F fr σ with
    | none => none
    | some (.normal, fr, σ) => roundsM cal F R n0 p fr σ
    | some (.exit i, fr, σ) => if i = R.idIn then roundsM cal F R n0 p fr σ else if i = R.idOut then some (.normal, fr, σ) else some (.exit i, fr, σ)
    | some (.ret, fr, σ) => some (.ret, fr, σ)
def killFrom (n0 : Nat) (σ : St) : St := σ.take n0 ++ List.replicate (σ.length - n0) .dead
def endOf (R : MRange) (n0 : Nat) (r : AE × Fr × St) : AE × Fr × St :=
 match r with
 | (.ret, fr, σ) => (.ret, fr.clear R.res, if ((fr.clear R.res).slots.all fun d => pureD d || (match d with | .junk => true | _ => false)) && (fr.clear R.res).boxes.all Option.isNone then killFrom n0 σ else σ)
 | r => r
def sameAE : AE → AE → Bool
 | .normal, .normal => true
 | .exit i, .exit j => i == j
 | .ret, .ret => true
 | _, _ => false
def sameR (a b : AE × Fr × St) : Bool := sameAE a.1 b.1 && sameS a.2 b.2
def agreeR : List RunR → RunR
 | [] => none
 | r :: rs =>
  match r with
  | none => none
  | some r => if rs.all fun x => (match x with | some y => sameR r y | none => false) then some r else none
def unlockM (o : Nat) (es : List (D × D)) (r : AE × Fr × St) : RunR :=
 match r.2.2[o]? with
 | some (.mapR es') => if samePairs es es' then some (r.1, r.2.1, r.2.2.set o (.map es)) else none
 | _ => none
def afterM (R : MRange) (o : Nat) (es : List (D × D)) (n0 : Nat) (rest : Fr → St → RunR) (r : RunR) : RunR :=
 match r with
 | none => none
 | some r =>
  match unlockM o es r with
  | some (.normal, fr, σ') => (rest fr σ').map (endOf R n0)
  | some r => some (endOf R n0 r)
  | none => none
def midM (R : MRange) (o : Nat) (es : List (D × D)) (r : RunR) : RunR :=
 match r with
 | none => none
 | some r => (unlockM o es r).map fun r => (r.1, r.2.1.clear R.keep, r.2.2)
def allM (R : MRange) (o : Nat) (es : List (D × D)) (n0 : Nat) (rest : Fr → St → RunR) (xs : List RunR) : RunR :=
 match agreeR (xs.map (midM R o es)) with
 | some (.normal, fr, σ) => (rest fr σ).map (endOf R n0)
 | some r => some (endOf R n0 r)
 | none => agreeR (xs.map (afterM R o es n0 rest))
def runC (cal : Cal) (fuel : Nat) : MCode → Fr → St → RunR
 | .skip, fr, σ => some (.normal, fr, σ)
 | .region quiet ops, fr, σ => (runOps cal quiet ops fr σ).map fun (fr, σ) => (.normal, fr, σ)
 | .regionA ops pre, fr, σ => (runAny cal false ops pre fr σ).map fun (fr, σ) => (.normal, fr, σ)
 | .regionQ alts ops pre, fr, σ =>
  match runAlts cal alts fr σ with
  | some (fr, σ) => some (.normal, fr, σ)
  | none => (runAny cal false ops pre fr σ).map fun (fr, σ) => (.normal, fr, σ)
 | .seq a b, fr, σ =>
  match runC cal fuel a fr σ with
  | some (.normal, fr, σ) => runC cal fuel b fr σ
  | r => r
 | .cond x a b, fr, σ =>
  match fr.val x with
  | .bool true => runC cal fuel a fr σ
  | .bool false => runC cal fuel b fr σ
  | _ => none
 | .block id c, fr, σ =>
  match runC cal fuel c fr σ with
  | some (.exit i, fr, σ) => if i = id then some (.normal, fr, σ) else some (.exit i, fr, σ)
  | r => r
 | .loop keep c, fr, σ => iter (runC cal fuel c) keep fuel fr σ
 | .exit id, fr, σ => some (.exit id, fr, σ)
 | .ret, fr, σ => some (.ret, fr, σ)
 | .rangeM R body rest, fr, σ =>
  match runOps cal false R.pre fr σ with
  | none => none
  | some (fr, σ) =>
   match fr.val R.m with
   | .map o =>
    match σ[o]? with
    | some (.map es) =>
     allM R o es σ.length (runC cal fuel rest) ((permsOf es).map fun p => roundsM cal (runC cal fuel body) R σ.length p (fr.put (some R.it) (.ptr σ.length 0)) (σ.set o (.mapR es) ++ [.dead]))
    | _ => none
   | _ => none
 | .nat N, fr, σ => N fr σ
def runDefers (cal : Cal) : List (D × List D) → St → Option St
 | [], σ => some σ
 | (.func f caps, args) :: ds, σ =>
  if (args ++ caps).all D.notL then
   match cal f (args ++ caps) σ with
   | some (_, σ) => runDefers cal ds σ
   | none => none
  else none
 | _ :: _, _ => none
def resD (fr : Fr) (σ : St) : MRes → Option D
 | .tmp t => some (fr.at t).bare
 | .cell t agg size =>
  match cellsAt fr σ (fr.at t) with
  | none => none
  | some cs =>
   if agg then (if size ≤ cs.length then some (.agg ((cs.take size).map D.strip)) else none)
   else match cs with
    | [] => none
    | d :: _ => some d.strip
def resAll (fr : Fr) (σ : St) : List MRes → Option (List D)
 | [] => some []
 | r :: rs =>
  match resD fr σ r with
  | some d => (resAll fr σ rs).map (d.strip :: ·)
  | none => none
def resultOf (fr : Fr) (σ : St) : List MRes → Option (D × St)
 | [r] =>
  match resD fr σ r with
  | some (.lptr t off) => (fr.promote σ t).map fun (_, σ') => (.ptr σ.length off, σ')
  | some d => some (d, σ)
  | none => none
 | rs =>
  match resAll fr σ rs with
  | some ds => if ds.all D.notL then some (.tup ds, σ) else none
  | none => none
abbrev Table := Nat → Option MFunc
def enterFr (m : MFunc) (args : List D) : Fr := { slots := args.map D.strip ++ List.replicate (m.ntmps - args.length) .junk, boxes := List.replicate m.ntmps none, defers := [] }
def runBody (cal : Cal) (fuel : Nat) (m : MFunc) (args : List D) (σ : St) : Option (Fr × St) :=
 if args.length = m.nparams ∧ m.nparams ≤ m.ntmps then
  match runC cal fuel m.body (enterFr m args) σ with
  | some (.exit _, _, _) => none
  | some (_, fr, σ) => some (fr, σ)
  | none => none
 else none
def MCode.told : MCode → Bool
 | .seq a b => a.told || b.told
 | .cond _ a b => a.told || b.told
 | .block _ c => c.told
 | .loop _ c => c.told
 | .rangeM _ a b => a.told || b.told
 | .nat _ => true
 | _ => false
def plainN (T : Table) (cal : Cal) (fuel : Nat) : Cal := fun f args σ =>
 match T f with
 | none => none
 | some m =>
  if m.body.told then none else
  match runBody cal fuel m args σ with
  | some (fr, σ) => if fr.defers.isEmpty then resultOf fr σ m.results else none
  | none => none
def callN (T : Table) : Nat → Cal
 | 0, _, _, _ => none
 | n + 1, f, args, σ =>
  match T f with
  | none => none
  | some m =>
   match runBody (callN T n) n m args σ with
   | some (fr, σ) =>
    if fr.defers.isEmpty then resultOf fr σ m.results else
    if m.body.told then none else
    match runDefers (plainN T (callN T n) n) fr.defers σ with
    | some σ => resultOf fr σ m.results
    | none => none
   | none => none
def cloneA (e : Nat) : MCode := .region false [⟨some 2, .assign (.const (.sl [] (some e))), none⟩]
end Go.Abs

namespace Go.Abs
open Go Go.Abs
def eInt (x : Int) : List D := [.int .i64 x]
def ints (c : List Int) : List (List D) := c.map eInt
def Runs (r : RunR) (Q : AE → Fr → St → Prop) : Prop := ∃ ae fr σ, r = some (ae, fr, σ) ∧ Q ae fr σ
section
variable {cal : Cal} {fuel : Nat} {fr fr' : Fr} {σ σ' : St} {Q : AE → Fr → St → Prop}
theorem runs_op {q : Bool} {o : MOper} {ops : List MOper} {d : D} (hw : wantedD fr o.guard = some true) (he : evalOp cal q o.dst o.op fr σ = some (d, fr', σ')) (h : Runs (runC cal fuel (.region q ops) (fr'.put o.dst d) σ') Q) : Runs (runC cal fuel (.region q (o :: ops)) fr σ) Q := by
 obtain ⟨ae, fr2, σ2, h1, h2⟩ := h
 refine ⟨ae, fr2, σ2, ?_, h2⟩
 simp only [runC, runOps, runOp, hw, he] at h1 ⊢
 exact h1
theorem runs_not {q : Bool} {o : MOper} {ops : List MOper} (hw : wantedD fr o.guard = some false) (h : Runs (runC cal fuel (.region q ops) (fr.put o.dst .undef) σ) Q) : Runs (runC cal fuel (.region q (o :: ops)) fr σ) Q := by
 obtain ⟨ae, fr2, σ2, h1, h2⟩ := h
 refine ⟨ae, fr2, σ2, ?_, h2⟩
 simp only [runC, runOps, runOp, hw] at h1 ⊢
 exact h1
theorem ev_index {q : Bool} {dst : Option Nat} {x i : X} {es : List (List D)} {o : Option Nat} {k : IntKind} {n : Int} {e : List D} {esz : Nat} (hx : fr.val x = .sl es o) (hi : fr.val i = .int k n) (h0 : 0 ≤ n) (he : es[n.toNat]? = some e) (hl : e.length = esz) :
  evalOp cal q dst (.indexAddr esz x i) fr σ = some (.ref e, fr, σ) := by
 simp only [evalOp, hx, hi, intOf?, h0, if_true, he, hl]
theorem runs_seq {a b : MCode} (h : Runs (runC cal fuel a fr σ) (fun ae fr σ => match ae with | .normal => Runs (runC cal fuel b fr σ) Q | ae => Q ae fr σ)) : Runs (runC cal fuel (.seq a b) fr σ) Q := by
 obtain ⟨ae, fr1, σ1, h1, h2⟩ := h
 cases ae with
 | normal =>
  obtain ⟨ae2, fr2, σ2, h3, h4⟩ := h2
  exact ⟨ae2, fr2, σ2, by simp only [runC, h1, h3], h4⟩
 | exit id => exact ⟨_, _, _, by simp only [runC, h1], h2⟩
 | ret => exact ⟨_, _, _, by simp only [runC, h1], h2⟩
theorem runs_cond {x : X} {a b : MCode} {t : Bool} (hx : fr.val x = .bool t) (h : Runs (runC cal fuel (if t then a else b) fr σ) Q) : Runs (runC cal fuel (.cond x a b) fr σ) Q := by
 obtain ⟨ae, fr1, σ1, h1, h2⟩ := h
 cases t with
 | true => exact ⟨ae, fr1, σ1, by simp only [runC, hx]; exact h1, h2⟩
 | false => exact ⟨ae, fr1, σ1, by simp only [runC, hx]; exact h1, h2⟩
theorem runs_block {id : Nat} {c : MCode} (h : Runs (runC cal fuel c fr σ) (fun ae fr σ => match ae with | .exit i => if i = id then Q .normal fr σ else Q (.exit i) fr σ | ae => Q ae fr σ)) : Runs (runC cal fuel (.block id c) fr σ) Q := by
 obtain ⟨ae, fr1, σ1, h1, h2⟩ := h
 cases ae with
 | normal => exact ⟨_, _, _, by simp only [runC, h1], h2⟩
 | exit i =>
  simp only [] at h2
  by_cases hi : i = id
  ·rw [if_pos hi] at h2
   exact ⟨_, _, _, by simp only [runC, h1, hi, if_true], h2⟩
  ·rw [if_neg hi] at h2
   exact ⟨_, _, _, by simp only [runC, h1, hi, if_false], h2⟩
 | ret => exact ⟨_, _, _, by simp only [runC, h1], h2⟩
theorem runs_skip (h : Q .normal fr σ) : Runs (runC cal fuel .skip fr σ) Q := ⟨_, _, _, rfl, h⟩
theorem runs_exit {id : Nat} (h : Q (.exit id) fr σ) : Runs (runC cal fuel (.exit id) fr σ) Q := ⟨_, _, _, rfl, h⟩
theorem runs_ret (h : Q .ret fr σ) : Runs (runC cal fuel .ret fr σ) Q := ⟨_, _, _, rfl, h⟩
theorem runs_loop {keep : List Nat} {c : MCode} (J : Nat → Fr → St → Prop) (k : Nat) (h0 : J k (fr.clear keep) σ) (hk : k < fuel)
  (round : ∀ k fr σ, J k fr σ → Runs (runC cal fuel c fr σ) (fun ae fr' σ' => match ae with | .normal => ∃ k', k' < k ∧ J k' (fr'.clear keep) σ' | ae => Q ae fr' σ')) : Runs (runC cal fuel (.loop keep c) fr σ) Q := by
 have key : ∀ (n k : Nat) (fr : Fr) (σ : St), J k (fr.clear keep) σ → k < n → Runs (iter (runC cal fuel c) keep n fr σ) Q := by
  intro n
  induction n with
  | zero => intro k fr σ _ h; omega
  | succ n ih =>
   intro k fr σ h hk
   obtain ⟨ae, fr1, σ1, h1, h2⟩ := round k _ _ h
   cases ae with
   | normal =>
    obtain ⟨k', hk', hJ⟩ := h2
    obtain ⟨ae2, fr2, σ2, h3, h4⟩ := ih k' fr1 σ1 hJ om
    exact ⟨ae2, fr2, σ2, by simp only [iter, h1, h3], h4⟩
   | exit i => exact ⟨_, _, _, by simp only [iter, h1], h2⟩
   | ret => exact ⟨_, _, _, by simp only [iter, h1], h2⟩
 exact key fuel k fr σ h0 hk
theorem call_of {T : Table} {n f : Nat} {m : MFunc} {args : List D} {d : D} (hm : T f = some m) (hp : args.length = m.nparams) (hp2 : m.nparams ≤ m.ntmps)
  (h : Runs (runC (callN T n) n m.body (enterFr m args) σ) (fun ae fr σ1 => (ae = .normal ∨ ae = .ret) ∧ fr.defers = [] ∧ resultOf fr σ1 m.results = some (d, σ'))) : callN T (n + 1) f args σ = some (d, σ') := by
 obtain ⟨ae, fr, σ1, h1, h2, h3, h4⟩ := h
 have hb : runBody (callN T n) n m args σ = some (fr, σ1) := by
  unfold runBody
  rw [if_pos ⟨hp, hp2⟩, h1]
  rcases h2 with rfl | rfl <;> rfl
 simp only [callN, hm, hb, h3, List.isEmpty_nil, if_true]
 exact h4
end
end Go.Abs

namespace Go.Abs
open Go Go.Abs
inductive KF where
 | seq (c : MCode)
 | block (id : Nat)
 | back (P : Fr → St → Prop)
def kont (cal : Cal) (fuel : Nat) : List KF → (AE → Fr → St → Prop) → AE → Fr → St → Prop
 | [], Q, ae, fr, σ => Q ae fr σ
 | .seq b :: k, Q, ae, fr, σ =>
  match ae with
  | .normal => Runs (runC cal fuel b fr σ) (kont cal fuel k Q)
  | ae => kont cal fuel k Q ae fr σ
 | .block id :: k, Q, ae, fr, σ =>
  match ae with
  | .exit i => if i = id then kont cal fuel k Q .normal fr σ else kont cal fuel k Q (.exit i) fr σ
  | ae => kont cal fuel k Q ae fr σ
 | .back P :: k, Q, ae, fr, σ =>
  match ae with
  | .normal => P fr σ
  | ae => kont cal fuel k Q ae fr σ
section
variable {cal : Cal} {fuel : Nat} {k : List KF} {fr fr' : Fr} {σ σ' : St} {Q : AE → Fr → St → Prop} {R : AE → Fr → St → Prop}
theorem k_start {c : MCode} (h : Runs (runC cal fuel c fr σ) (kont cal fuel [] Q)) : Runs (runC cal fuel c fr σ) Q := by
 obtain ⟨ae, fr, σ, h1, h2⟩ := h
 exact ⟨ae, fr, σ, h1, h2⟩
theorem kq {a b : MCode} (h : Runs (runC cal fuel a fr σ) (kont cal fuel (.seq b :: k) Q)) : Runs (runC cal fuel (.seq a b) fr σ) (kont cal fuel k Q) := by
 refine runs_seq ?_
 obtain ⟨ae, fr1, σ1, h1, h2⟩ := h
 refine ⟨ae, fr1, σ1, h1, ?_⟩
 cases ae <;> exact h2
theorem kZ {id : Nat} {c : MCode} (h : Runs (runC cal fuel c fr σ) (kont cal fuel (.block id :: k) Q)) : Runs (runC cal fuel (.block id c) fr σ) (kont cal fuel k Q) := by
 refine runs_block ?_
 obtain ⟨ae, fr1, σ1, h1, h2⟩ := h
 refine ⟨ae, fr1, σ1, h1, ?_⟩
 cases ae <;> exact h2
theorem k_skip_seq {b : MCode} (h : Runs (runC cal fuel b fr σ) (kont cal fuel k Q)) : Runs (runC cal fuel .skip fr σ) (kont cal fuel (.seq b :: k) Q) := runs_skip h
theorem kY {id : Nat} (h : Runs (runC cal fuel .skip fr σ) (kont cal fuel k Q)) : Runs (runC cal fuel .skip fr σ) (kont cal fuel (.block id :: k) Q) := by
 obtain ⟨ae, fr1, σ1, h1, h2⟩ := h
 cases h1
 exact runs_skip h2
theorem kR {P : Fr → St → Prop} (h : P fr σ) : Runs (runC cal fuel .skip fr σ) (kont cal fuel (.back P :: k) Q) := runs_skip h
theorem k_skip_nil (h : Q .normal fr σ) : Runs (runC cal fuel .skip fr σ) (kont cal fuel [] Q) := runs_skip h
theorem k_exit_seq {i : Nat} {b : MCode} (h : Runs (runC cal fuel (.exit i) fr σ) (kont cal fuel k Q)) : Runs (runC cal fuel (.exit i) fr σ) (kont cal fuel (.seq b :: k) Q) := by
 obtain ⟨ae, fr1, σ1, h1, h2⟩ := h
 cases h1
 exact runs_exit h2
theorem k_exit_back {i : Nat} {P : Fr → St → Prop} (h : Runs (runC cal fuel (.exit i) fr σ) (kont cal fuel k Q)) : Runs (runC cal fuel (.exit i) fr σ) (kont cal fuel (.back P :: k) Q) := by
 obtain ⟨ae, fr1, σ1, h1, h2⟩ := h
 cases h1
 exact runs_exit h2
theorem k_exit_hit {i id : Nat} (hi : i = id) (h : Runs (runC cal fuel .skip fr σ) (kont cal fuel k Q)) : Runs (runC cal fuel (.exit i) fr σ) (kont cal fuel (.block id :: k) Q) := by
 obtain ⟨ae, fr1, σ1, h1, h2⟩ := h
 cases h1
 refine runs_exit ?_
 show (if i = id then _ else _)
 rw [if_pos hi]
 exact h2
theorem kont_ret : ∀ (k : List KF), Q .ret fr σ → kont cal fuel k Q .ret fr σ
 | [], h => h
 | .seq _ :: k, h => kont_ret k h
 | .block _ :: k, h => kont_ret k h
 | .back _ :: k, h => kont_ret k h
theorem k_ret (h : Q .ret fr σ) : Runs (runC cal fuel .ret fr σ) (kont cal fuel k Q) := runs_ret (kont_ret k h)
theorem kD {q : Bool} (h : Runs (runC cal fuel .skip fr σ) R) : Runs (runC cal fuel (.region q []) fr σ) R := by
 obtain ⟨ae, fr1, σ1, h1, h2⟩ := h
 cases h1
 exact ⟨_, _, _, rfl, h2⟩
theorem k_alt {q : Bool} {os ms : List MOper} {alts : List (Bool × List MOper)} {pre : List (List Nat)} (h : Runs (runC cal fuel (.region q os) fr σ) R) : Runs (runC cal fuel (.regionQ ((q, os) :: alts) ms pre) fr σ) R := by
 obtain ⟨ae, fr1, σ1, h1, h2⟩ := h
 refine ⟨ae, fr1, σ1, ?_, h2⟩
 simp only [runC, runAlts, Option.map_eq_some_iff] at h1 ⊢
 obtain ⟨⟨fr2, σ2⟩, h3, h4⟩ := h1
 rw [h3]
 cases h4
 rfl
theorem k_alt2 {q q2 : Bool} {os os2 ms : List MOper} {alts : List (Bool × List MOper)} {pre : List (List Nat)} (h0 : runOps cal q os fr σ = none) (h : Runs (runC cal fuel (.region q2 os2) fr σ) R) : Runs (runC cal fuel (.regionQ ((q, os) :: (q2, os2) :: alts) ms pre) fr σ) R := by
 obtain ⟨ae, fr1, σ1, h1, h2⟩ := h
 refine ⟨ae, fr1, σ1, ?_, h2⟩
 simp only [runC, runAlts, h0, Option.map_eq_some_iff] at h1 ⊢
 obtain ⟨⟨fr2, σ2⟩, h3, h4⟩ := h1
 rw [h3]
 cases h4
 rfl
theorem k_cond_t {x : X} {a b : MCode} (hx : fr.val x = .bool true) (h : Runs (runC cal fuel a fr σ) R) : Runs (runC cal fuel (.cond x a b) fr σ) R := runs_cond (t := true) hx h
theorem k_cond_f {x : X} {a b : MCode} (hx : fr.val x = .bool false) (h : Runs (runC cal fuel b fr σ) R) : Runs (runC cal fuel (.cond x a b) fr σ) R := runs_cond (t := false) hx h
theorem k_loop {S : Type} (F : S → Fr) (G : S → St) (I : S → Prop) (μ : S → Nat) (s0 : S) {keep : List Nat} {c : MCode} (hf : fr.clear keep = F s0) (hg : σ = G s0) (hi : I s0) (hm : ∀ s, I s → μ s < fuel)
  (round : ∀ s, I s → Runs (runC cal fuel c (F s) (G s)) (kont cal fuel (.back (fun fr' σ' => ∃ s', I s' ∧ μ s' < μ s ∧ fr'.clear keep = F s' ∧ σ' = G s') :: k) Q)) : Runs (runC cal fuel (.loop keep c) fr σ) (kont cal fuel k Q) := by
 refine runs_loop (fun m fr σ => ∃ s, I s ∧ μ s = m ∧ fr = F s ∧ σ = G s) (μ s0) ⟨s0, hi, rfl, hf, hg⟩ (hm s0 hi) ?_
 rintro m fr σ ⟨s, hI, rfl, rfl, rfl⟩
 obtain ⟨ae, fr1, σ1, h1, h2⟩ := round s hI
 refine ⟨ae, fr1, σ1, h1, ?_⟩
 cases ae with
 | normal =>
  obtain ⟨s', h3, h4, h5, h6⟩ := h2
  exact ⟨μ s', h4, s', h3, rfl, h5, h6⟩
 | exit i => exact h2
 | ret => exact h2
theorem set_self : ∀ (l : List D) (t : Nat), l.set t (l.getD t .junk) = l
 | [], _ => rfl
 | d :: l, 0 => rfl
 | d :: l, t + 1 => by
  show d :: l.set t (l.getD t .junk) = d :: l
  rw [set_self l t]
theorem runs_know {c : MCode} (t : Nat) {d d' : D} (ht : fr.at t = d) (hd : d = d') (h : Runs (runC cal fuel c (fr.set t d') σ) R) : Runs (runC cal fuel c fr σ) R := by
 subst hd ht
 have : fr.set t (fr.at t) = fr := by
  unfold Fr.set Fr.at
  rw [set_self]
 rwa [this] at h
theorem runs_v {q : Bool} {dst : Option Nat} {op : MOp} {g : Option (Nat × Bool)} {ops : List MOper} (d' : D) (hw : wantedD fr g = some true) (he : evalOp cal q dst op fr σ = some (d', fr, σ)) (h : Runs (runC cal fuel (.region q ops) (fr.put dst d') σ) R) : Runs (runC cal fuel (.region q (⟨dst, op, g⟩ :: ops)) fr σ) R := runs_op hw he h
theorem runs_ve {q : Bool} {dst : Option Nat} {op : MOp} {g : Option (Nat × Bool)} {ops : List MOper} (d d' : D) (hd : d = d') (hw : wantedD fr g = some true) (he : evalOp cal q dst op fr σ = some (d, fr, σ)) (h : Runs (runC cal fuel (.region q ops) (fr.put dst d') σ) R) : Runs (runC cal fuel (.region q (⟨dst, op, g⟩ :: ops)) fr σ) R := by
 subst hd
 exact runs_op hw he h
theorem runs_no {q : Bool} {dst : Option Nat} {op : MOp} {g : Option (Nat × Bool)} {ops : List MOper} (hw : wantedD fr g = some false) (h : Runs (runC cal fuel (.region q ops) (fr.put dst .undef) σ) R) : Runs (runC cal fuel (.region q (⟨dst, op, g⟩ :: ops)) fr σ) R := runs_not hw h
theorem runs_steal {q : Bool} {dst : Option Nat} {t : Nat} {g : Option (Nat × Bool)} {ops : List MOper} (d : D) (hw : wantedD fr g = some true) (hd : fr.at t = d) (h : Runs (runC cal fuel (.region q ops) ((fr.set t d.strip).put dst d) σ) R) : Runs (runC cal fuel (.region q (⟨dst, .move (.tmp t) true, g⟩ :: ops)) fr σ) R := by
 subst hd
 exact runs_op hw rfl h
theorem runs_assign {q : Bool} {dst : Option Nat} {t : Nat} {g : Option (Nat × Bool)} {ops : List MOper} (d : D) (hw : wantedD fr g = some true) (hd : fr.at t = d) (h : Runs (runC cal fuel (.region q ops) ((fr.set t d.strip).put dst d) σ) R) : Runs (runC cal fuel (.region q (⟨dst, .assign (.tmp t), g⟩ :: ops)) fr σ) R := by
 subst hd
 exact runs_op hw rfl h
theorem set_at {fr : Fr} {t : Nat} {d : D} (hd : fr.at t = d) (hs : d.strip = d) : fr.set t d.strip = fr := by
 subst hd
 rw [hs]
 unfold Fr.set Fr.at
 rw [set_self]
theorem runs_assign0 {q : Bool} {dst : Option Nat} {t : Nat} {g : Option (Nat × Bool)} {ops : List MOper} (d : D) (hw : wantedD fr g = some true) (hd : fr.at t = d) (hs : d.strip = d) (h : Runs (runC cal fuel (.region q ops) (fr.put dst d) σ) R) : Runs (runC cal fuel (.region q (⟨dst, .assign (.tmp t), g⟩ :: ops)) fr σ) R := by
 refine runs_assign d hw hd ?_
 rw [set_at hd hs]
 exact h
theorem runs_append {q : Bool} {dst : Option Nat} {t e esz bytes : Nat} {y : X} {g : Option (Nat × Bool)} {ops : List MOper} (xs ys zs : List (List D)) (hw : wantedD fr g = some true) (hd : fr.at t = .sl xs (some e)) (hy : elems σ (fr.val y) = some ys) (hz : (ys.all fun y => y.length == esz) = true)
  (hb : (xs.length + ys.length) * bytes ≤ room ∧ xs.length + ys.length < 4611686018427387904) (hzs : xs ++ ys = zs)
  (h : Runs (runC cal fuel (.region q ops) ((fr.set t (.sl xs none)).put dst (.sl zs (some e))) σ) R) : Runs (runC cal fuel (.region q (⟨dst, .append e esz bytes false (.tmp t) y, g⟩ :: ops)) fr σ) R := by
 subst hzs
 refine runs_op (d := .sl (xs ++ ys) (some e)) (fr' := fr.set t (.sl xs none)) (σ' := σ) hw ?_ h
 simp only [evalOp, hy, hz, if_true, Bool.false_eq_true, if_false, Fr.take, hd, D.strip, true_and]
 rw [if_pos hb]
theorem ev_call {dst : Option Nat} {f : Nat} {args : List X} {ds ds' : List D} {r : D} {fr1 : Fr} (hp : fr.promoteAll σ args = some (ds, fr1, σ)) (hq : ds.all pureArg = true) (hs : snap σ ds = some (ds', [])) {σc : St} (hc : cal f ds' [] = some (r, σc)) {r' : D} (hf : freeze σc r = some r') :
  evalOp cal false dst (.call f args) fr σ = some (r', fr1, σ) := by
 simp only [evalOp, Bool.false_eq_true, if_false, hp, doCall, hq, if_true, hs, hc, hf, List.isEmpty_nil, Bool.true_or, Option.map_some]
theorem rca {dst : Option Nat} {f : Nat} {args : List X} {g : Option (Nat × Bool)} {ops : List MOper} (ds : List D) (hw : wantedD fr g = some true) (hp : fr.promoteAll σ args = some (ds, fr, σ)) (hq : ds.all pureArg = true) (hs : snap σ ds = some (ds, [])) {r : D} {σc : St} (hc : cal f ds [] = some (r, σc)) (hf : freeze σc r = some r)
  (h : Runs (runC cal fuel (.region false ops) (fr.put dst r) σ) R) : Runs (runC cal fuel (.region false (⟨dst, .call f args, g⟩ :: ops)) fr σ) R :=
 runs_op hw (ev_call hp hq hs hc hf) h
theorem runs_index {q : Bool} {dst : Option Nat} {esz : Nat} {x i : X} {g : Option (Nat × Bool)} {ops : List MOper} {α : Type} (c : List α) (f : α → List D) {o : Option Nat} {kd : IntKind} (j : Nat) (hw : wantedD fr g = some true) (hx : fr.val x = .sl (c.map f) o) (hi : fr.val i = .int kd (j : Int)) (hj : j < c.length) (hl : (f c[j]).length = esz)
  (h : Runs (runC cal fuel (.region q ops) (fr.put dst (.ref (f c[j]))) σ) R) : Runs (runC cal fuel (.region q (⟨dst, .indexAddr esz x i, g⟩ :: ops)) fr σ) R := by
 refine runs_op hw ?_ h
 exact ev_index hx hi (Int.natCast_nonneg j) (by simp [hj]) hl
end
section
variable {cal : Cal} {fuel : Nat} {k : List KF} {fr fr' : Fr} {σ σ' : St} {R : AE → Fr → St → Prop}
def frOf : Option (D × Fr × St) → Fr
 | some r => r.2.1
 | none => ⟨[], [], []⟩
theorem runs_gs {q : Bool} {dst : Option Nat} {op : MOp} {g : Option (Nat × Bool)} {ops : List MOper} (d' : D) (σ' : St) (hw : wantedD fr g = some true) (he : evalOp cal q dst op fr σ = some (d', fr, σ')) (h : Runs (runC cal fuel (.region q ops) (fr.put dst d') σ') R) : Runs (runC cal fuel (.region q (⟨dst, op, g⟩ :: ops)) fr σ) R := runs_op hw he h
theorem runs_gf {q : Bool} {dst : Option Nat} {op : MOp} {g : Option (Nat × Bool)} {ops : List MOper} (d' : D) (σ' : St) (hw : wantedD fr g = some true) (he : (evalOp cal q dst op fr σ).map (fun r => (r.1, r.2.2)) = some (d', σ')) (h : Runs (runC cal fuel (.region q ops) ((frOf (evalOp cal q dst op fr σ)).put dst d') σ') R) : Runs (runC cal fuel (.region q (⟨dst, op, g⟩ :: ops)) fr σ) R := by
 cases hr : evalOp cal q dst op fr σ with
 | none => rw [hr] at he; cases he
 | some r =>
  obtain ⟨d, fr1, σ1⟩ := r
  rw [hr] at he h
  simp only [Option.map_some, Option.some.injEq, Prod.mk.injEq] at he
  obtain ⟨rfl, rfl⟩ := he
  exact runs_op hw hr h
theorem rcs {dst : Option Nat} {f : Nat} {args : List X} {g : Option (Nat × Bool)} {ops : List MOper} (ds : List D) (hw : wantedD fr g = some true) (hp : fr.promoteAll σ args = some (ds, fr, σ)) (hq : ds.all pureArg = false) (hn : ds.all D.notL = true) {r : D} {σ' : St} (hc : cal f ds σ = some (r, σ'))
  (h : Runs (runC cal fuel (.region false ops) (fr.put dst r) σ') R) : Runs (runC cal fuel (.region false (⟨dst, .call f args, g⟩ :: ops)) fr σ) R := by
 refine runs_op hw ?_ h
 simp only [evalOp, Bool.false_eq_true, if_false, hp, doCall, hq, hn, hc, if_true, Option.map_some]
theorem runs_callQ {dst : Option Nat} {f : Nat} {args : List X} {g : Option (Nat × Bool)} {ops : List MOper} (ds : List D) (hw : wantedD fr g = some true) (hp : (args.map fun x => (fr.val x).deep) = ds) (hq : ds.all pureArg = true) (hs : snap σ ds = some (ds, [])) {r : D} {σc : St} (hc : cal f ds [] = some (r, σc)) (hf : freeze σc r = some r)
  (h : Runs (runC cal fuel (.region true ops) (fr.put dst r) σ) R) : Runs (runC cal fuel (.region true (⟨dst, .call f args, g⟩ :: ops)) fr σ) R := by
 subst hp
 refine runs_op hw ?_ h
 simp only [evalOp, if_true, doCallQ, hq, hs, hc, hf, List.isEmpty_nil, Bool.true_or, Option.map_some]
theorem runs_callv_st {dst : Option Nat} {x : X} {args : List X} {g : Option (Nat × Bool)} {ops : List MOper} (f : Nat) (caps ds as : List D) (hw : wantedD fr g = some true) (hx : fr.val x = .func f caps) (hp : fr.promoteAll σ args = some (ds, fr, σ)) (has : ds ++ caps = as) (hq : as.all pureArg = false) (hn : as.all D.notL = true) {r : D} {σ' : St} (hc : cal f as σ = some (r, σ'))
  (h : Runs (runC cal fuel (.region false ops) (fr.put dst r) σ') R) : Runs (runC cal fuel (.region false (⟨dst, .callv x args, g⟩ :: ops)) fr σ) R := by
 subst has
 refine runs_op hw ?_ h
 simp only [evalOp, Bool.false_eq_true, if_false, hx, hp, doCall, hq, hn, hc, if_true, Option.map_some]
theorem runs_callv {dst : Option Nat} {x : X} {args : List X} {g : Option (Nat × Bool)} {ops : List MOper} (f : Nat) (caps ds as : List D) (hw : wantedD fr g = some true) (hx : fr.val x = .func f caps) (hp : fr.promoteAll σ args = some (ds, fr, σ)) (has : ds ++ caps = as) (hq : as.all pureArg = true) (hs : snap σ as = some (as, [])) {r : D} {σc : St} (hc : cal f as [] = some (r, σc)) (hf : freeze σc r = some r)
  (h : Runs (runC cal fuel (.region false ops) (fr.put dst r) σ) R) : Runs (runC cal fuel (.region false (⟨dst, .callv x args, g⟩ :: ops)) fr σ) R := by
 subst has
 refine runs_op hw ?_ h
 simp only [evalOp, Bool.false_eq_true, if_false, hx, hp, doCall, hq, hs, hc, hf, if_true, List.isEmpty_nil, Bool.true_or, Option.map_some]
end
section
variable {cal : Cal} {fuel : Nat} {fr : Fr} {σ : St} {R : AE → Fr → St → Prop}
theorem rv {q : Bool} {dst : Option Nat} {op : MOp} {g : Option (Nat × Bool)} {ops : List MOper} (d' : D) (h : Runs (runC cal fuel (.region q ops) (fr.put dst d') σ) R) (hw : wantedD fr g = some true := by kernel_rfl) (he : evalOp cal q dst op fr σ = some (d', fr, σ) := by kernel_rfl) : Runs (runC cal fuel (.region q (⟨dst, op, g⟩ :: ops)) fr σ) R := runs_v d' hw he h
theorem rve {q : Bool} {dst : Option Nat} {op : MOp} {g : Option (Nat × Bool)} {ops : List MOper} (d d' : D) (hd : d = d') (h : Runs (runC cal fuel (.region q ops) (fr.put dst d') σ) R) (hw : wantedD fr g = some true := by kernel_rfl) (he : evalOp cal q dst op fr σ = some (d, fr, σ) := by kernel_rfl) : Runs (runC cal fuel (.region q (⟨dst, op, g⟩ :: ops)) fr σ) R := runs_ve d d' hd hw he h
theorem kr {α : Sort _} {a b : α} (h : a = b := by kernel_rfl) : a = b := h
theorem rOa {q : Bool} (xs ys : List MOper) (fr : Fr) (σ : St) : runOps cal q (xs ++ ys) fr σ = (runOps cal q xs fr σ).bind fun r => runOps cal q ys r.1 r.2 := by
 induction xs generalizing fr σ with
 | nil => rfl
 | cons x xs ih =>
  simp only [List.cons_append, runOps]
  cases runOp cal q x fr σ with
  | none => rfl
  | some r => exact ih r.1 r.2
noncomputable def frR : Option (Fr × St) → Fr
 | some r => r.1
 | none => ⟨[], [], []⟩
theorem rn {q : Bool} {ops : List MOper} (k : Nat) (h : Runs (runC cal fuel (.region q (ops.drop k)) (frR (runOps cal q (ops.take k) fr σ)) σ) R) (he : (runOps cal q (ops.take k) fr σ).map (fun r => r.2) = some σ := by kernel_rfl) : Runs (runC cal fuel (.region q ops) fr σ) R := by
 rw [Option.map_eq_some_iff] at he
 obtain ⟨⟨f, s⟩, h1, h2⟩ := he
 simp only at h2
 subst h2
 rw [h1] at h
 obtain ⟨ae, f2, s2, h3, h4⟩ := h
 refine ⟨ae, f2, s2, ?_, h4⟩
 simp only [runC, frR] at h3 ⊢
 rw [← List.take_append_drop k ops, rOa, h1]
 exact h3
theorem rvW {q : Bool} {dst : Option Nat} {op : MOp} {g : Option (Nat × Bool)} {ops : List MOper} (a b : Int) (hd : IntKind.i64.wrap a = b) (h : Runs (runC cal fuel (.region q ops) (fr.put dst (.int .i64 b)) σ) R) (hw : wantedD fr g = some true := by kernel_rfl) (he : evalOp cal q dst op fr σ = some (.int .i64 (IntKind.i64.wrap a), fr, σ) := by kernel_rfl) : Runs (runC cal fuel (.region q (⟨dst, op, g⟩ :: ops)) fr σ) R := runs_ve _ _ (congrArg (D.int .i64) hd) hw he h
theorem rvw {q : Bool} {dst : Option Nat} {op : MOp} {g : Option (Nat × Bool)} {ops : List MOper} (e : Int) (hd : IntKind.i64.wrap e = e) (h : Runs (runC cal fuel (.region q ops) (fr.put dst (.int .i64 e)) σ) R) (hw : wantedD fr g = some true := by kernel_rfl) (he : evalOp cal q dst op fr σ = some (.int .i64 (IntKind.i64.wrap e), fr, σ) := by kernel_rfl) : Runs (runC cal fuel (.region q (⟨dst, op, g⟩ :: ops)) fr σ) R := runs_ve _ _ (congrArg (D.int .i64) hd) hw he h
theorem rgs {q : Bool} {dst : Option Nat} {op : MOp} {g : Option (Nat × Bool)} {ops : List MOper} (d' : D) (σ' : St) (h : Runs (runC cal fuel (.region q ops) (fr.put dst d') σ') R) (hw : wantedD fr g = some true := by kernel_rfl) (he : evalOp cal q dst op fr σ = some (d', fr, σ') := by kernel_rfl) : Runs (runC cal fuel (.region q (⟨dst, op, g⟩ :: ops)) fr σ) R := runs_gs d' σ' hw he h
theorem rgf {q : Bool} {dst : Option Nat} {op : MOp} {g : Option (Nat × Bool)} {ops : List MOper} (d' : D) (σ' : St) (h : Runs (runC cal fuel (.region q ops) ((frOf (evalOp cal q dst op fr σ)).put dst d') σ') R) (hw : wantedD fr g = some true := by kernel_rfl) (he : (evalOp cal q dst op fr σ).map (fun r => (r.1, r.2.2)) = some (d', σ') := by kernel_rfl) : Runs (runC cal fuel (.region q (⟨dst, op, g⟩ :: ops)) fr σ) R := runs_gf d' σ' hw he h
theorem ra0 {q : Bool} {dst : Option Nat} {t : Nat} {g : Option (Nat × Bool)} {ops : List MOper} (d : D) (h : Runs (runC cal fuel (.region q ops) (fr.put dst d) σ) R) (hw : wantedD fr g = some true := by kernel_rfl) (hd : fr.at t = d := by kernel_rfl) (hs : d.strip = d := by kernel_rfl) : Runs (runC cal fuel (.region q (⟨dst, .assign (.tmp t), g⟩ :: ops)) fr σ) R := runs_assign0 d hw hd hs h
theorem rno {q : Bool} {dst : Option Nat} {op : MOp} {g : Option (Nat × Bool)} {ops : List MOper} (h : Runs (runC cal fuel (.region q ops) (fr.put dst .undef) σ) R) (hw : wantedD fr g = some false := by kernel_rfl) : Runs (runC cal fuel (.region q (⟨dst, op, g⟩ :: ops)) fr σ) R := runs_no hw h
theorem kct {x : X} {a b : MCode} (h : Runs (runC cal fuel a fr σ) R) (hx : fr.val x = .bool true := by kernel_rfl) : Runs (runC cal fuel (.cond x a b) fr σ) R := k_cond_t hx h
theorem kcf {x : X} {a b : MCode} (h : Runs (runC cal fuel b fr σ) R) (hx : fr.val x = .bool false := by kernel_rfl) : Runs (runC cal fuel (.cond x a b) fr σ) R := k_cond_f hx h
theorem rkn {c : MCode} (t : Nat) (b b' : Bool) (hb : b = b') (h : Runs (runC cal fuel c (fr.set t (.bool b')) σ) R) (ht : fr.at t = .bool b := by kernel_rfl) : Runs (runC cal fuel c fr σ) R := runs_know t ht (congrArg D.bool hb) h
end
theorem wrap_eq {n m : Int} (h : n = m) (h0 : -9223372036854775808 ≤ m) (h1 : m ≤ 9223372036854775807) : IntKind.i64.wrap n = m := by
 subst h
 rw [IntKind.wrap_i64]
 omega
theorem wE {n m : Int} (h : n = m := by omega) (h0 : -9223372036854775808 ≤ m := by omega) (h1 : m ≤ 9223372036854775807 := by omega) : IntKind.i64.wrap n = m := wrap_eq h h0 h1
def eInts (c : List Int) : List D := [.sl (ints c) none]
def rows (l : List (List Int)) : List (List D) := l.map eInts
def eBool (b : Bool) : List D := [.bool b]
def bools (l : List Bool) : List (List D) := l.map eBool
def eTrip (t : Int × Int × Int) : List D := [.int .i64 t.1, .int .i64 t.2.1, .int .i64 t.2.2]
def i8s (l : List Int) : List (List D) := l.map fun n => [.int .i8 n]
def trips (l : List (Int × Int × Int)) : List (List D) := l.map eTrip
section
variable {cal : Cal} {fuel : Nat} {fr : Fr} {σ : St} {R : AE → Fr → St → Prop}
theorem runs_indexI {q : Bool} {dst : Option Nat} {esz : Nat} {x i : X} {g : Option (Nat × Bool)} {ops : List MOper} {α : Type} (c : List α) (f : α → List D) {o : Option Nat} {kd : IntKind} (j : Int) (hw : wantedD fr g = some true) (hx : fr.val x = .sl (c.map f) o) (hi : fr.val i = .int kd j) (h0 : 0 ≤ j) (hj : j.toNat < c.length) (hl : (f c[j.toNat]).length = esz)
  (h : Runs (runC cal fuel (.region q ops) (fr.put dst (.ref (f c[j.toNat]))) σ) R) : Runs (runC cal fuel (.region q (⟨dst, .indexAddr esz x i, g⟩ :: ops)) fr σ) R := by
 refine runs_op hw ?_ h
 exact ev_index hx hi h0 (by simp [hj]) hl
end
end Go.Abs

namespace Go.Abs
open Go
def constD (v : Value) : Option D :=
 match v with
 | .bool b => some (.bool b)
 | .int k n => some (.int k n)
 | .string s => some (.str s.data.toList)
 | .pointer none => some .nilp
 | .map none => some .nilm
 | .slice none 0 0 => some (.sl [] none)
 | .func (.func f) first caps => if first.isEmpty && caps.isEmpty then some (.func f []) else none
 | .nilFunc => some .nilf
 | _ => none
def compX : Operand → Option X
 | .tmp t => some (.tmp t)
 | .const v => (constD v).map .const
 | .func f => some (.const (.func f []))
 | .global _ => none
def zeroDs (P : Program) : Nat → TypeId → List D
 | 0, _ => []
 | n + 1, t =>
  match P.underlying t with
  | some .bool => [.bool false]
  | some (.int k) => [.int k 0]
  | some .string => [.str []]
  | some (.pointer _) => [.nilp]
  | some (.map _ _) => [.nilm]
  | some (.func ..) => [.nilf]
  | some (.slice e) => [.sl [] (if ((P.info? e).map fun i => decide (0 < i.size)) = some true then some e else none)]
  | some (.struct fs) => fs.toList.flatMap fun f => zeroDs P n f.type
  | some (.array k e) => (List.replicate k (zeroDs P n e)).flatten
  | _ => [.junk]
def matchD : Value → D → Bool
 | _, .junk => true
 | .bool a, .bool b => a == b
 | .int k a, .int k' b => k == k' && a == b
 | .string s, .str [] => s.size == 0
 | .pointer none, .nilp => true
 | .map none, .nilm => true
 | .nilFunc, .nilf => true
 | .slice none 0 0, .sl [] _ => true
 | _, _ => false
def matchAll : List Value → List D → Bool
 | [], [] => true
 | v :: vs, d :: ds => matchD v d && matchAll vs ds
 | _, _ => false
def D.nilled : D → D
 | .sl [] (some e) => .nils e
 | d => d
def ownOK (P : Program) : D → Bool
 | .sl [] (some e) => ((P.info? e).map fun i => decide (0 < i.size)) == some true
 | .sl _ (some _) => false
 | _ => true
def zeroOf (P : Program) (t : TypeId) : Option (List D) :=
 match (P.info? t).bind (·.zero) with
 | some z => if matchAll z.cells.toList (zeroDs P 8 t) && (zeroDs P 8 t).all D.pure1 && (zeroDs P 8 t).all (ownOK P) then some (zeroDs P 8 t) else none
 | none => none
def isAggT (P : Program) (t : TypeId) : Option Bool :=
 (P.underlying t).map fun
  | .struct _ | .array _ _ => true
  | _ => false
def sizeT (P : Program) (t : TypeId) : Option Nat := (P.info? t).map (·.size)
def bytesT (P : Program) (t : TypeId) : Option Nat := (P.info? t).map (·.bytes)
def elemT (P : Program) (t : TypeId) : Option TypeId :=
 match P.underlying t with
 | some (.slice e) => some e
 | _ => none
def fieldT (P : Program) (t : TypeId) (f : Nat) : Option Field :=
 match P.underlying t with
 | some (.struct fs) => fs[f]?
 | _ => none
def compO : Option Operand → Option (Option X)
 | none => some none
 | some x => (compX x).map some
def compXs (xs : List Operand) : Option (List X) := xs.mapM compX
def feeds (ops : List Oper) (t : Nat) : Bool :=
 ops.any fun o => match o.op with
  | .call c => (match c.callee with | .builtin .append => (match (c.args[0]? : Option Operand) with | some (.tmp s) => s == t | _ => false) | _ => false)
  | _ => false
def feeds2 (ops : List Oper) (t : Nat) : Bool :=
 ops.any fun o => match o.op with
  | .call c => (match c.callee with | .builtin .append => (match (c.args[1]? : Option Operand) with | some (.tmp s) => s == t | _ => false) | _ => false)
  | _ => false
def partsX (P : Program) (fs : Array Field) : List (Nat × Operand) → Option (List (Nat × Nat × X))
 | [] => some []
 | (i, x) :: rest =>
  match fs[i]?, compX x with
  | some f, some x =>
   match sizeT P f.type, partsX P fs rest with
   | some s, some r => some ((f.offset, s, x) :: r)
   | _, _ => none
  | _, _ => none
def partsA (esz : Nat) : List (Nat × Operand) → Option (List (Nat × Nat × X))
 | [] => some []
 | (i, x) :: rest =>
  match compX x, partsA esz rest with
  | some x, some r => some ((i * esz, esz, x) :: r)
  | _, _ => none
def partsE : List (Nat × Operand) → Option (List (Nat × X))
 | [] => some []
 | (i, x) :: rest =>
  match compX x, partsE rest with
  | some x, some r => some ((i, x) :: r)
  | _, _ => none
def fieldsSized (P : Program) (fs : Array Field) : Bool := fs.all fun f => (P.info? f.type).isSome
def leavesF (P : Program) (E : TypeId → Option (List LK)) : List Field → Nat → Option (List LK)
 | [], _ => some []
 | f :: fs, off =>
  if (f.name != "_") = true ∧ f.offset = off then
   match E f.type with
   | some ls => if sizeT P f.type = some ls.length then (leavesF P E fs (off + ls.length)).map (ls ++ ·) else none
   | none => none
  else none
def leavesT (P : Program) : Nat → TypeId → Option (List LK)
 | 0, _ => none
 | n + 1, t =>
  match P.underlying t with
  | some .bool => some [.b]
  | some (.int k) => some [.i k]
  | some .string => some [.s]
  | some (.struct fs) => if P.stoodInHeld t = true then none else leavesF P (leavesT P n) fs.toList 0
  | some (.array k e) =>
   match leavesT P n e with
   | some ls => if sizeT P e = some ls.length then some (List.replicate k ls).flatten else none
   | none => none
  | _ => none
def keyCode (P : Program) (t : TypeId) : Option Nat :=
 match leavesT P 8 t with
 | some ls => if keyLs (encK ls) = ls then some (encK ls) else none
 | none => none
def keyKind (P : Program) (t : TypeId) : Option Nat :=
 match P.underlying t with
 | some (.int _) => some 0
 | some .string => some 1
 | some .bool => some 2
 | some (.struct _) | some (.array _ _) => (keyCode P t).map (· + 3)
 | _ => none
def zeroAgg (P : Program) (t : TypeId) : Option Bool :=
 ((P.info? t).bind (·.zero)).map fun
  | .agg _ => true
  | _ => false
def compBin (P : Program) (op : BinOp) (t : TypeId) (x y : Operand) : Option MOp :=
 match P.underlying t, compX x, compX y with
 | some .bool, some x, some y =>
  match op with
  | .eql => some (.eqb false x y)
  | .neq => some (.eqb true x y)
  | _ => none
 | some (.pointer _), some x, some (.const .nilp) =>
  match op with
  | .eql => some (.eqn false x)
  | .neq => some (.eqn true x)
  | _ => none
 | some (.struct _), some x, some y =>
  if P.eqGuardType P.depth t = true then none else
  match op with
  | .eql => (keyCode P t).map (.eqA · false x y)
  | .neq => (keyCode P t).map (.eqA · true x y)
  | _ => none
 | some (.array _ _), some x, some y =>
  if P.eqGuardType P.depth t = true then none else
  match op with
  | .eql => (keyCode P t).map (.eqA · false x y)
  | .neq => (keyCode P t).map (.eqA · true x y)
  | _ => none
 | some _, some x, some y => some (.bin op x y)
 | _, _, _ => none
def isPtrT (P : Program) (t : TypeId) : Bool :=
 match P.underlying t with
 | some (.pointer _) => true
 | _ => false
def compCall (P : Program) (mutable : List Nat) (c : Call) : Option MOp :=
 match c.callee with
 | .builtin .len =>
  match c.args.toList, c.argTypes.toList with
  | [x], [t] =>
   match P.underlying t, compX x with
   | some (.slice _), some x => some (.len 0 x)
   | some .string, some x => some (.len 1 x)
   | some (.map _ _), some x => some (.len 2 x)
   | _, _ => none
  | _, _ => none
 | .builtin .append =>
  match c.args.toList, c.argTypes.toList with
  | [x, y], [t, u] =>
   match compX x, compX y, elemT P t with
   | some x, some y, some e =>
    match sizeT P e, bytesT P e, zeroOf P e with
    | some s, some b, some z => if t = u ∧ z.length = s ∧ 0 < s then some (.append e s b (mutable.contains e) x y) else none
    | _, _, _ => none
   | _, _, _ => none
  | _, _ => none
 | .builtin .max => (compXs c.args.toList).map .max
 | .builtin .min => (compXs c.args.toList).map .min
 | .builtin .delete =>
  match c.args.toList, c.argTypes.toList with
  | [m, k], [t, u] =>
   match P.underlying t, compX m, compX k with
   | some (.map kt _), some m, some k => if u = kt then (keyKind P kt).map fun kk => .delete kk m k else none
   | _, _, _ => none
  | _, _ => none
 | .builtin .clear =>
  match c.args.toList, c.argTypes.toList with
  | [x], [t] =>
   match compX x, elemT P t with
   | some x, some e =>
    match sizeT P e, zeroOf P e with
    | some s, some z => if z.length = s ∧ 0 < s then some (.clear s z x) else none
    | _, _ => none
   | _, _ => none
  | _, _ => none
 | .value (.func f) => (compXs c.args.toList).map (.call f)
 | .value (.tmp t) => (compXs c.args.toList).map (.callv (.tmp t))
 | _ => none
def compOp (P : Program) (mutable : List Nat) (ops : List Oper) (o : Oper) : Option MOp :=
 match o.op with
 | .move x =>
  match compX x with
  | some x => some (.move x (match o.dst with | some t => feeds ops t | none => false))
  | none => none
 | .assign (.const (.slice none 0 0)) =>
  match elemT P o.type with
  | some e => if ownOK P (.sl [] (some e)) then some (.assign (.const (.sl [] (some e)))) else none
  | none => none
 | .assign x => (compX x).map .assign
 | .pick c a b =>
  match compX c, compX a, compX b with
  | some c, some a, some b => some (.pick c a b)
  | _, _, _ => none
 | .alloc t => (zeroOf P t).map .alloc
 | .box _ x => (compX x).map .box
 | .build t parts =>
  match zeroOf P t, P.underlying t with
  | some z, some (.struct fs) => if fieldsSized P fs then (partsX P fs parts.toList).map (.build (z.map D.nilled)) else none
  | some z, some (.array _ e) =>
   match sizeT P e with
   | some s => (partsA s parts.toList).map (.build (z.map D.nilled))
   | none => none
  | _, _ => none
 | .buildSlice t n parts =>
  match elemT P t with
  | some e =>
   match sizeT P e, zeroOf P e, partsE parts.toList with
   | some s, some z, some ps => if z.length = s ∧ 0 < s ∧ n * s ≤ 16777216 then some (if mutable.contains e && 0 < n && !(match o.dst with | some t => feeds2 ops t | none => false) then .buildM e s n z ps else .buildSlice e s n z ps) else none
   | _, _, _ => none
  | none => none
 | .load t a =>
  match isAggT P t, sizeT P t, compX a with
  | some agg, some s, some a => some (.load agg s a (!agg && (match o.dst with | some t => feeds ops t | none => false)))
  | _, _, _ => none
 | .store t a x =>
  match sizeT P t, compX a, compX x with
  | some s, some a, some x => some (.store s a x)
  | _, _, _ => none
 | .nilCheck x => (compX x).map .nilCheck
 | .binOp op t x y _ => compBin P op t x y
 | .unOp op _ x => (compX x).map (.un op)
 | .convert src dst x =>
  match P.underlying dst, P.underlying src, compX x with
  | some (.int k), some _, some x => some (.conv k x)
  | _, _, _ => none
 | .makeFunc (.func f) first caps => if first.isEmpty then (compXs caps.toList).map (.mkfunc f) else none
 | .makeMap _ none => some .mkmap
 | .makeSlice t l c =>
  match elemT P t with
  | some e =>
   match sizeT P e, bytesT P e, zeroOf P e, compX l, compX c with
   | some s, some b, some z, some l, some c => if z.length = s ∧ 0 < s then some (.mkslice s b z l c) else none
   | _, _, _, _, _ => none
  | none => none
 | .slice t x lo hi none =>
  match compX x, compO lo, compO hi with
  | some x, some lo, some hi =>
   match P.underlying t with
   | some (.slice e) => (sizeT P e).map fun s => .slice s x lo hi
   | some .string => some (.sliceStr x lo hi)
   | _ => none
  | _, _, _ => none
 | .fieldAddr s x f =>
  match fieldT P s f, compX x with
  | some f, some x =>
   match sizeT P f.type with
   | some (_ + 1) => some (.fieldAddr f.offset x)
   | _ => none
  | _, _ => none
 | .field s x f =>
  match fieldT P s f, compX x with
  | some f, some x =>
   match isAggT P f.type, sizeT P f.type with
   | some agg, some s => some (.field agg f.offset s x)
   | _, _ => none
  | _, _ => none
 | .indexAddr t x i =>
  match compX x, compX i with
  | some x, some i =>
   match P.underlying t with
   | some (.slice e) => (sizeT P e).map fun s => .indexAddr s x i
   | some (.array n e) => (sizeT P e).map fun s => .indexArr true false n s x i
   | _ => none
  | _, _ => none
 | .index t x i =>
  match P.underlying t, compX x, compX i with
  | some (.array n e), some x, some i =>
   match isAggT P e, sizeT P e with
   | some agg, some s => some (.indexArr false agg n s x i)
   | _, _ => none
  | some .string, some x, some i => some (.indexStr x i)
  | _, _, _ => none
 | .lookup t x i ok =>
  match P.underlying t, compX x, compX i with
  | some (.map k e), some x, some i =>
   match keyKind P k, zeroAgg P e, zeroOf P e with
   | some kk, some agg, some z => some (.lookup kk agg z x i ok)
   | _, _, _ => none
  | _, _, _ => none
 | .mapUpdate t m k x =>
  match P.underlying t, compX m, compX k, compX x with
  | some (.map kt e), some m, some k, some x => (keyKind P kt).map fun kk => if isPtrT P e then .mapUpdateP kk m k x else .mapUpdate kk m k x
  | _, _, _, _ => none
 | .extract x i => (compX x).map (.extract · i)
 | .makeInterface _ _ => some .bad
 | .panic _ => some .bad
 | .call c =>
  match elemT P o.type, c.callee with
  | some e, .value (.func f) => if mutable.contains e then (compXs c.args.toList).map (.callM f) else compCall P mutable c
  | _, _ => compCall P mutable c
 | .defer c =>
  match c.callee with
  | .value (.tmp t) => (compXs c.args.toList).map (.defer (.tmp t))
  | _ => none
 | _ => none
def compGuard (ops : List Oper) : Option (Nat × Bool) → Option (Option (Nat × Bool))
 | none => some none
 | some (j, want) =>
  match (ops[j]?).bind (·.dst) with
  | some t => some (some (t, want))
  | none => none
def compOper (P : Program) (mutable : List Nat) (ops : List Oper) (o : Oper) : Option MOper :=
 match compOp P mutable ops o, compGuard ops o.guard with
 | some op, some g => some { dst := o.dst, op, guard := g }
 | _, _ => none
def compOpers (P : Program) (mutable : List Nat) (ops : List Oper) : List Oper → Option (List MOper)
 | [] => some []
 | o :: rest =>
  match compOper P mutable ops o, compOpers P mutable ops rest with
  | some o, some r => some (o :: r)
  | _, _ => none
def X.tmps : X → List Nat
 | .tmp t => [t]
 | .const _ => []
def MOp.reads : MOp → List Nat
 | .move x _ | .assign x | .box x | .nilCheck x | .un _ x | .eqn _ x | .conv _ x | .fieldAddr _ x | .field _ _ _ x | .extract x _ | .len _ x | .clear _ _ x => x.tmps
 | .pick c a b => c.tmps ++ a.tmps ++ b.tmps
 | .alloc _ | .mkmap | .bad => []
 | .build _ ps => ps.flatMap fun p => p.2.2.tmps
 | .buildSlice _ _ _ _ ps | .buildM _ _ _ _ ps => ps.flatMap fun p => p.2.tmps
 | .load _ _ a _ => a.tmps
 | .store _ a x => a.tmps ++ x.tmps
 | .bin _ x y | .eqb _ x y | .eqA _ _ x y | .indexAddr _ x y | .indexArr _ _ _ _ x y | .indexStr x y | .delete _ x y | .lookup _ _ _ x y _ | .mkslice _ _ _ x y | .append _ _ _ _ x y => x.tmps ++ y.tmps
 | .mkfunc _ xs | .callM _ xs | .call _ xs | .callS _ xs | .max xs | .min xs => xs.flatMap X.tmps
 | .slice _ x lo hi | .sliceStr x lo hi => x.tmps ++ (lo.map X.tmps).getD [] ++ (hi.map X.tmps).getD []
 | .mapUpdate _ m k x | .mapUpdateP _ m k x => m.tmps ++ k.tmps ++ x.tmps
 | .callv f xs | .callvS f xs | .defer f xs => f.tmps ++ xs.flatMap X.tmps
 | .loadA _ _ _ a | .loadL _ _ a | .loadB _ _ _ a | .loadP _ _ a | .loadT _ _ a | .loadK _ _ _ a => a.tmps
 | .storeR _ t x => t :: x.tmps
 | .allocR _ => []
def MOp.takes : MOp → List Nat
 | .move x true | .assign x | .append _ _ _ _ x _ | .store _ _ x => x.tmps
 | .storeR _ _ x => x.tmps
 | _ => []
def MOp.kind (quiet : Bool) : MOp → Nat
 | .move _ _ | .assign _ | .pick .. | .bin .. | .eqb .. | .eqA .. | .eqn .. | .un .. | .conv .. | .nilCheck _ | .fieldAddr .. | .field .. | .indexAddr .. | .indexArr .. | .indexStr .. | .slice .. | .sliceStr .. | .extract .. | .build .. | .buildSlice .. | .max .. | .min .. | .bad => 0
 | .load _ _ _ false | .lookup .. | .len .. => 1
 | .append _ _ _ false _ _ => 1
 | .store .. | .mapUpdate .. | .mkmap | .mkslice .. => 2
 | .load _ _ _ true | .loadT .. | .loadK .. => 4
 | .call .. | .callv .. => if quiet then 1 else 3
 | .alloc _ | .box _ | .mkfunc .. | .mapUpdateP .. | .defer .. | .delete .. | .clear .. | .buildM .. | .callM .. | .append _ _ _ true _ _ => 3
 | .loadA .. | .loadL .. | .loadB .. | .loadP .. => 1
 | .storeR .. | .allocR _ | .callS .. | .callvS .. => 2
def MOper.looks (o : MOper) : List Nat := o.op.reads ++ (o.guard.map fun g => [g.1]).getD []
def MOp.target (dst : Option Nat) : MOp → Option Nat
 | .storeR _ t _ => some t
 | .allocR _ => dst
 | _ => none
def MOp.isCall : MOp → Bool
 | .call .. | .callv .. => true
 | _ => false
def MOp.isLoadL : MOp → Bool
 | .loadL .. | .loadB .. => true
 | _ => false
def MOp.isLoadT : MOp → Bool
 | .loadT .. => true
 | _ => false
def MOp.isCallS : MOp → Bool
 | .callS .. | .callvS .. => true
 | _ => false
def MOp.offBox (quiet : Bool) (t : Nat) : MOp → Bool
 | .loadA s .. | .loadB s .. => s == t
 | .loadP .. | .len .. => true
 | m => m.kind quiet == 0 || (quiet && m.isCall)
def MOp.offTarget (quiet : Bool) (a : MOp) : Option Nat → Bool
 | some t => a.offBox quiet t
 | none => false
def MOper.cellK (o : MOper) : Option (Nat × Nat) :=
 match o.op, o.guard with
 | .loadK t off _ _, none => some (t, off)
 | _, _ => none
def MOper.isNew (o : MOper) : Bool :=
 match o.op, o.guard with
 | .allocR _, none => true
 | _, _ => false
def MOper.apart (quiet : Bool) (a b : MOper) : Bool :=
 (match a.dst with | some d => !b.looks.contains d && b.dst != some d | none => true) &&
 (match b.dst with | some d => !a.looks.contains d | none => true) &&
 (a.op.takes.all fun t => !b.op.takes.contains t) &&
 ((a.op.kind quiet != 3 && b.op.kind quiet != 3 && (a.op.kind quiet == 0 || b.op.kind quiet == 0 || (a.op.kind quiet == 1 && (b.op.kind quiet == 1 || b.op.kind quiet == 4)) || (a.op.kind quiet == 4 && b.op.kind quiet == 1) || a.op.offTarget quiet (b.op.target b.dst) || (a.op.isCallS && (b.op.target b.dst).isSome) || (a.op.isCallS && b.op.isLoadL) || (a.op.isLoadL && b.op.isCallS) || (a.op.isLoadT && b.op.isCallS) || (a.op.isCallS && b.op.isLoadT))) || (a.isNew && b.isNew) || (a.cellK.isSome && b.cellK.isSome && a.cellK != b.cellK))
def joinN : List Nat → List Nat → List Nat
 | [], acc => acc
 | x :: xs, acc => joinN xs (if acc.contains x then acc else x :: acc)
theorem joinN_mem : ∀ (xs acc : List Nat) (k : Nat), k ∈ joinN xs acc → k ∈ xs ∨ k ∈ acc
 | [], acc, k, h => .inr h
 | x :: xs, acc, k, h => by
  simp only [joinN] at h
  rcases joinN_mem xs _ k h with h | h
  ·exact .inl (List.mem_cons_of_mem _ h)
  ·split at h
   ·exact .inr h
   ·rcases List.mem_cons.1 h with h | h
    ·exact .inl (by simp [h])
    ·exact .inr h
def foreOf (ops : List Oper) : List (List Nat) :=
 ops.foldl (fun acc o => acc ++ [(o.after.toList.filter (Region.binds .any)).foldl (fun r e => joinN (e.on :: acc.getD e.on []) r) []]) []
def preOf (ops : List Oper) : List (List Nat) := ops.map fun o => (o.after.toList.filter (Region.binds .any)).map (·.on)
def pairsOK (quiet : Bool) (ms : List MOper) (fore : List (List Nat)) : Bool :=
 (List.range ms.length).all fun j => (List.range j).all fun i =>
  (fore.getD j []).contains i || match ms[i]?, ms[j]? with | some a, some b => a.apart quiet b | _, _ => false
def annot (t : Nat) (o : MOper) : MOper :=
 match o.op with
 | .load agg s a false => { o with op := .loadA t agg s a }
 | .store s (.tmp u) x => if u = t then { o with op := .storeR s t x } else o
 | .alloc z => if o.dst = some t then { o with op := .allocR z } else o
 | _ => o
def annotS (t : Nat) (o : MOper) : MOper :=
 match o.op with
 | .call f xs => { o with op := .callS f xs }
 | _ => annot t o
def annotL (o : MOper) : MOper :=
 match o.op with
 | .call f xs => { o with op := .callS f xs }
 | .load agg s a false => { o with op := .loadL agg s a }
 | _ => o
def annotB (t : Nat) (o : MOper) : MOper :=
 match o.op with
 | .call f xs => { o with op := .callS f xs }
 | .callv f xs => { o with op := .callvS f xs }
 | .load agg s a false => { o with op := .loadB t agg s a }
 | _ => annot t o
def annotQ (o : MOper) : MOper :=
 match o.op with
 | .load agg s a false => { o with op := .loadP agg s a }
 | .store s (.tmp u) x => annot u o
 | .alloc z => (match o.dst with | some t => annot t o | none => o)
 | _ => o
def MOp.isCallv : MOp → Bool
 | .callv .. => true
 | _ => false
def targetsOf (ms : List MOper) : List Nat := ms.filterMap fun o => match o.op with
 | .store _ (.tmp u) _ => some u
 | .alloc _ => o.dst
 | _ => none
def annotM (D : List (Option Nat)) (o : MOper) : MOper :=
 match o.op with
 | .call f xs => { o with op := .callS f xs }
 | .load agg s a false => if D.contains o.dst then { o with op := .loadL agg s a } else o
 | _ => o
def MOp.isLoad : MOp → Bool
 | .load _ _ _ false => true
 | _ => false
def needsOf (ms : List MOper) (fore : List (List Nat)) : List (Option Nat) :=
 (List.range ms.length).filterMap fun j => match ms[j]? with
  | some o => if o.op.isLoad && (List.range ms.length).any (fun i => (match ms[i]? with | some c => c.op.isCall | none => false) && !(fore.getD j []).contains i && !(fore.getD i []).contains j) then some o.dst else none
  | none => none
def altsM (ms : List MOper) (fore : List (List Nat)) : List (Bool × List MOper) :=
 if (ms.filter fun o => o.op.isLoad).length != (needsOf ms fore).length && pairsOK false (ms.map (annotM (needsOf ms fore))) fore then [(false, ms.map (annotM (needsOf ms fore)))] else []
def annotT (D : List (Option Nat)) (o : MOper) : MOper :=
 match o.op with
 | .load agg s a true => { o with op := .loadT agg s a }
 | _ => annotM D o
def MOp.isLoadS : MOp → Bool
 | .load _ _ _ true => true
 | _ => false
def altsT (ms : List MOper) (fore : List (List Nat)) : List (Bool × List MOper) :=
 if ms.any (fun o => o.op.isLoadS) && pairsOK false (ms.map (annotT (needsOf ms fore))) fore then [(false, ms.map (annotT (needsOf ms fore)))] else []
def handsOn (ms : List MOper) : Bool := ms.any fun o => match o.op with
 | .call _ xs => xs.any fun x => match x with
  | .tmp t => ms.any fun b => match b.op with | .build _ _ => b.dst == some t | _ => false
  | .const _ => false
 | _ => false
def altsOf (ms : List MOper) (fore : List (List Nat)) : List (Bool × List MOper) :=
 ((if pairsOK false (ms.map annotL) fore then [(false, ms.map annotL)] else []) ++
  (if handsOn ms then altsM ms fore ++ (if pairsOK true ms fore then [(true, ms)] else []) else (if pairsOK true ms fore then [(true, ms)] else []))) ++ altsT ms fore
def altsB (t : Nat) (ms : List MOper) (fore : List (List Nat)) : List (Bool × List MOper) :=
 if pairsOK false (ms.map (annotB t)) fore then [(false, ms.map (annotB t))] else []
def cellOf (ms : List MOper) : Nat → X → Option (Nat × Nat)
 | 0, _ => none
 | _, .const _ => none
 | n + 1, .tmp u =>
  match ms.find? (fun o => o.dst == some u) with
  | none => some (u, 0)
  | some o => match o.op with
   | .fieldAddr off x => (cellOf ms n x).map fun c => (c.1, c.2 + off)
   | .move x false => cellOf ms n x
   | _ => none
def annotK (ms : List MOper) (o : MOper) : MOper :=
 match o.op with
 | .load false s a true => (match cellOf ms 8 a with | some c => { o with op := .loadK c.1 c.2 s a } | none => o)
 | _ => o
def altsQ (ms : List MOper) (fore : List (List Nat)) : List (Bool × List MOper) :=
 if pairsOK true (ms.map annotQ) fore then [(true, ms.map annotQ)] else []
def edgesBack (ops : List Oper) : Bool := (List.range ops.length).all fun j => match ops[j]? with
 | some o => o.after.all fun e => !Region.binds .any e || e.on < j
 | none => true
def tmpsOf (xs : List Operand) : List Nat := xs.filterMap fun | .tmp t => some t | _ => none
structure Lv where
 out : List Nat
 exits : List (Nat × List Nat)
 ret : List Nat
 always : List Nat
def liveOps (ops : List Oper) : List Oper → List Nat → List Nat
 | [], l => l
 | o :: r, l =>
  let l' := liveOps ops r l
  joinN (tmpsOf o.op.operands.toList ++ (match o.guard with | some (j, _) => ((ops[j]?).bind (·.dst)).toList | none => [])) (match o.dst with | some t => l'.filter (· != t) | none => l')
def live : Code → Lv → List Nat
 | .region _ ops _, K => liveOps ops.toList ops.toList K.out
 | .seq a b, K => live a { K with out := live b K }
 | .cond x a b, K => joinN (tmpsOf [x]) (joinN (live a K) (live b K))
 | .block id c, K => live c { K with exits := (id, K.out) :: K.exits }
 | .loop c, K => live c { K with out := [] }
 | .exit id, K => (K.exits.lookup id).getD []
 | .ret, K => K.ret
 | .scope c, K => live c K
 | _, K => K.out
def loopKeep (c : Code) (K : Lv) : List Nat := joinN (live c { K with out := [] }) K.always
def splitLast (l : List Oper) : Option (List Oper × Oper) :=
 match l.reverse with
 | [] => none
 | o :: r => some (r.reverse, o)
def rangeOf (P : Program) (mutable : List Nat) (K : Lv) : Code → Option MRange
 | .seq (.region _ ops false) (.block idOut (.loop (.seq (.region id5 ops5 false) (.seq (.cond (.tmp ok) .skip (.exit idOut')) (.block idIn (.seq (.region id6 ops6 false) B)))))) =>
  match splitLast ops.toList with
  | some (pre, o) =>
   match o.op, o.dst, o.guard, ops5.toList, ops6.toList with
   | .range t x, some it, none, [n1, n2], e1 :: tl =>
    match n1.op, n1.dst, n1.guard, e1.op, e1.dst, e1.guard with
    | .next (.tmp it1) false, some tupN, none, .entry (.tmp it2), some tupE, none =>
     match compOpers P mutable ops.toList pre, compX x, compOper P mutable ops5.toList n2, compOpers P mutable ops6.toList tl, P.underlying t with
     | some ms, some m, some ext, some tail, some (.map _ _) =>
      if it1 = it ∧ it2 = it ∧ idOut' = idOut then some { keep := loopKeep (.seq (.region id5 ops5 false) (.seq (.cond (.tmp ok) .skip (.exit idOut')) (.block idIn (.seq (.region id6 ops6 false) B)))) { K with exits := (idOut, K.out) :: K.exits }, res := K.ret, pre := ms, m, it, tupN, okT := ok, tupE, ext, tail, idOut, idIn } else none
     | _, _, _, _, _ => none
    | _, _, _, _, _, _ => none
   | _, _, _, _, _ => none
  | none => none
 | _ => none
mutual
def compC (P : Program) (mutable : List Nat) (K : Lv) : Code → Option MCode
 | .skip => some .skip
 | .region _ ops draw =>
  match compOpers P mutable ops.toList ops.toList with
  | some ms =>
   if !draw then some (.region false ms)
   else if edgesBack ops.toList then
    if pairsOK false ms (foreOf ops.toList) then some (.region false ms)
    else if pairsOK true ms (foreOf ops.toList) then some (.regionQ (altsOf ms (foreOf ops.toList)) ms (preOf ops.toList))
    else match (targetsOf ms).find? (fun t => pairsOK false (ms.map (annotS t)) (foreOf ops.toList)) with
     | some t => some (.region false (ms.map (annotS t)))
     | none =>
      match (targetsOf ms).find? (fun t => pairsOK true (ms.map (annot t)) (foreOf ops.toList)) with
      | some t => if ms.any (fun o => o.op.isCallv) then some (.regionQ (altsB t ms (foreOf ops.toList)) ms (preOf ops.toList)) else some (.region true (ms.map (annot t)))
      | none => if pairsOK false (ms.map annotL) (foreOf ops.toList) then some (.regionQ (altsOf ms (foreOf ops.toList)) ms (preOf ops.toList)) else if pairsOK true (ms.map annotQ) (foreOf ops.toList) then some (.regionQ (altsQ ms (foreOf ops.toList)) ms (preOf ops.toList)) else if pairsOK true (ms.map (annotK ms)) (foreOf ops.toList) then some (.regionQ [(true, ms.map (annotK ms))] ms (preOf ops.toList)) else some (.regionA ms (preOf ops.toList))
   else none
  | none => none
 | .seq a b =>
  match rangeOf P mutable { K with out := live b K } a with
  | some R =>
   match bodyC P mutable { K with out := live b K } 3 a, compC P mutable K b with
   | some m, some r => some (.rangeM R m r)
   | _, _ => none
  | none =>
   match compC P mutable { K with out := live b K } a, compC P mutable K b with
   | some a, some b => some (.seq a b)
   | _, _ => none
 | .cond x a b =>
  match compX x, compC P mutable K a, compC P mutable K b with
  | some x, some a, some b => some (.cond x a b)
  | _, _, _ => none
 | .block id c => (compC P mutable { K with exits := (id, K.out) :: K.exits } c).map (.block id)
 | .loop c => (compC P mutable { K with out := live c { K with out := [] } } c).map (.loop (loopKeep c K))
 | .exit id => some (.exit id)
 | .ret => some .ret
 | _ => none
def bodyC (P : Program) (mutable : List Nat) (K : Lv) : Nat → Code → Option MCode
 | 0, .seq _ y => compC P mutable K y
 | n + 1, .seq _ y => bodyC P mutable K n y
 | n, .block id c => bodyC P mutable { K with exits := (id, K.out) :: K.exits } n c
 | n, .loop c => bodyC P mutable { K with out := live c { K with out := [] } } n c
 | _, _ => none
end
def resTmps (P : Program) : List ResultVar → Option (List MRes)
 | [] => some []
 | .tmp t :: rs => (resTmps P rs).map (.tmp t :: ·)
 | .cell t ty :: rs =>
  match isAggT P ty, sizeT P ty with
  | some agg, some s => (resTmps P rs).map (.cell t agg s :: ·)
  | _, _ => none
def MRes.tmpOf : MRes → Nat
 | .tmp t => t
 | .cell t _ _ => t
def topBox : Code → List Nat
 | .region _ ops _ => (ops.toList.filterMap fun o => match o.op with | .box _ _ => o.dst | _ => none).filter fun t => ops.toList.any fun o => match o.op with | .assign (.tmp u) => u == t | _ => false
 | .seq a b => topBox a ++ topBox b
 | .cond _ a b => topBox a ++ topBox b
 | .block _ c => topBox c
 | .scope c => topBox c
 | _ => []
def compFn (P : Program) (mutable : List Nat) (fn : Func) : Option MFunc :=
 match fn.body, resTmps P fn.results.toList with
 | some c, some rs =>
  (compC P mutable ⟨[], [], rs.map MRes.tmpOf, joinN (rs.map MRes.tmpOf) (topBox c)⟩ c).map fun m => { nparams := fn.params.size + fn.nfree, ntmps := fn.ntmps, results := rs, body := m }
 | _, _ => none
end Go.Abs
