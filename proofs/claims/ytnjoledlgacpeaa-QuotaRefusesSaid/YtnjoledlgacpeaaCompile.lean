import Derived.Test.YtnjoledlgacpeaaSem
import GoSem.Core.Program
import GoSem.Core.Code
import GoSem.Core.Region
set_option linter.unusedVariables false
set_option linter.unusedSimpArgs false
/-
  From the model's code to the small machine code of the abstract interpreter: a plain function, and what it looks up in the program's tables.
-/
namespace Go.Abs
open Go

def constD (v : Value) : Option D :=
  match v with
  | .bool b => some (.bool b)
  | .int k n => some (.int k n)
  | .string s => some (.str s.data.toList)
  | .pointer none => some .nilp
  | .slice none 0 0 => some (.sl [] none)
  | .func (.func f) first caps => if first.isEmpty && caps.isEmpty then some (.func f []) else none
  | .nilFunc => some .nilf
  | _ => none

def compX : Operand → Option X
  | .tmp t => some (.tmp t)
  | .const v => (constD v).map .const
  | .func f => some (.const (.func f []))
  | .global _ => none

/-- The cells of a type's zero value, by the type's description. -/
def zeroDs (P : Program) : Nat → TypeId → List D
  | 0, _ => []
  | n + 1, t =>
    match P.underlying t with
    | some .bool => [.bool false]
    | some (.int k) => [.int k 0]
    | some .string => [.str []]
    | some (.pointer _) => [.nilp]
    | some (.map _ _) => [.nilm]
    | some (.func ..) => [.nilf]
    | some (.slice e) => [.sl [] (if ((P.info? e).map fun i => decide (0 < i.size)) = some true then some e else none)]
    | some (.struct fs) => fs.toList.flatMap fun f => zeroDs P n f.type
    | some (.array k e) => (List.replicate k (zeroDs P n e)).flatten
    | _ => [.junk]

def matchD : Value → D → Bool
  | _, .junk => true
  | .bool a, .bool b => a == b
  | .int k a, .int k' b => k == k' && a == b
  | .string s, .str [] => s.size == 0
  | .pointer none, .nilp => true
  | .map none, .nilm => true
  | .nilFunc, .nilf => true
  | .slice none 0 0, .sl [] _ => true
  | _, _ => false

def matchAll : List Value → List D → Bool
  | [], [] => true
  | v :: vs, d :: ds => matchD v d && matchAll vs ds
  | _, _ => false

/-- A struct's nil slice. -/
def D.nilled : D → D
  | .sl [] (some e) => .nils e
  | d => d

def ownOK (P : Program) : D → Bool
  | .sl [] (some e) => ((P.info? e).map fun i => decide (0 < i.size)) == some true
  | .sl _ (some _) => false
  | _ => true

/-- The zero cells of a type, held against the table. -/
def zeroOf (P : Program) (t : TypeId) : Option (List D) :=
  match (P.info? t).bind (·.zero) with
  | some z => if matchAll z.cells.toList (zeroDs P 8 t) && (zeroDs P 8 t).all D.pure1 && (zeroDs P 8 t).all (ownOK P) then some (zeroDs P 8 t) else none
  | none => none

def isAggT (P : Program) (t : TypeId) : Option Bool :=
  (P.underlying t).map fun
    | .struct _ | .array _ _ => true
    | _ => false

def sizeT (P : Program) (t : TypeId) : Option Nat := (P.info? t).map (·.size)
def bytesT (P : Program) (t : TypeId) : Option Nat := (P.info? t).map (·.bytes)

def elemT (P : Program) (t : TypeId) : Option TypeId :=
  match P.underlying t with
  | some (.slice e) => some e
  | _ => none

def fieldT (P : Program) (t : TypeId) (f : Nat) : Option Field :=
  match P.underlying t with
  | some (.struct fs) => fs[f]?
  | _ => none

def compO : Option Operand → Option (Option X)
  | none => some none
  | some x => (compX x).map some

def compXs (xs : List Operand) : Option (List X) := xs.mapM compX

/-- Is a place of the region read by a later append as what is appended to? -/
def feeds (ops : List Oper) (t : Nat) : Bool :=
  ops.any fun o => match o.op with
    | .call c => (match c.callee with | .builtin .append => (match (c.args[0]? : Option Operand) with | some (.tmp s) => s == t | _ => false) | _ => false)
    | _ => false

def partsX (P : Program) (fs : Array Field) : List (Nat × Operand) → Option (List (Nat × Nat × X))
  | [] => some []
  | (i, x) :: rest =>
    match fs[i]?, compX x with
    | some f, some x =>
      match sizeT P f.type, partsX P fs rest with
      | some s, some r => some ((f.offset, s, x) :: r)
      | _, _ => none
    | _, _ => none

def partsA (esz : Nat) : List (Nat × Operand) → Option (List (Nat × Nat × X))
  | [] => some []
  | (i, x) :: rest =>
    match compX x, partsA esz rest with
    | some x, some r => some ((i * esz, esz, x) :: r)
    | _, _ => none

def partsE : List (Nat × Operand) → Option (List (Nat × X))
  | [] => some []
  | (i, x) :: rest =>
    match compX x, partsE rest with
    | some x, some r => some ((i, x) :: r)
    | _, _ => none

def fieldsSized (P : Program) (fs : Array Field) : Bool := fs.all fun f => (P.info? f.type).isSome

def keyKind (P : Program) (t : TypeId) : Option Nat :=
  match P.underlying t with
  | some (.int _) => some 0
  | some .string => some 1
  | some .bool => some 2
  | _ => none

def zeroAgg (P : Program) (t : TypeId) : Option Bool :=
  ((P.info? t).bind (·.zero)).map fun
    | .agg _ => true
    | _ => false

def compBin (P : Program) (op : BinOp) (t : TypeId) (x y : Operand) : Option MOp :=
  match P.underlying t, compX x, compX y with
  | some .bool, some x, some y =>
    match op with
    | .eql => some (.eqb false x y)
    | .neq => some (.eqb true x y)
    | _ => none
  | some (.pointer _), some x, some (.const .nilp) =>
    match op with
    | .eql => some (.eqn false x)
    | .neq => some (.eqn true x)
    | _ => none
  | some _, some x, some y => some (.bin op x y)
  | _, _, _ => none

def isPtrT (P : Program) (t : TypeId) : Bool :=
  match P.underlying t with
  | some (.pointer _) => true
  | _ => false
def compCall (P : Program) (mutable : Bool) (c : Call) : Option MOp :=
  match c.callee with
  | .builtin .len =>
    match c.args.toList, c.argTypes.toList with
    | [x], [t] =>
      match P.underlying t, compX x with
      | some (.slice _), some x => some (.len 0 x)
      | some .string, some x => some (.len 1 x)
      | some (.map _ _), some x => some (.len 2 x)
      | _, _ => none
    | _, _ => none
  | .builtin .append =>
    match c.args.toList, c.argTypes.toList with
    | [x, y], [t, u] =>
      match compX x, compX y, elemT P t with
      | some x, some y, some e =>
        match sizeT P e, bytesT P e, zeroOf P e with
        | some s, some b, some z => if t = u ∧ z.length = s ∧ 0 < s then some (.append e s b mutable x y) else none
        | _, _, _ => none
      | _, _, _ => none
    | _, _ => none
  | .builtin .max => (compXs c.args.toList).map .max
  | .builtin .delete =>
    match c.args.toList, c.argTypes.toList with
    | [m, k], [t, u] =>
      match P.underlying t, compX m, compX k with
      | some (.map kt _), some m, some k => if u = kt then (keyKind P kt).map fun kk => .delete kk m k else none
      | _, _, _ => none
    | _, _ => none
  | .value (.func f) => (compXs c.args.toList).map (.call f)
  | .value (.tmp t) => (compXs c.args.toList).map (.callv (.tmp t))
  | _ => none

def compOp (P : Program) (mutable : Bool) (ops : List Oper) (o : Oper) : Option MOp :=
  match o.op with
  | .move x =>
    match compX x with
    | some x => some (.move x (match o.dst with | some t => feeds ops t | none => false))
    | none => none
  | .assign (.const (.slice none 0 0)) =>
    match elemT P o.type with
    | some e => if ownOK P (.sl [] (some e)) then some (.assign (.const (.sl [] (some e)))) else none
    | none => none
  | .assign x => (compX x).map .assign
  | .pick c a b =>
    match compX c, compX a, compX b with
    | some c, some a, some b => some (.pick c a b)
    | _, _, _ => none
  | .alloc t => (zeroOf P t).map .alloc
  | .box _ x => (compX x).map .box
  | .build t parts =>
    match zeroOf P t, P.underlying t with
    | some z, some (.struct fs) => if fieldsSized P fs then (partsX P fs parts.toList).map (.build (z.map D.nilled)) else none
    | some z, some (.array _ e) =>
      match sizeT P e with
      | some s => (partsA s parts.toList).map (.build (z.map D.nilled))
      | none => none
    | _, _ => none
  | .buildSlice t n parts =>
    match elemT P t with
    | some e =>
      match sizeT P e, zeroOf P e, partsE parts.toList with
      | some s, some z, some ps => if z.length = s ∧ 0 < s ∧ n * s ≤ 16777216 then some (.buildSlice e s n z ps) else none
      | _, _, _ => none
    | none => none
  | .load t a =>
    match isAggT P t, sizeT P t, compX a with
    | some agg, some s, some a => some (.load agg s a (!agg && (match o.dst with | some t => feeds ops t | none => false)))
    | _, _, _ => none
  | .store t a x =>
    match sizeT P t, compX a, compX x with
    | some s, some a, some x => some (.store s a x)
    | _, _, _ => none
  | .nilCheck x => (compX x).map .nilCheck
  | .binOp op t x y _ => compBin P op t x y
  | .unOp op _ x => (compX x).map (.un op)
  | .convert src dst x =>
    match P.underlying dst, P.underlying src, compX x with
    | some (.int k), some _, some x => some (.conv k x)
    | _, _, _ => none
  | .makeFunc (.func f) first caps => if first.isEmpty then (compXs caps.toList).map (.mkfunc f) else none
  | .makeMap _ none => some .mkmap
  | .makeSlice t l c =>
    match elemT P t with
    | some e =>
      match sizeT P e, bytesT P e, zeroOf P e, compX l, compX c with
      | some s, some b, some z, some l, some c => if z.length = s ∧ 0 < s then some (.mkslice s b z l c) else none
      | _, _, _, _, _ => none
    | none => none
  | .slice t x lo hi none =>
    match compX x, compO lo, compO hi with
    | some x, some lo, some hi =>
      match P.underlying t with
      | some (.slice e) => (sizeT P e).map fun s => .slice s x lo hi
      | some .string => some (.sliceStr x lo hi)
      | _ => none
    | _, _, _ => none
  | .fieldAddr s x f =>
    match fieldT P s f, compX x with
    | some f, some x =>
      match sizeT P f.type with
      | some (_ + 1) => some (.fieldAddr f.offset x)
      | _ => none
    | _, _ => none
  | .field s x f =>
    match fieldT P s f, compX x with
    | some f, some x =>
      match isAggT P f.type, sizeT P f.type with
      | some agg, some s => some (.field agg f.offset s x)
      | _, _ => none
    | _, _ => none
  | .indexAddr t x i =>
    match compX x, compX i with
    | some x, some i =>
      match P.underlying t with
      | some (.slice e) => (sizeT P e).map fun s => .indexAddr s x i
      | some (.array n e) => (sizeT P e).map fun s => .indexArr true false n s x i
      | _ => none
    | _, _ => none
  | .index t x i =>
    match P.underlying t, compX x, compX i with
    | some (.array n e), some x, some i =>
      match isAggT P e, sizeT P e with
      | some agg, some s => some (.indexArr false agg n s x i)
      | _, _ => none
    | some .string, some x, some i => some (.indexStr x i)
    | _, _, _ => none
  | .lookup t x i ok =>
    match P.underlying t, compX x, compX i with
    | some (.map k e), some x, some i =>
      match keyKind P k, zeroAgg P e, zeroOf P e with
      | some kk, some agg, some z => some (.lookup kk agg z x i ok)
      | _, _, _ => none
    | _, _, _ => none
  | .mapUpdate t m k x =>
    match P.underlying t, compX m, compX k, compX x with
    | some (.map kt e), some m, some k, some x => (keyKind P kt).map fun kk => if isPtrT P e then .mapUpdateP kk m k x else .mapUpdate kk m k x
    | _, _, _, _ => none
  | .extract x i => (compX x).map (.extract · i)
  | .call c => compCall P mutable c
  | .defer c =>
    match c.callee with
    | .value (.tmp t) => (compXs c.args.toList).map (.defer (.tmp t))
    | _ => none
  | _ => none

def compGuard (ops : List Oper) : Option (Nat × Bool) → Option (Option (Nat × Bool))
  | none => some none
  | some (j, want) =>
    match (ops[j]?).bind (·.dst) with
    | some t => some (some (t, want))
    | none => none

def compOper (P : Program) (mutable : Bool) (ops : List Oper) (o : Oper) : Option MOper :=
  match compOp P mutable ops o, compGuard ops o.guard with
  | some op, some g => some { dst := o.dst, op, guard := g }
  | _, _ => none

def compOpers (P : Program) (mutable : Bool) (ops : List Oper) : List Oper → Option (List MOper)
  | [] => some []
  | o :: rest =>
    match compOper P mutable ops o, compOpers P mutable ops rest with
    | some o, some r => some (o :: r)
    | _, _ => none

/-! Which operations of a region may be carried out in another order -/

def X.tmps : X → List Nat
  | .tmp t => [t]
  | .const _ => []

def MOp.reads : MOp → List Nat
  | .move x _ | .assign x | .box x | .nilCheck x | .un _ x | .eqn _ x | .conv _ x | .fieldAddr _ x | .field _ _ _ x | .extract x _ | .len _ x => x.tmps
  | .pick c a b => c.tmps ++ a.tmps ++ b.tmps
  | .alloc _ | .mkmap => []
  | .build _ ps => ps.flatMap fun p => p.2.2.tmps
  | .buildSlice _ _ _ _ ps => ps.flatMap fun p => p.2.tmps
  | .load _ _ a _ => a.tmps
  | .store _ a x => a.tmps ++ x.tmps
  | .bin _ x y | .eqb _ x y | .indexAddr _ x y | .indexArr _ _ _ _ x y | .indexStr x y | .delete _ x y | .lookup _ _ _ x y _ | .mkslice _ _ _ x y | .append _ _ _ _ x y => x.tmps ++ y.tmps
  | .mkfunc _ xs | .call _ xs | .callS _ xs | .max xs => xs.flatMap X.tmps
  | .slice _ x lo hi | .sliceStr x lo hi => x.tmps ++ (lo.map X.tmps).getD [] ++ (hi.map X.tmps).getD []
  | .mapUpdate _ m k x | .mapUpdateP _ m k x => m.tmps ++ k.tmps ++ x.tmps
  | .callv f xs | .defer f xs => f.tmps ++ xs.flatMap X.tmps
  | .loadA _ _ _ a => a.tmps
  | .storeR _ t x => t :: x.tmps
  | .allocR _ => []

def MOp.takes : MOp → List Nat
  | .move x true | .assign x | .append _ _ _ _ x _ | .store _ _ x => x.tmps
  | .storeR _ _ x => x.tmps
  | _ => []

/-- 0: it looks at no memory; 1: it reads; 2: it writes, or makes; 3: it may turn what stands in other places; 4: it reads, and takes. -/
def MOp.kind (quiet : Bool) : MOp → Nat
  | .move _ _ | .assign _ | .pick .. | .bin .. | .eqb .. | .eqn .. | .un .. | .conv .. | .nilCheck _ | .fieldAddr .. | .field .. | .indexAddr .. | .indexArr .. | .indexStr .. | .slice .. | .sliceStr .. | .extract .. | .build .. | .buildSlice .. | .max .. => 0
  | .load _ _ _ false | .lookup .. | .len .. => 1
  | .append _ _ _ false _ _ => 1
  | .store .. | .mapUpdate .. | .mkmap | .mkslice .. => 2
  | .load _ _ _ true => 4
  | .call .. | .callv .. => if quiet then 1 else 3
  | .alloc _ | .box _ | .mkfunc .. | .mapUpdateP .. | .defer .. | .delete .. | .append _ _ _ true _ _ => 3
  | .loadA .. => 1
  | .storeR .. | .allocR _ | .callS .. => 2

def MOper.looks (o : MOper) : List Nat := o.op.reads ++ (o.guard.map fun g => [g.1]).getD []

/-- The one box that it writes. -/
def MOp.target (dst : Option Nat) : MOp → Option Nat
  | .storeR _ t _ => some t
  | .allocR _ => dst
  | _ => none
def MOp.isCall : MOp → Bool
  | .call .. | .callv .. => true
  | _ => false
def MOp.isCallS : MOp → Bool
  | .callS .. => true
  | _ => false
/-- It looks at no memory, or not at the box of t. -/
def MOp.offBox (quiet : Bool) (t : Nat) : MOp → Bool
  | .loadA s .. => s == t
  | m => m.kind quiet == 0 || (quiet && m.isCall)
def MOp.offTarget (quiet : Bool) (a : MOp) : Option Nat → Bool
  | some t => a.offBox quiet t
  | none => false

def MOper.apart (quiet : Bool) (a b : MOper) : Bool :=
  (match a.dst with | some d => !b.looks.contains d && b.dst != some d | none => true) &&
  (match b.dst with | some d => !a.looks.contains d | none => true) &&
  (a.op.takes.all fun t => !b.op.takes.contains t) &&
  (a.op.kind quiet != 3 && b.op.kind quiet != 3 && (a.op.kind quiet == 0 || b.op.kind quiet == 0 || (a.op.kind quiet == 1 && (b.op.kind quiet == 1 || b.op.kind quiet == 4)) || (a.op.kind quiet == 4 && b.op.kind quiet == 1) || a.op.offTarget quiet (b.op.target b.dst) || (a.op.isCallS && (b.op.target b.dst).isSome)))

/-- Numbers, each once. -/
def joinN : List Nat → List Nat → List Nat
  | [], acc => acc
  | x :: xs, acc => joinN xs (if acc.contains x then acc else x :: acc)
theorem joinN_mem : ∀ (xs acc : List Nat) (k : Nat), k ∈ joinN xs acc → k ∈ xs ∨ k ∈ acc
  | [], acc, k, h => .inr h
  | x :: xs, acc, k, h => by
    simp only [joinN] at h
    rcases joinN_mem xs _ k h with h | h
    · exact .inl (List.mem_cons_of_mem _ h)
    · split at h
      · exact .inr h
      · rcases List.mem_cons.1 h with h | h
        · exact .inl (by simp [h])
        · exact .inr h

/-- Each operation's forebears, by the edges. -/
def foreOf (ops : List Oper) : List (List Nat) :=
  ops.foldl (fun acc o => acc ++ [(o.after.toList.filter (Region.binds .any)).foldl (fun r e => joinN (e.on :: acc.getD e.on []) r) []]) []

def pairsOK (quiet : Bool) (ms : List MOper) (fore : List (List Nat)) : Bool :=
  (List.range ms.length).all fun j => (List.range j).all fun i =>
    (fore.getD j []).contains i || match ms[i]?, ms[j]? with | some a, some b => a.apart quiet b | _, _ => false

/-- An operation that watches the box of t. -/
def annot (t : Nat) (o : MOper) : MOper :=
  match o.op with
  | .load agg s a false => { o with op := .loadA t agg s a }
  | .store s (.tmp u) x => if u = t then { o with op := .storeR s t x } else o
  | .alloc z => if o.dst = some t then { o with op := .allocR z } else o
  | _ => o
/-- .. beside a call that knows nothing of that box. -/
def annotS (t : Nat) (o : MOper) : MOper :=
  match o.op with
  | .call f xs => { o with op := .callS f xs }
  | _ => annot t o
def targetsOf (ms : List MOper) : List Nat := ms.filterMap fun o => match o.op with
  | .store _ (.tmp u) _ => some u
  | .alloc _ => o.dst
  | _ => none

def edgesBack (ops : List Oper) : Bool := (List.range ops.length).all fun j => match ops[j]? with
  | some o => o.after.all fun e => !Region.binds .any e || e.on < j
  | none => true

def compC (P : Program) (mutable : Bool) (keep : List Nat) : Code → Option MCode
  | .skip => some .skip
  | .region _ ops draw =>
    match compOpers P mutable ops.toList ops.toList with
    | some ms =>
      if !draw then some (.region false ms)
      else if edgesBack ops.toList then
        if pairsOK false ms (foreOf ops.toList) then some (.region false ms)
        else if pairsOK true ms (foreOf ops.toList) then some (.region true ms)
        else match (targetsOf ms).find? (fun t => pairsOK false (ms.map (annotS t)) (foreOf ops.toList)) with
          | some t => some (.region false (ms.map (annotS t)))
          | none =>
            match (targetsOf ms).find? (fun t => pairsOK true (ms.map (annot t)) (foreOf ops.toList)) with
            | some t => some (.region true (ms.map (annot t)))
            | none => none
      else none
    | none => none
  | .seq a b =>
    match compC P mutable keep a, compC P mutable keep b with
    | some a, some b => some (.seq a b)
    | _, _ => none
  | .cond x a b =>
    match compX x, compC P mutable keep a, compC P mutable keep b with
    | some x, some a, some b => some (.cond x a b)
    | _, _, _ => none
  | .block id c => (compC P mutable keep c).map (.block id)
  | .loop c => (compC P mutable keep c).map (.loop keep)
  | .exit id => some (.exit id)
  | .ret => some .ret
  | _ => none

/-- Places that are read where they have not surely been written just before. -/
def tmpsOf (xs : List Operand) : List Nat := xs.filterMap fun | .tmp t => some t | _ => none

def far1 (ops : List Oper) : List Oper → List Nat → List Nat → List Nat × List Nat
  | [], av, out => (av, out)
  | o :: rest, av, out =>
    let rs := tmpsOf o.op.operands.toList ++ (match o.guard with | some (j, _) => ((ops[j]?).bind (·.dst)).toList | none => [])
    far1 ops rest (o.dst.toList ++ av) ((rs.filter fun t => !av.contains t) ++ out)

def hasLoop : Code → Bool
  | .loop _ => true
  | .seq a b => hasLoop a || hasLoop b
  | .cond _ a b => hasLoop a || hasLoop b
  | .block _ c => hasLoop c
  | .scope c => hasLoop c
  | _ => false

/-- Behind a loop nothing is sure. -/
def far : Code → List Nat → List Nat → List Nat × List Nat
  | .region _ ops _, av, out => far1 ops.toList ops.toList av out
  | .seq a b, av, out => let (av, out) := far a av out; far b av out
  | .cond x a b, av, out =>
    let out := (tmpsOf [x]).filter (fun t => !av.contains t) ++ out
    let (_, out) := far a av out
    let (_, out) := far b av out
    (if hasLoop a || hasLoop b then [] else av, out)
  | .block _ c, av, out => let (_, out) := far c av out; (if hasLoop c then [] else av, out)
  | .loop c, _, out => let (_, out) := far c [] out; ([], out)
  | .scope c, av, out => far c av out
  | _, av, out => (av, out)

def resTmps (P : Program) : List ResultVar → Option (List MRes)
  | [] => some []
  | .tmp t :: rs => (resTmps P rs).map (.tmp t :: ·)
  | .cell t ty :: rs =>
    match isAggT P ty, sizeT P ty with
    | some agg, some s => (resTmps P rs).map (.cell t agg s :: ·)
    | _, _ => none

def MRes.tmpOf : MRes → Nat
  | .tmp t => t
  | .cell t _ _ => t

def compFn (P : Program) (mutable : Bool) (fn : Func) : Option MFunc :=
  match fn.body, resTmps P fn.results.toList with
  | some c, some rs =>
    let keep := ((far c [] []).2 ++ rs.map MRes.tmpOf).eraseDups
    (compC P mutable keep c).map fun m => { nparams := fn.params.size + fn.nfree, ntmps := fn.ntmps, results := rs, body := m }
  | _, _ => none

end Go.Abs
