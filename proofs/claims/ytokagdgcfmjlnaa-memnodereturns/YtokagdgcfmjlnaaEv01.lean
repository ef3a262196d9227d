/- An evaluator of the model's code on abstract values: slices that are only read are lists, what a call makes for itself lies in a small store. What it computes is shown to be what the code does (next texts). -/
import Derived.WalkKit
set_option linter.all false
namespace Go.Ev

/-- Abstract values. lst, ep: immutable data by value. ptr, px, sl: into the store. ow, ob: owned data by value, at a call's boundary. -/
inductive AV where
  | v (x : Value)
  | agg (cs : List AV)
  | tup (vs : List AV)
  | lst (nil : Bool) (sz : Nat) (xs : List (List AV))
  | ep (cs : List AV) (off : Nat)
  | ptr (l i j : Nat)
  | px (l j n idx : Nat)
  | sl (nil : Bool) (l off : Nat) (cut : Option Nat)
  | clo (f : FuncId) (first caps : List AV)
  | ow (nil : Bool) (ty sz : Nat) (xs : List (List AV))
  | ob (ty : Nat) (cs : List AV)
  | un

/-- A block of the store. mode 0: gone; 1: own; 2: frozen. obj: one element whose cells are written out. -/
structure Blk where
  mode : Nat
  ty : Nat
  sz : Nat
  obj : Bool
  xs : List (List AV)

abbrev Store := List Blk

/-- The kinds of cells of a type. -/
inductive CK where
  | i (k : IntKind)
  | b
  | s
  | sl (e sz : Nat)
  | p (e : Nat)
  | f
  | x

def aggT (P : Program) (t : TypeId) : Bool :=
  match P.underlying t with
  | some (.struct _) => true
  | some (.array _ _) => true
  | _ => false

def ckN (P : Program) : Nat → TypeId → List CK
  | 0, _ => []
  | n + 1, t =>
    match P.underlying t with
    | some .bool => [.b]
    | some (.int k) => [.i k]
    | some .string => [.s]
    | some (.slice e) => [.sl e (P.cellsOf e)]
    | some (.pointer e) => [.p e]
    | some (.struct fs) => fs.toList.flatMap fun f => ckN P n f.type
    | some (.array len e) => (List.replicate len (ckN P n e)).flatten
    | some (.func _ _ _) => [.f]
    | _ => [.x]
def cks (P : Program) (t : TypeId) : List CK := ckN P 12 t

/-- The type is known, and its cells are. -/
def tyL (P : Program) (t : TypeId) : Bool :=
  (P.underlying t).isSome && Nat.beq (cks P t).length (P.cellsOf t) && (aggT P t || Nat.beq (P.cellsOf t) 1) && (P.info? t).isSome

def avInt : AV → Int
  | .v (.int _ n) => n
  | _ => 0
def isI (k : IntKind) : AV → Bool
  | .v (.int k' _) => decide (k = k')
  | _ => false
def avBool : AV → Bool
  | .v (.bool b) => b
  | _ => false
def isB : AV → Bool
  | .v (.bool _) => true
  | _ => false
def avStr : AV → ByteArray
  | .v (.string s) => s
  | _ => .empty
def isS : AV → Bool
  | .v (.string _) => true
  | _ => false
def avNil : AV → Bool
  | .lst b _ _ => b
  | .sl b _ _ _ => b
  | .ow b _ _ _ => b
  | _ => false
def avXs : AV → List (List AV)
  | .lst _ _ xs => xs
  | .ow _ _ _ xs => xs
  | _ => []
def isL (sz : Nat) : AV → Bool
  | .lst n s _ => Nat.beq s sz || n
  | _ => false
def isNP : AV → Bool
  | .v (.pointer none) => true
  | _ => false

/-- A data cell of a kind, as far as the kind tells its form; false: it is not of that form. -/
def shapeC : CK → AV → Bool × AV
  | .i k, c => (isI k c, .v (.int k (avInt c)))
  | .b, c => (isB c, .v (.bool (avBool c)))
  | .s, c => (isS c, .v (.string (avStr c)))
  | .sl _ sz, c => (isL sz c, .lst (avNil c) sz (avXs c))
  | _, _ => (false, .un)

def cellAt (cs : List AV) (j : Nat) : AV := cs.getD j .un

def shapeG : List CK → Nat → List AV → Bool
  | [], _, _ => true
  | [k], j, cs => (shapeC k (cellAt cs j)).1
  | k :: ks, j, cs => (shapeC k (cellAt cs j)).1 && shapeG ks (j + 1) cs
def shapeV : List CK → Nat → List AV → List AV
  | [], _, _ => []
  | k :: ks, j, cs => (shapeC k (cellAt cs j)).2 :: shapeV ks (j + 1) cs

/-- Can it stand in one cell of memory? -/
def okC : AV → Bool
  | .v (.agg _) => false
  | .v (.tuple _) => false
  | .v _ => true
  | .lst _ _ _ => true
  | .ep _ _ => true
  | .ptr _ _ _ => true
  | .px _ _ _ _ => true
  | .sl _ _ _ _ => true
  | .clo _ _ _ => true
  | _ => false
/-- The cells of a value. -/
def cells : AV → Option (List AV)
  | .agg cs => some cs
  | a => bif okC a then some [a] else none
def mkV (agg : Bool) (cs : List AV) : AV :=
  match agg with
  | true => .agg cs
  | false => cs.headD .un

def ofC : Value → AV
  | .slice none 0 0 => .lst true 0 []
  | x => .v x
def ofV : Value → AV
  | .agg cs => bif cs.toList.all fun c => okC (.v c) then .agg (cs.toList.map ofC) else .un
  | .tuple _ => .un
  | x => ofC x

def avIte (b : Bool) (x y : AV) : AV :=
  match x, y with
  | .v (.int k n), .v (.int k' m) => if k = k' then .v (.int k (cond b n m)) else bif b then x else y
  | .v (.bool p), .v (.bool q) => .v (.bool (cond b p q))
  | _, _ => bif b then x else y
/-- Cell i of cells of which the first bears number q. -/
def avSel (i : Nat) : Nat → List AV → AV
  | _, [] => .un
  | _, [c] => c
  | q, c :: cs => avIte (Nat.beq i q) c (avSel i (q + 1) cs)
def avPut (i : Nat) (p : AV) : Nat → List AV → List AV
  | _, [] => []
  | q, c :: cs => avIte (Nat.beq i q) p c :: avPut i p (q + 1) cs

def lget (xs : List (List AV)) (i : Nat) : List AV := xs.getD i []

def cutL {α : Type} (xs : List α) (off : Nat) : Option Nat → List α
  | none => xs.drop off
  | some n => (xs.drop off).take n

def isV : AV → Bool
  | .v x => okC (.v x)
  | _ => false
def plainCK : CK → Bool
  | .i _ => true
  | .b => true
  | .s => true
  | _ => false
def plainT (P : Program) (t : TypeId) : Bool := (cks P t).all plainCK
/-- The cut of what is left of a row. -/
def cutR (m : Nat) : Option Nat → Option Nat
  | none => none
  | some _ => some m

/-- What happens to a cell that becomes part of data: an owned slice is frozen. -/
def frz (σ : Store) (c : AV) : Option (AV × Store) :=
  match c with
  | .v x => some (.v x, σ)
  | .lst n sz xs => some (.lst n sz xs, σ)
  | .sl n l off cut =>
    match σ[l]? with
    | none => none
    | some b => bif Nat.beq b.mode 0 || b.obj then none else some (.lst n b.sz (cutL b.xs off cut), σ.set l { b with mode := 2 })
  | _ => none
def frzL (σ : Store) : List AV → Option (List AV × Store)
  | [] => some ([], σ)
  | c :: cs =>
    match frz σ c with
    | none => none
    | some (c', σ') =>
      match frzL σ' cs with
      | none => none
      | some (cs', σ'') => some (c' :: cs', σ'')

/-- The cells of a new row: plain ones stay as they are. -/
def frzP (P : Program) (t : TypeId) (σ : Store) (cs : List AV) : Option (List AV × Store) :=
  bif plainT P t then (bif cs.all isV then some (cs, σ) else none) else frzL σ cs

section ops
variable {R : Type} (P : Program) (σ : Store) (K : AV → Store → Option R)

/-- A new block for a value of a type. An array of more than 16 one-cell elements is a row of elements. -/
def newBox (t : TypeId) (cs : List AV) : Option R :=
  match P.underlying t with
  | some (.array n e) =>
    bif Nat.ble n 16 then K (.ptr σ.length 0 0) (σ ++ [⟨1, t, cs.length, true, [cs]⟩])
    else bif Nat.beq (P.cellsOf e) 1 && cs.all isV then K (.ptr σ.length 0 0) (σ ++ [⟨1, t, 1, false, cs.map fun c => [c]⟩])
    else none
  | _ => K (.ptr σ.length 0 0) (σ ++ [⟨1, t, cs.length, true, [cs]⟩])

/-- A nil slice of the call's own: an owned row without elements. -/
def phantom (e : TypeId) : AV × Store := (.sl true σ.length 0 none, σ ++ [⟨1, e, P.cellsOf e, false, []⟩])

/-- The zero cells of a type, the nil slices among them as owned rows. -/
def zeros : List CK → List Value → Store → Option (List AV × Store)
  | [], [], σ => some ([], σ)
  | k :: ks, c :: cs, σ =>
    match k, c with
    | .sl e _, .slice none 0 0 =>
      match zeros ks cs (phantom P σ e).2 with
      | none => none
      | some (r, σ') => some ((phantom P σ e).1 :: r, σ')
    | .sl _ _, _ => none
    | .x, _ => none
    | _, c =>
      bif !(okC (.v c)) then none else
      match zeros ks cs σ with
      | none => none
      | some (r, σ') => some (.v c :: r, σ')
  | _, _, _ => none
def zeroOf (t : TypeId) (σ : Store) : Option (List AV × Store) :=
  match (P.info? t).bind (·.zero) with
  | none => none
  | some z => zeros P (cks P t) z.cells.toList σ

def evAlloc (t : TypeId) : Option R :=
  match zeroOf P t σ with
  | none => none
  | some (cs, σ') => newBox P σ' K t cs

def evBox (t : TypeId) (a : AV) : Option R :=
  match cells a with
  | none => none
  | some cs => bif Nat.beq cs.length (P.cellsOf t) then newBox P σ K t cs else none

/-- The offset and the size of field or element i. -/
def placeOf (t : TypeId) (i : Nat) : Option (Nat × Nat) :=
  match P.underlying t with
  | some (.struct fs) => (fs[i]?).map fun f => (f.offset, P.cellsOf f.type)
  | some (.array n e) => bif Nat.blt i n then some (i * P.cellsOf e, P.cellsOf e) else none
  | _ => none
def fillAV (place : Nat → Option (Nat × Nat)) (cs : List AV) : List (Nat × AV) → Option (List AV)
  | [] => some cs
  | (i, a) :: r =>
    match place i with
    | none => none
    | some (off, size) =>
      match cells a with
      | none => none
      | some p => bif Nat.beq p.length size && Nat.ble (off + size) cs.length then fillAV place (cs.take off ++ p ++ cs.drop (off + size)) r else none
/-- The types of a struct's fields, of an array's elements are known. -/
def partsOk (t : TypeId) : Bool :=
  match P.underlying t with
  | some (.struct fs) => fs.toList.all fun f => (P.info? f.type).isSome
  | some (.array _ e) => (P.info? e).isSome
  | _ => false
def evBuild (t : TypeId) (parts : List (Nat × AV)) : Option R :=
  bif !(partsOk P t) then none else
  match zeroOf P t σ with
  | none => none
  | some (cs, σ') =>
    match fillAV (placeOf P t) cs parts with
    | none => none
    | some cs' => K (.agg cs') σ'

def chunks (size : Nat) : Nat → List AV → List (List AV)
  | 0, _ => []
  | n + 1, cs => cs.take size :: chunks size n (cs.drop size)
def evBuildSlice (t : TypeId) (n : Nat) (parts : List (Nat × AV)) : Option R :=
  match P.underlying t with
  | some (.slice e) =>
    match zeroOf P e σ with
    | none => none
    | some (z, σ') =>
      match fillAV (fun i => bif Nat.blt i n then some (i * P.cellsOf e, P.cellsOf e) else none) ((List.replicate n z).flatten) parts with
      | none => none
      | some cs =>
        match frzP P e σ' cs with
        | none => none
        | some (cs', σ'') =>
          bif Nat.beq z.length (P.cellsOf e) && Nat.ble (n * P.cellsOf e) 16777216 && Nat.blt 0 (P.cellsOf e) then
            K (.sl false σ''.length 0 none) (σ'' ++ [⟨1, e, P.cellsOf e, false, chunks (P.cellsOf e) n cs'⟩])
          else none
  | _ => none

/-- A whole array that lies as a row of cells. -/
def bigT (t : TypeId) (b : Blk) (i j : Nat) : Bool := aggT P t && Nat.beq b.sz 1 && Nat.beq b.ty t && Nat.beq i 0 && Nat.beq j 0 && Nat.blt 16 (P.cellsOf t)
def rowV1 (e : List AV) : Bool := match e with | [.v x] => okC (.v x) | _ => false
def evLoad (t : TypeId) (a : AV) : Option R :=
  bif !(tyL P t) then none else
  match a with
  | .ptr l i j =>
    match σ[l]? with
    | none => none
    | some b =>
      bif Nat.beq b.mode 0 then none else
      bif b.obj then
        bif Nat.ble (j + P.cellsOf t) (lget b.xs 0).length && Nat.beq i 0 then K (mkV (aggT P t) (((lget b.xs 0).drop j).take (P.cellsOf t))) σ else none
      else bif bigT P t b i j then cond (decide (b.xs.length = P.cellsOf t) && b.xs.all rowV1) (K (.agg (b.xs.map fun e => cellAt e 0)) σ) none
      else
        cond (decide (i < b.xs.length) && shapeG (cks P t) j (lget b.xs i)) (K (mkV (aggT P t) (shapeV (cks P t) j (lget b.xs i))) σ) none
  | .px l j n i =>
    match σ[l]? with
    | none => none
    | some b =>
      bif Nat.beq b.mode 0 || !b.obj || aggT P t || !(Nat.ble (j + n) (lget b.xs 0).length) then none
      else K (avSel i 0 (((lget b.xs 0).drop j).take n)) σ
  | .ep cs off => cond (shapeG (cks P t) off cs) (K (mkV (aggT P t) (shapeV (cks P t) off cs)) σ) none
  | _ => none

def evStore (t : TypeId) (a x : AV) (K : Store → Option R) : Option R :=
  bif !(tyL P t) then none else
  match a with
  | .ptr l i j =>
    match σ[l]? with
    | none => none
    | some b =>
      match cells x with
      | none => none
      | some xc =>
      bif bigT P t b i j && !b.obj then
        bif Nat.beq b.mode 1 then cond (decide (b.xs.length = P.cellsOf t) && (decide (xc.length = P.cellsOf t) && xc.all isV)) (K (σ.set l { b with xs := xc.map fun c => [c] })) none else none
      else
      bif !(Nat.beq b.mode 1) || !(Nat.beq xc.length (P.cellsOf t)) then none else
      bif b.obj then
        bif Nat.ble (j + P.cellsOf t) (lget b.xs 0).length && Nat.beq i 0 then
          K (σ.set l { b with xs := [(lget b.xs 0).take j ++ xc ++ (lget b.xs 0).drop (j + P.cellsOf t)] })
        else none
      else
        match frzL σ xc with
        | none => none
        | some (cs, σ') =>
          bif Nat.ble (j + P.cellsOf t) b.sz && (match σ'[l]? with | some b' => Nat.beq b'.mode 1 | none => false) then
            cond (decide (i < b.xs.length))
              (bif Nat.beq (P.cellsOf t) b.sz then K (σ'.set l { b with xs := b.xs.set i cs })
               else K (σ'.set l { b with xs := b.xs.set i ((lget b.xs i).take j ++ cs ++ (lget b.xs i).drop (j + P.cellsOf t)) })) none
          else none
  | .px l j n i =>
    match σ[l]?, x with
    | some b, .v y =>
      bif !(okC (.v y)) || !(Nat.beq b.mode 1) || !b.obj || aggT P t || !(Nat.ble (j + n) (lget b.xs 0).length) then none
      else K (σ.set l { b with xs := [(lget b.xs 0).take j ++ avPut i (.v y) 0 (((lget b.xs 0).drop j).take n) ++ (lget b.xs 0).drop (j + n)] })
    | _, _ => none
  | _ => none

/-- Cells that are compared by what they are. -/
def eqC1 : CK → AV → AV → Option Bool
  | .i _, .v (.int k n), .v (.int k' m) => if k = k' then some (n == m) else none
  | .b, .v (.bool a), .v (.bool b) => some (a == b)
  | .s, .v (.string a), .v (.string b) => some (a.toList == b.toList)
  | _, _, _ => none
def eqCs : List CK → List AV → List AV → Option Bool
  | [], [], [] => some true
  | [k], [x], [y] => eqC1 k x y
  | k :: ks, x :: xs, y :: ys =>
    match eqC1 k x y, eqCs ks xs ys with
    | some a, some b => some (a && b)
    | _, _ => none
  | _, _, _ => none
def offsB (tot : Nat) : Nat → List Field → Bool
  | o, [] => Nat.beq o tot
  | o, f :: fs => Nat.beq f.offset o && offsB tot (o + P.cellsOf f.type) fs
/-- Structs and arrays, of numbers, texts and bools in the end. -/
def eqT : Nat → TypeId → Bool
  | 0, _ => false
  | n + 1, t =>
    match P.underlying t with
    | some .bool => Nat.beq (P.cellsOf t) 1
    | some (.int _) => Nat.beq (P.cellsOf t) 1
    | some .string => Nat.beq (P.cellsOf t) 1
    | some (.array len e) => Nat.beq (len * P.cellsOf e) (P.cellsOf t) && eqT n e && tyL P e
    | some (.struct fs) => offsB P (P.cellsOf t) 0 fs.toList && fs.toList.all (fun f => f.name != "_" && eqT n f.type && tyL P f.type) && !P.stoodInHeld t
    | _ => false
def eqAgg (t : TypeId) (xs ys : List AV) : Option Bool :=
  bif aggT P t && eqT P 12 t && !(P.eqGuardType P.depth t) && Nat.beq xs.length (P.cellsOf t) && Nat.beq ys.length (P.cellsOf t) then eqCs (cks P t) xs ys else none

def eqAV (t : TypeId) (a b : AV) : Option Bool :=
  match a, b with
  | .v (.int k n), .v (.int k' m) => if k = k' then some (n == m) else none
  | .v (.string a), .v (.string b) => some (a.toList == b.toList)
  | a, b =>
    match P.underlying t with
    | some .bool => match a, b with | .v (.bool a), .v (.bool b) => some (a == b) | _, _ => none
    | some (.pointer _) =>
      match a, b with
      | .v (.pointer none), .v (.pointer none) => some true
      | .ptr _ _ _, .v (.pointer none) => some false
      | .v (.pointer none), .ptr _ _ _ => some false
      | .ep _ _, .v (.pointer none) => some false
      | _, _ => none
    | some (.slice _) =>
      match a, b with
      | .sl n _ _ _, .lst true _ [] => some n
      | .lst n _ _, .lst true _ [] => some n
      | _, _ => none
    | some (.func _ _ _) => match a, b with | .clo _ _ _, .v .nilFunc => some false | _, _ => none
    | _ => none

def eqAny (t : TypeId) (a b : AV) : Option Bool :=
  match a, b with
  | .agg xs, .agg ys => eqAgg P t xs ys
  | a, b => eqAV P t a b

def evBin (op : BinOp) (t : TypeId) (a b : AV) : Option R :=
  match op with
  | .eql => match eqAny P t a b with | some x => K (.v (.bool x)) σ | none => none
  | .neq => match eqAny P t a b with | some x => K (.v (.bool (!x))) σ | none => none
  | op =>
    match a, b with
    | .v (.int k x), .v (.int k' y) =>
      match op with
      | .shl => cond (decide (y < 0)) none (K (.v (.int k (k.wrap (x * 2 ^ (min y.toNat k.bits))))) σ)
      | .shr => cond (decide (y < 0)) none (K (.v (.int k (x.fdiv (2 ^ (min y.toNat k.bits))))) σ)
      | op =>
        if k = k' then
          match op with
          | .add => K (.v (.int k (k.wrap (x + y)))) σ
          | .sub => K (.v (.int k (k.wrap (x - y)))) σ
          | .mul => K (.v (.int k (k.wrap (x * y)))) σ
          | .quo => cond (decide (y = 0)) none (K (.v (.int k (k.wrap (x.tdiv y)))) σ)
          | .rem => cond (decide (y = 0)) none (K (.v (.int k (x.tmod y))) σ)
          | .and => K (.v (.int k (bits .and k x y))) σ
          | .or => K (.v (.int k (bits .or k x y))) σ
          | .xor => K (.v (.int k (bits .xor k x y))) σ
          | .andNot => K (.v (.int k (bits .andNot k x y))) σ
          | .lss => K (.v (.bool (decide (x < y)))) σ
          | .leq => K (.v (.bool (decide (x ≤ y)))) σ
          | .gtr => K (.v (.bool (decide (x > y)))) σ
          | .geq => K (.v (.bool (decide (x ≥ y)))) σ
          | _ => none
        else none
    | .v (.string x), .v (.string y) =>
      match op with
      | .add => cond (decide (x.size + y.size ≤ 9223372036854775807)) (K (.v (.string (x ++ y))) σ) none
      | .lss => K (.v (.bool (Op.bytesLess x.toList y.toList))) σ
      | _ => none
    | _, _ => none

def evUn (op : UnOp) (a : AV) : Option R :=
  match op, a with
  | .not, .v (.bool b) => K (.v (.bool (!b))) σ
  | .neg, .v (.int k n) => K (.v (.int k (k.wrap (0 - n)))) σ
  | .xor, .v (.int k n) => K (.v (.int k (bits .xor k (if k.signed then -1 else k.max) n))) σ
  | _, _ => none

/-- The list of a slice's elements. -/
def slXs (σ : Store) : AV → Option (List (List AV))
  | .lst _ _ xs => some xs
  | .sl _ l off cut =>
    match σ[l]? with
    | none => none
    | some b => bif Nat.beq b.mode 0 || b.obj then none else some (cutL b.xs off cut)
  | _ => none

def byteOf (c : List AV) : UInt8 := UInt8.ofNat (avInt (cellAt c 0)).toNat
def isByte (c : List AV) : Bool := match c with | [.v (.int .u8 _)] => true | _ => false
def ofByte (b : UInt8) : List AV := [.v (.int .u8 (b.toNat : Int))]

def evConv (src dst : TypeId) (a : AV) : Option R :=
  match P.underlying src, P.underlying dst, a with
  | some (.int _), some (.int k), .v (.int _ n) => K (.v (.int k (k.wrap n))) σ
  | some .string, some .string, .v (.string s) => K (.v (.string s)) σ
  | some .string, some (.slice e), .v (.string s) =>
    match P.underlying e with
    | some (.int .u8) => K (.sl false σ.length 0 none) (σ ++ [⟨1, e, 1, false, s.data.toList.map ofByte⟩])
    | _ => none
  | some (.slice e), some .string, a =>
    match P.underlying e, slXs σ a with
    | some (.int .u8), some xs => cond (xs.all isByte) (K (.v (.string ⟨(xs.map byteOf).toArray⟩)) σ) none
    | _, _ => none
  | _, _, _ => none

/-- Bytes as bytes: an own row's end is marked in the world; the store stays. -/
def slsl (src dst : TypeId) : Bool :=
  match P.underlying src, P.underlying dst with
  | some (.slice _), some (.slice _) => true
  | _, _ => false
def evMark (src dst : TypeId) (a : AV) : Option R :=
  match P.underlying dst, a with
  | some (.slice e), .sl false l off cut =>
    match P.underlying e, σ[l]? with
    | some (.int .u8), some b => bif Nat.beq src dst && Nat.beq b.mode 1 && !b.obj && Nat.beq off 0 then K (.sl false l off cut) σ else none
    | _, _ => none
  | _, _ => none

def slLen (σ : Store) : AV → Option Nat
  | .lst _ _ xs => some xs.length
  | .sl _ l off cut =>
    match σ[l]? with
    | none => none
    | some b => bif Nat.beq b.mode 0 || b.obj then none else some (match cut with | some n => n | none => b.xs.length - off)
  | _ => none

def optI : Option AV → Option (Option Int)
  | none => some none
  | some (.v (.int _ n)) => some (some n)
  | _ => none

def evSlice (t : TypeId) (a : AV) (lo hi : Option AV) : Option R :=
  match P.underlying t, a, optI lo, optI hi with
  | some .string, .v (.string s), some lo, some hi =>
    let l := lo.getD 0
    let h := hi.getD (s.size : Int)
    cond (decide (0 ≤ l) && decide (l ≤ h) && decide (h ≤ (s.size : Int))) (K (.v (.string (s.extract l.toNat h.toNat))) σ) none
  | some (.slice e), .lst nil sz xs, some lo, some hi =>
    bif !(Nat.beq sz (P.cellsOf e) && (P.info? e).isSome) then none else
    match lo, hi with
    | none, none => K (.lst nil sz xs) σ
    | some l, none => cond (decide (0 ≤ l) && decide (l ≤ (xs.length : Int))) (K (.lst nil sz (xs.drop l.toNat)) σ) none
    | none, some h => cond (decide (0 ≤ h) && decide (h ≤ (xs.length : Int))) (K (.lst nil sz (xs.take h.toNat)) σ) none
    | some l, some h => cond (decide (0 ≤ l) && decide (l ≤ h) && decide (h ≤ (xs.length : Int))) (K (.lst nil sz ((xs.drop l.toNat).take (h.toNat - l.toNat))) σ) none
  | some (.slice e), .sl nil i off cut, some lo, some hi =>
    match slLen σ (.sl nil i off cut), σ[i]? with
    | some n, some b =>
      bif !(Nat.beq b.sz (P.cellsOf e) && (P.info? e).isSome) then none else
      match lo, hi with
      | none, none => K (.sl nil i off cut) σ
      | some l, none => cond (decide (0 ≤ l) && decide (l ≤ (n : Int))) (K (.sl nil i (off + l.toNat) (cutR (n - l.toNat) cut)) σ) none
      | none, some h => cond (decide (0 ≤ h) && decide (h ≤ (n : Int))) (K (.sl nil i off (some h.toNat)) σ) none
      | some l, some h => cond (decide (0 ≤ l) && decide (l ≤ h) && decide (h ≤ (n : Int))) (K (.sl nil i (off + l.toNat) (some (h.toNat - l.toNat))) σ) none
    | _, _ => none
  | _, _, _, _ => none

def evFieldAddr (t : TypeId) (a : AV) (f : Nat) : Option R :=
  match P.underlying t with
  | some (.struct fs) =>
    match fs[f]? with
    | none => none
    | some fd =>
      bif Nat.beq (P.cellsOf fd.type) 0 then none else
      match a with
      | .ptr l i j => K (.ptr l i (j + fd.offset)) σ
      | .ep cs off => K (.ep cs (off + fd.offset)) σ
      | _ => none
  | _ => none

def evField (t : TypeId) (a : AV) (f : Nat) : Option R :=
  match P.underlying t, a with
  | some (.struct fs), .agg cs =>
    match fs[f]? with
    | none => none
    | some fd =>
      bif Nat.ble (fd.offset + P.cellsOf fd.type) cs.length && tyL P fd.type then
        K (mkV (aggT P fd.type) ((cs.drop fd.offset).take (P.cellsOf fd.type))) σ
      else none
  | _, _ => none

def isConst : Operand → Bool
  | .const _ => true
  | _ => false

def evIndexAddr (t : TypeId) (a i : AV) (const : Bool) : Option R :=
  match P.underlying t, i with
  | some (.slice e), .v (.int _ n) =>
    bif !(tyL P e && Nat.blt 0 (P.cellsOf e)) then none else
    match a with
    | .lst _ sz xs => bif Nat.beq sz (P.cellsOf e) then cond (decide (0 ≤ n) && decide (n < (xs.length : Int))) (K (.ep (lget xs n.toNat) 0) σ) none else none
    | .sl _ l off cut =>
      match slLen σ a, σ[l]? with
      | some len, some b =>
        bif Nat.beq b.sz (P.cellsOf e) then
          cond (decide (0 ≤ n) && decide (n < (len : Int))) (K (.ptr l (off + n.toNat) 0) σ) none
        else none
      | _, _ => none
    | _ => none
  | some (.array len e), .v (.int _ n) =>
    bif !(tyL P e) then none else
    match a with
    | .ptr l i j =>
      match σ[l]? with
      | none => none
      | some b =>
        bif b.obj then
          bif const then cond (decide (0 ≤ n) && decide (n < (len : Int))) (K (.ptr l i (j + n.toNat * P.cellsOf e)) σ) none
          else bif Nat.beq (P.cellsOf e) 1 && Nat.beq i 0 then cond (decide (0 ≤ n) && decide (n < (len : Int))) (K (.px l j len n.toNat) σ) none
          else none
        else
          bif !(Nat.beq b.mode 0) && Nat.beq b.ty t && Nat.beq i 0 && Nat.beq j 0 && Nat.beq (P.cellsOf e) b.sz then cond (decide (0 ≤ n) && decide (n < (len : Int))) (K (.ptr l n.toNat 0) σ) none
          else none
    | .ep cs off => cond (decide (0 ≤ n) && decide (n < (len : Int))) (K (.ep cs (off + n.toNat * P.cellsOf e)) σ) none
    | _ => none
  | _, _ => none

def evIndex (t : TypeId) (a i : AV) (const : Bool) : Option R :=
  match P.underlying t, a, i with
  | some (.array len e), .agg cs, .v (.int _ n) =>
    bif Nat.beq (len * P.cellsOf e) cs.length && tyL P e then
      bif const then
        cond (decide (0 ≤ n) && decide (n < (len : Int)))
          (K (mkV (aggT P e) ((cs.drop (n.toNat * P.cellsOf e)).take (P.cellsOf e))) σ) none
      else bif Nat.beq (P.cellsOf e) 1 && !(aggT P e) then
        cond (decide (0 ≤ n) && decide (n < (len : Int))) (K (avSel n.toNat 0 cs) σ) none
      else none
    else none
  | some .string, .v (.string s), .v (.int _ n) =>
    cond (decide (0 ≤ n) && decide (n < (s.size : Int))) (K (.v (.int .u8 ((s.data.getD n.toNat 0).toNat : Int))) σ) none
  | _, _, _ => none

def evMakeSlice (t : TypeId) (a b : AV) : Option R :=
  match P.underlying t, a, b with
  | some (.slice e), .v (.int _ n), .v (.int _ c) =>
    match zeroOf P e σ with
    | none => none
    | some (z, σ') =>
      match frzP P e σ' z with
      | none => none
      | some (z', σ'') =>
        bif Nat.beq z'.length (P.cellsOf e) && Nat.blt 0 (P.cellsOf e) then
          cond (decide (0 ≤ n) && decide (n ≤ c) && decide (c * (P.bytesOf e : Int) ≤ 281474976710656) && decide (c ≤ 281474976710656))
            (K (.sl false σ''.length 0 none) (σ'' ++ [⟨1, e, P.cellsOf e, false, List.replicate n.toNat z'⟩])) none
        else none
  | _, _, _ => none

def evLen (t : TypeId) (a : AV) : Option R :=
  match P.underlying t, a with
  | some .string, .v (.string s) => K (.v (.int .i64 (s.size : Int))) σ
  | some (.array n _), _ => K (.v (.int .i64 (n : Int))) σ
  | some (.pointer e), _ =>
    match P.underlying e with
    | some (.array n _) => K (.v (.int .i64 (n : Int))) σ
    | _ => none
  | some (.slice _), a =>
    match slLen σ a with
    | some n => K (.v (.int .i64 (n : Int))) σ
    | none => none
  | _, _ => none

/-- What is appended: the elements of a slice, the bytes of a string; with their size. -/
def appXs (σ : Store) : AV → Option (Nat × List (List AV))
  | .v (.string s) => some (1, s.data.toList.map ofByte)
  | .lst _ sz xs => some (sz, xs)
  | .sl _ l off cut =>
    match σ[l]? with
    | none => none
    | some b => bif Nat.beq b.mode 0 || b.obj then none else some (b.sz, cutL b.xs off cut)
  | _ => none

def isSS : TypeDesc → Bool
  | .string => true
  | .slice _ => true
  | _ => false
/-- The zero value has as many cells as the type. -/
def zOk (t : TypeId) : Bool :=
  match (P.info? t).bind (·.zero) with
  | none => false
  | some z => Nat.beq z.cells.size (P.cellsOf t)
/-- The front of a slice's elements. -/
def cutA {α : Type} (xs : List α) : Option Nat → List α
  | none => xs
  | some n => xs.take n
def evAppend (t : TypeId) (t2 : TypeId) (s x : AV) : Option R :=
  match P.underlying t, P.underlying t2 with
  | some (.slice e), some d =>
    bif !(isSS d) || !(Nat.blt 0 (P.bytesOf e) && Nat.blt 0 (P.cellsOf e) && zOk P e) then none else
    match appXs σ x with
    | none => none
    | some (ysz, ys) =>
      bif !(Nat.beq ysz (P.cellsOf e) || ys.isEmpty) then none else
      match s with
      | .lst true _ _ =>
        cond (decide (ys.length * P.bytesOf e ≤ 140737488355328))
          (K (.sl (ys.isEmpty) σ.length 0 none) (σ ++ [⟨1, e, P.cellsOf e, false, ys⟩])) none
      | .sl nil l off cut =>
        match σ[l]? with
        | none => none
        | some b =>
          bif Nat.beq b.mode 1 && !b.obj && Nat.beq off 0 && Nat.beq b.ty e && Nat.beq b.sz (P.cellsOf e) then
            cond (decide (((cutA b.xs cut).length + ys.length) * P.bytesOf e ≤ 140737488355328))
              (K (.sl (ys.isEmpty && nil) σ.length 0 none) (σ.set l { b with mode := 0 } ++ [⟨1, e, P.cellsOf e, false, cutA b.xs cut ++ ys⟩])) none
          else none
      | _ => none
  | _, _ => none

def evCopy (t : TypeId) (d s : AV) : Option R :=
  match P.underlying t with
  | some (.slice e) =>
    match appXs σ s, d with
    | some (ysz, ys), .sl _ l off cut =>
      match σ[l]?, slLen σ d with
      | some b, some n =>
        bif Nat.beq b.mode 1 && !b.obj && Nat.beq b.sz (P.cellsOf e) && (Nat.beq ysz (P.cellsOf e) || ys.isEmpty) && Nat.blt 0 (P.cellsOf e) then
          K (.v (.int .i64 ((min ys.length n : Nat) : Int))) (σ.set l { b with xs := b.xs.take off ++ ys.take (min ys.length n) ++ b.xs.drop (off + min ys.length n) })
        else none
      | _, _ => none
    | _, _ => none
  | _ => none

def evMin2 (a b : AV) : Option AV :=
  match a, b with
  | .v (.int k x), .v (.int _ y) => some (.v (.int k (if y < x then y else x)))
  | _, _ => none
def evMax2 (a b : AV) : Option AV :=
  match a, b with
  | .v (.int k x), .v (.int _ y) => some (.v (.int k (if y > x then y else x)))
  | _, _ => none

end ops
end Go.Ev
