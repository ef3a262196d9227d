/- An evaluator of the model's code on abstract values: slices that are only read are lists, what a call makes for itself lies in a small store. What it computes is shown to be what the code does (next texts). -/
import Derived.WalkKit
set_option linter.all false
namespace Go.Ev
inductive AV where
  | v (x : Value)
  | agg (cs : List AV)
  | tup (vs : List AV)
  | lst (nil : Bool) (sz : Nat) (xs : List (List AV))
  | ep (cs : List AV) (off : Nat)
  | ptr (l i j : Nat)
  | px (l j n idx : Nat)
  | sl (nil : Bool) (l off : Nat) (cut : Option Nat)
  | clo (f : FuncId) (first caps : List AV)
  | ow (nil : Bool) (ty sz : Nat) (xs : List (List AV))
  | ob (ty : Nat) (cs : List AV)
  | un
structure Blk where
  mode : Nat
  ty : Nat
  sz : Nat
  obj : Bool
  xs : List (List AV)
abbrev Store := List Blk
inductive CK where
  | i (k : IntKind)
  | b
  | s
  | sl (e sz : Nat)
  | p (e : Nat)
  | f
  | x
def aggT (P : Program) (t : TypeId) : Bool :=
  match P.underlying t with
  | some (.struct _) => true
  | some (.array _ _) => true
  | _ => false
def ckN (P : Program) : Nat → TypeId → List CK
  | 0, _ => []
  | n + 1, t =>
    match P.underlying t with
    | some .bool => [.b]
    | some (.int k) => [.i k]
    | some .string => [.s]
    | some (.slice e) => [.sl e (P.cellsOf e)]
    | some (.pointer e) => [.p e]
    | some (.struct fs) => fs.toList.flatMap fun f => ckN P n f.type
    | some (.array len e) => (List.replicate len (ckN P n e)).flatten
    | some (.func _ _ _) => [.f]
    | _ => [.x]
def cks (P : Program) (t : TypeId) : List CK := ckN P 12 t
def tyL (P : Program) (t : TypeId) : Bool :=
  (P.underlying t).isSome && Nat.beq (cks P t).length (P.cellsOf t) && (aggT P t || Nat.beq (P.cellsOf t) 1) && (P.info? t).isSome
def avInt : AV → Int
  | .v (.int _ n) => n
  | _ => 0
def isI (k : IntKind) : AV → Bool
  | .v (.int k' _) => decide (k = k')
  | _ => false
def avBool : AV → Bool
  | .v (.bool b) => b
  | _ => false
def isB : AV → Bool
  | .v (.bool _) => true
  | _ => false
def avStr : AV → ByteArray
  | .v (.string s) => s
  | _ => .empty
def isS : AV → Bool
  | .v (.string _) => true
  | _ => false
def avNil : AV → Bool
  | .lst b _ _ => b
  | .sl b _ _ _ => b
  | .ow b _ _ _ => b
  | _ => false
def avXs : AV → List (List AV)
  | .lst _ _ xs => xs
  | .ow _ _ _ xs => xs
  | _ => []
def isL (sz : Nat) : AV → Bool
  | .lst n s _ => Nat.beq s sz || n
  | _ => false
def isNP : AV → Bool
  | .v (.pointer none) => true
  | _ => false
def shapeC : CK → AV → Bool × AV
  | .i k, c => (isI k c, .v (.int k (avInt c)))
  | .b, c => (isB c, .v (.bool (avBool c)))
  | .s, c => (isS c, .v (.string (avStr c)))
  | .sl _ sz, c => (isL sz c, .lst (avNil c) sz (avXs c))
  | _, _ => (false, .un)
def cellAt (cs : List AV) (j : Nat) : AV := cs.getD j .un
def shapeG : List CK → Nat → List AV → Bool
  | [], _, _ => true
  | [k], j, cs => (shapeC k (cellAt cs j)).1
  | k :: ks, j, cs => (shapeC k (cellAt cs j)).1 && shapeG ks (j + 1) cs
def shapeV : List CK → Nat → List AV → List AV
  | [], _, _ => []
  | k :: ks, j, cs => (shapeC k (cellAt cs j)).2 :: shapeV ks (j + 1) cs
def okC : AV → Bool
  | .v (.agg _) => false
  | .v (.tuple _) => false
  | .v _ => true
  | .lst _ _ _ => true
  | .ep _ _ => true
  | .ptr _ _ _ => true
  | .px _ _ _ _ => true
  | .sl _ _ _ _ => true
  | .clo _ _ _ => true
  | _ => false
def cells : AV → Option (List AV)
  | .agg cs => some cs
  | a => bif okC a then some [a] else none
def mkV (agg : Bool) (cs : List AV) : AV :=
  match agg with
  | true => .agg cs
  | false => cs.headD .un
def ofC : Value → AV
  | .slice none 0 0 => .lst true 0 []
  | x => .v x
def ofV : Value → AV
  | .agg cs => bif cs.toList.all fun c => okC (.v c) then .agg (cs.toList.map ofC) else .un
  | .tuple _ => .un
  | x => ofC x
def avIte (b : Bool) (x y : AV) : AV :=
  match x, y with
  | .v (.int k n), .v (.int k' m) => if k = k' then .v (.int k (cond b n m)) else bif b then x else y
  | .v (.bool p), .v (.bool q) => .v (.bool (cond b p q))
  | .v (.string p), .v (.string q) => .v (.string (cond b p q))
  | _, _ => bif b then x else y
def avSel (i : Nat) : Nat → List AV → AV
  | _, [] => .un
  | _, [c] => c
  | q, c :: cs => avIte (Nat.beq i q) c (avSel i (q + 1) cs)
def avPut (i : Nat) (p : AV) : Nat → List AV → List AV
  | _, [] => []
  | q, c :: cs => avIte (Nat.beq i q) p c :: avPut i p (q + 1) cs
def lget (xs : List (List AV)) (i : Nat) : List AV := xs.getD i []
def cutL {α : Type} (xs : List α) (off : Nat) : Option Nat → List α
  | none => xs.drop off
  | some n => (xs.drop off).take n
def isV : AV → Bool
  | .v x => okC (.v x)
  | _ => false
def plainCK : CK → Bool
  | .i _ => true
  | .b => true
  | .s => true
  | _ => false
def plainT (P : Program) (t : TypeId) : Bool := (cks P t).all plainCK
def cutR (m : Nat) : Option Nat → Option Nat
  | none => none
  | some _ => some m
def frz (σ : Store) (c : AV) : Option (AV × Store) :=
  match c with
  | .v x => some (.v x, σ)
  | .lst n sz xs => some (.lst n sz xs, σ)
  | .sl n l off cut =>
    match σ[l]? with
    | none => none
    | some b => bif Nat.beq b.mode 0 || b.obj then none else some (.lst n b.sz (cutL b.xs off cut), σ.set l { b with mode := 2 })
  | _ => none
def frzL (σ : Store) : List AV → Option (List AV × Store)
  | [] => some ([], σ)
  | c :: cs =>
    match frz σ c with
    | none => none
    | some (c', σ') =>
      match frzL σ' cs with
      | none => none
      | some (cs', σ'') => some (c' :: cs', σ'')
def frzP (P : Program) (t : TypeId) (σ : Store) (cs : List AV) : Option (List AV × Store) :=
  bif plainT P t then (bif cs.all isV then some (cs, σ) else none) else frzL σ cs
section ops
variable {R : Type} (P : Program) (σ : Store) (K : AV → Store → Option R)
def newBox (t : TypeId) (cs : List AV) : Option R :=
  match P.underlying t with
  | some (.array n e) =>
    bif Nat.ble n 16 then K (.ptr σ.length 0 0) (σ ++ [⟨1, t, cs.length, true, [cs]⟩])
    else bif Nat.beq (P.cellsOf e) 1 && cs.all isV then K (.ptr σ.length 0 0) (σ ++ [⟨1, t, 1, false, cs.map fun c => [c]⟩])
    else none
  | _ => K (.ptr σ.length 0 0) (σ ++ [⟨1, t, cs.length, true, [cs]⟩])
def phantom (e : TypeId) : AV × Store := (.sl true σ.length 0 none, σ ++ [⟨1, e, P.cellsOf e, false, []⟩])
def zeros : List CK → List Value → Store → Option (List AV × Store)
  | [], [], σ => some ([], σ)
  | k :: ks, c :: cs, σ =>
    match k, c with
    | .sl e _, .slice none 0 0 =>
      match zeros ks cs (phantom P σ e).2 with
      | none => none
      | some (r, σ') => some ((phantom P σ e).1 :: r, σ')
    | .sl _ _, _ => none
    | .x, _ => none
    | _, c =>
      bif !(okC (.v c)) then none else
      match zeros ks cs σ with
      | none => none
      | some (r, σ') => some (.v c :: r, σ')
  | _, _, _ => none
def zeroOf (t : TypeId) (σ : Store) : Option (List AV × Store) :=
  match (P.info? t).bind (·.zero) with
  | none => none
  | some z => zeros P (cks P t) z.cells.toList σ
def evAlloc (t : TypeId) : Option R :=
  match zeroOf P t σ with
  | none => none
  | some (cs, σ') => newBox P σ' K t cs
def evBox (t : TypeId) (a : AV) : Option R :=
  match cells a with
  | none => none
  | some cs => bif Nat.beq cs.length (P.cellsOf t) then newBox P σ K t cs else none
def placeOf (t : TypeId) (i : Nat) : Option (Nat × Nat) :=
  match P.underlying t with
  | some (.struct fs) => (fs[i]?).map fun f => (f.offset, P.cellsOf f.type)
  | some (.array n e) => bif Nat.blt i n then some (i * P.cellsOf e, P.cellsOf e) else none
  | _ => none
def fillAV (place : Nat → Option (Nat × Nat)) (cs : List AV) : List (Nat × AV) → Option (List AV)
  | [] => some cs
  | (i, a) :: r =>
    match place i with
    | none => none
    | some (off, size) =>
      match cells a with
      | none => none
      | some p => bif Nat.beq p.length size && Nat.ble (off + size) cs.length then fillAV place (cs.take off ++ p ++ cs.drop (off + size)) r else none
def partsOk (t : TypeId) : Bool :=
  match P.underlying t with
  | some (.struct fs) => fs.toList.all fun f => (P.info? f.type).isSome
  | some (.array _ e) => (P.info? e).isSome
  | _ => false
def evBuild (t : TypeId) (parts : List (Nat × AV)) : Option R :=
  bif !(partsOk P t) then none else
  match zeroOf P t σ with
  | none => none
  | some (cs, σ') =>
    match fillAV (placeOf P t) cs parts with
    | none => none
    | some cs' => K (.agg cs') σ'
def chunks (size : Nat) : Nat → List AV → List (List AV)
  | 0, _ => []
  | n + 1, cs => cs.take size :: chunks size n (cs.drop size)
def evBuildSlice (t : TypeId) (n : Nat) (parts : List (Nat × AV)) : Option R :=
  match P.underlying t with
  | some (.slice e) =>
    match zeroOf P e σ with
    | none => none
    | some (z, σ') =>
      match fillAV (fun i => bif Nat.blt i n then some (i * P.cellsOf e, P.cellsOf e) else none) ((List.replicate n z).flatten) parts with
      | none => none
      | some cs =>
        match frzP P e σ' cs with
        | none => none
        | some (cs', σ'') =>
          bif Nat.beq z.length (P.cellsOf e) && Nat.ble (n * P.cellsOf e) 16777216 && Nat.blt 0 (P.cellsOf e) then
            K (.sl false σ''.length 0 none) (σ'' ++ [⟨1, e, P.cellsOf e, false, chunks (P.cellsOf e) n cs'⟩])
          else none
  | _ => none
def bigT (t : TypeId) (b : Blk) (i j : Nat) : Bool := aggT P t && Nat.beq b.sz 1 && Nat.beq b.ty t && Nat.beq i 0 && Nat.beq j 0 && Nat.blt 16 (P.cellsOf t)
def rowV1 (e : List AV) : Bool := match e with | [.v x] => okC (.v x) | _ => false
def evLoad (t : TypeId) (a : AV) : Option R :=
  bif !(tyL P t) then none else
  match a with
  | .ptr l i j =>
    match σ[l]? with
    | none => none
    | some b =>
      bif Nat.beq b.mode 0 then none else
      bif b.obj then
        bif Nat.ble (j + P.cellsOf t) (lget b.xs 0).length && Nat.beq i 0 then K (mkV (aggT P t) (((lget b.xs 0).drop j).take (P.cellsOf t))) σ else none
      else bif bigT P t b i j then cond (decide (b.xs.length = P.cellsOf t) && b.xs.all rowV1) (K (.agg (b.xs.map fun e => cellAt e 0)) σ) none
      else
        cond (decide (i < b.xs.length) && shapeG (cks P t) j (lget b.xs i)) (K (mkV (aggT P t) (shapeV (cks P t) j (lget b.xs i))) σ) none
  | .px l j n i =>
    match σ[l]? with
    | none => none
    | some b =>
      bif Nat.beq b.mode 0 || !b.obj || aggT P t || !(Nat.ble (j + n) (lget b.xs 0).length) then none
      else K (avSel i 0 (((lget b.xs 0).drop j).take n)) σ
  | .ep cs off => cond (shapeG (cks P t) off cs) (K (mkV (aggT P t) (shapeV (cks P t) off cs)) σ) none
  | _ => none
def evStore (t : TypeId) (a x : AV) (K : Store → Option R) : Option R :=
  bif !(tyL P t) then none else
  match a with
  | .ptr l i j =>
    match σ[l]? with
    | none => none
    | some b =>
      match cells x with
      | none => none
      | some xc =>
      bif bigT P t b i j && !b.obj then
        bif Nat.beq b.mode 1 then cond (decide (b.xs.length = P.cellsOf t) && (decide (xc.length = P.cellsOf t) && xc.all isV)) (K (σ.set l { b with xs := xc.map fun c => [c] })) none else none
      else
      bif !(Nat.beq b.mode 1) || !(Nat.beq xc.length (P.cellsOf t)) then none else
      bif b.obj then
        bif Nat.ble (j + P.cellsOf t) (lget b.xs 0).length && Nat.beq i 0 then
          K (σ.set l { b with xs := [(lget b.xs 0).take j ++ xc ++ (lget b.xs 0).drop (j + P.cellsOf t)] })
        else none
      else
        match frzL σ xc with
        | none => none
        | some (cs, σ') =>
          cond (decide (j + P.cellsOf t ≤ b.sz) && (match σ'[l]? with | some b' => Nat.beq b'.mode 1 | none => false))
            (cond (decide (i < b.xs.length))
              (bif Nat.beq (P.cellsOf t) b.sz then K (σ'.set l { b with xs := b.xs.set i cs })
               else K (σ'.set l { b with xs := b.xs.set i ((lget b.xs i).take j ++ cs ++ (lget b.xs i).drop (j + P.cellsOf t)) })) none)
            none
  | .px l j n i =>
    match σ[l]?, x with
    | some b, .v y =>
      bif !(okC (.v y)) || !(Nat.beq b.mode 1) || !b.obj || aggT P t || !(Nat.ble (j + n) (lget b.xs 0).length) then none
      else K (σ.set l { b with xs := [(lget b.xs 0).take j ++ avPut i (.v y) 0 (((lget b.xs 0).drop j).take n) ++ (lget b.xs 0).drop (j + n)] })
    | _, _ => none
  | _ => none
def eqC1 : CK → AV → AV → Option Bool
  | .i _, .v (.int k n), .v (.int k' m) => if k = k' then some (n == m) else none
  | .b, .v (.bool a), .v (.bool b) => some (a == b)
  | .s, .v (.string a), .v (.string b) => some (a.toList == b.toList)
  | _, _, _ => none
def eqCs : List CK → List AV → List AV → Option Bool
  | [], [], [] => some true
  | [k], [x], [y] => eqC1 k x y
  | k :: ks, x :: xs, y :: ys =>
    match eqC1 k x y, eqCs ks xs ys with
    | some a, some b => some (a && b)
    | _, _ => none
  | _, _, _ => none
def offsB (tot : Nat) : Nat → List Field → Bool
  | o, [] => Nat.beq o tot
  | o, f :: fs => Nat.beq f.offset o && offsB tot (o + P.cellsOf f.type) fs
def eqT : Nat → TypeId → Bool
  | 0, _ => false
  | n + 1, t =>
    match P.underlying t with
    | some .bool => Nat.beq (P.cellsOf t) 1
    | some (.int _) => Nat.beq (P.cellsOf t) 1
    | some .string => Nat.beq (P.cellsOf t) 1
    | some (.array len e) => Nat.beq (len * P.cellsOf e) (P.cellsOf t) && eqT n e && tyL P e
    | some (.struct fs) => offsB P (P.cellsOf t) 0 fs.toList && fs.toList.all (fun f => f.name != "_" && eqT n f.type && tyL P f.type) && !P.stoodInHeld t
    | _ => false
def eqAgg (t : TypeId) (xs ys : List AV) : Option Bool :=
  bif aggT P t && eqT P 12 t && !(P.eqGuardType P.depth t) && Nat.beq xs.length (P.cellsOf t) && Nat.beq ys.length (P.cellsOf t) then eqCs (cks P t) xs ys else none
def eqAV (t : TypeId) (a b : AV) : Option Bool :=
  match a, b with
  | .v (.int k n), .v (.int k' m) => if k = k' then some (n == m) else none
  | .v (.string a), .v (.string b) => some (a.toList == b.toList)
  | a, b =>
    match P.underlying t with
    | some .bool => match a, b with | .v (.bool a), .v (.bool b) => some (a == b) | _, _ => none
    | some (.pointer _) =>
      match a, b with
      | .v (.pointer none), .v (.pointer none) => some true
      | .ptr _ _ _, .v (.pointer none) => some false
      | .v (.pointer none), .ptr _ _ _ => some false
      | .ep _ _, .v (.pointer none) => some false
      | _, _ => none
    | some (.slice _) =>
      match a, b with
      | .sl n _ _ _, .lst true _ [] => some n
      | .lst n _ _, .lst true _ [] => some n
      | _, _ => none
    | some (.func _ _ _) => match a, b with | .clo _ _ _, .v .nilFunc => some false | _, _ => none
    | _ => none
def eqAny (t : TypeId) (a b : AV) : Option Bool :=
  match a, b with
  | .agg xs, .agg ys => eqAgg P t xs ys
  | a, b => eqAV P t a b
def evBin (op : BinOp) (t : TypeId) (a b : AV) : Option R :=
  match op with
  | .eql => match eqAny P t a b with | some x => K (.v (.bool x)) σ | none => none
  | .neq => match eqAny P t a b with | some x => K (.v (.bool (!x))) σ | none => none
  | op =>
    match a, b with
    | .v (.int k x), .v (.int k' y) =>
      match op with
      | .shl => cond (decide (y < 0)) none (K (.v (.int k (k.wrap (x * 2 ^ (min y.toNat k.bits))))) σ)
      | .shr => cond (decide (y < 0)) none (K (.v (.int k (x.fdiv (2 ^ (min y.toNat k.bits))))) σ)
      | op =>
        if k = k' then
          match op with
          | .add => K (.v (.int k (k.wrap (x + y)))) σ
          | .sub => K (.v (.int k (k.wrap (x - y)))) σ
          | .mul => K (.v (.int k (k.wrap (x * y)))) σ
          | .quo => cond (decide (y = 0)) none (K (.v (.int k (k.wrap (x.tdiv y)))) σ)
          | .rem => cond (decide (y = 0)) none (K (.v (.int k (x.tmod y))) σ)
          | .and => K (.v (.int k (bits .and k x y))) σ
          | .or => K (.v (.int k (bits .or k x y))) σ
          | .xor => K (.v (.int k (bits .xor k x y))) σ
          | .andNot => K (.v (.int k (bits .andNot k x y))) σ
          | .lss => K (.v (.bool (decide (x < y)))) σ
          | .leq => K (.v (.bool (decide (x ≤ y)))) σ
          | .gtr => K (.v (.bool (decide (x > y)))) σ
          | .geq => K (.v (.bool (decide (x ≥ y)))) σ
          | _ => none
        else none
    | .v (.string x), .v (.string y) =>
      match op with
      | .add => cond (decide (x.size + y.size ≤ 9223372036854775807)) (K (.v (.string (x ++ y))) σ) none
      | .lss => K (.v (.bool (Op.bytesLess x.toList y.toList))) σ
      | _ => none
    | _, _ => none
def evUn (op : UnOp) (a : AV) : Option R :=
  match op, a with
  | .not, .v (.bool b) => K (.v (.bool (!b))) σ
  | .neg, .v (.int k n) => K (.v (.int k (k.wrap (0 - n)))) σ
  | .xor, .v (.int k n) => K (.v (.int k (bits .xor k (if k.signed then -1 else k.max) n))) σ
  | _, _ => none
def slXs (σ : Store) : AV → Option (List (List AV))
  | .lst _ _ xs => some xs
  | .sl _ l off cut =>
    match σ[l]? with
    | none => none
    | some b => bif Nat.beq b.mode 0 || b.obj then none else some (cutL b.xs off cut)
  | _ => none
def byteOf (c : List AV) : UInt8 := UInt8.ofNat (avInt (cellAt c 0)).toNat
def isByte (c : List AV) : Bool := match c with | [.v (.int .u8 _)] => true | _ => false
def ofByte (b : UInt8) : List AV := [.v (.int .u8 (b.toNat : Int))]
def evConv (src dst : TypeId) (a : AV) : Option R :=
  match P.underlying src, P.underlying dst, a with
  | some (.int _), some (.int k), .v (.int _ n) => K (.v (.int k (k.wrap n))) σ
  | some .string, some .string, .v (.string s) => K (.v (.string s)) σ
  | some .string, some (.slice e), .v (.string s) =>
    match P.underlying e with
    | some (.int .u8) => K (.sl false σ.length 0 none) (σ ++ [⟨1, e, 1, false, s.data.toList.map ofByte⟩])
    | _ => none
  | some (.slice e), some .string, a =>
    match P.underlying e, slXs σ a with
    | some (.int .u8), some xs => cond (xs.all isByte) (K (.v (.string ⟨(xs.map byteOf).toArray⟩)) σ) none
    | _, _ => none
  | _, _, _ => none
def slsl (src dst : TypeId) : Bool :=
  match P.underlying src, P.underlying dst with
  | some (.slice _), some (.slice _) => true
  | _, _ => false
def evMark (src dst : TypeId) (a : AV) : Option R :=
  match P.underlying dst, a with
  | some (.slice e), .sl false l off cut =>
    match P.underlying e, σ[l]? with
    | some (.int .u8), some b => bif Nat.beq src dst && Nat.beq b.mode 1 && !b.obj && Nat.beq off 0 && Nat.beq b.sz 1 then K (.sl false l off cut) σ else none
    | _, _ => none
  | _, _ => none
def slLen (σ : Store) : AV → Option Nat
  | .lst _ _ xs => some xs.length
  | .sl _ l off cut =>
    match σ[l]? with
    | none => none
    | some b => bif Nat.beq b.mode 0 || b.obj then none else some (match cut with | some n => n | none => b.xs.length - off)
  | _ => none
def optI : Option AV → Option (Option Int)
  | none => some none
  | some (.v (.int _ n)) => some (some n)
  | _ => none
def evSlice (t : TypeId) (a : AV) (lo hi : Option AV) : Option R :=
  match P.underlying t, a, optI lo, optI hi with
  | some .string, .v (.string s), some lo, some hi =>
    let l := lo.getD 0
    let h := hi.getD (s.size : Int)
    cond (decide (0 ≤ l) && decide (l ≤ h) && decide (h ≤ (s.size : Int))) (K (.v (.string (s.extract l.toNat h.toNat))) σ) none
  | some (.slice e), .lst nil sz xs, some lo, some hi =>
    bif !(Nat.beq sz (P.cellsOf e) && (P.info? e).isSome) then none else
    match lo, hi with
    | none, none => K (.lst nil sz xs) σ
    | some l, none => cond (decide (0 ≤ l) && decide (l ≤ (xs.length : Int))) (K (.lst nil sz (xs.drop l.toNat)) σ) none
    | none, some h => cond (decide (0 ≤ h) && decide (h ≤ (xs.length : Int))) (K (.lst nil sz (xs.take h.toNat)) σ) none
    | some l, some h => cond (decide (0 ≤ l) && decide (l ≤ h) && decide (h ≤ (xs.length : Int))) (K (.lst nil sz ((xs.drop l.toNat).take (h.toNat - l.toNat))) σ) none
  | some (.slice e), .sl nil i off cut, some lo, some hi =>
    match slLen σ (.sl nil i off cut), σ[i]? with
    | some n, some b =>
      bif !(Nat.beq b.sz (P.cellsOf e) && (P.info? e).isSome) then none else
      match lo, hi with
      | none, none => K (.sl nil i off cut) σ
      | some l, none => cond (decide (0 ≤ l) && decide (l ≤ (n : Int))) (K (.sl nil i (off + l.toNat) (cutR (n - l.toNat) cut)) σ) none
      | none, some h => cond (decide (0 ≤ h) && decide (h ≤ (n : Int))) (K (.sl nil i off (some h.toNat)) σ) none
      | some l, some h => cond (decide (0 ≤ l) && decide (l ≤ h) && decide (h ≤ (n : Int))) (K (.sl nil i (off + l.toNat) (some (h.toNat - l.toNat))) σ) none
    | _, _ => none
  | _, _, _, _ => none
def evEat (t : TypeId) (a : AV) (hi : Option AV) : Option R :=
  match P.underlying t, a, hi with
  | some (.slice e), .sl nil l 0 none, some (.v (.int _ h)) =>
    match σ[l]? with
    | some b =>
      bif Nat.beq b.mode 1 && !b.obj && Nat.beq b.sz (P.cellsOf e) && (P.info? e).isSome then
        cond (decide (0 ≤ h) && decide (h ≤ (b.xs.length : Int))) (K (.sl nil σ.length 0 none) (σ.set l { b with mode := 0 } ++ [⟨1, b.ty, b.sz, false, b.xs.take h.toNat⟩])) none
      else none
    | none => none
  | _, _, _ => none
def isVal : AV → Bool
  | .v _ => true
  | _ => false
def evView (t : TypeId) (a lo : AV) (hi : Option AV) : Option R :=
  match P.underlying t, a, lo, hi with
  | some (.array n e), .ptr l 0 j, .v (.int _ x), some (.v (.int _ y)) =>
    match σ[l]? with
    | some b =>
      bif Nat.beq b.mode 1 && b.obj && Nat.beq (P.cellsOf e) 1 && (P.info? e).isSome && Nat.ble (j + n) (lget b.xs 0).length && (((lget b.xs 0).drop j).take n).all isVal then
        cond (decide (0 ≤ x) && decide (x ≤ y) && decide (y ≤ (n : Int))) (K (.lst false 1 ((((lget b.xs 0).drop (j + x.toNat)).take (y.toNat - x.toNat)).map fun c => [c])) (σ.set l { b with mode := 2 })) none
      else none
    | none => none
  | _, _, _, _ => none
def evFieldAddr (t : TypeId) (a : AV) (f : Nat) : Option R :=
  match P.underlying t with
  | some (.struct fs) =>
    match fs[f]? with
    | none => none
    | some fd =>
      bif Nat.beq (P.cellsOf fd.type) 0 then none else
      match a with
      | .ptr l i j => K (.ptr l i (j + fd.offset)) σ
      | .ep cs off => K (.ep cs (off + fd.offset)) σ
      | _ => none
  | _ => none
def evField (t : TypeId) (a : AV) (f : Nat) : Option R :=
  match P.underlying t, a with
  | some (.struct fs), .agg cs =>
    match fs[f]? with
    | none => none
    | some fd =>
      bif Nat.ble (fd.offset + P.cellsOf fd.type) cs.length && tyL P fd.type then
        K (mkV (aggT P fd.type) ((cs.drop fd.offset).take (P.cellsOf fd.type))) σ
      else none
  | _, _ => none
def isConst : Operand → Bool
  | .const _ => true
  | _ => false
def evIndexAddr (t : TypeId) (a i : AV) (const : Bool) : Option R :=
  match P.underlying t, i with
  | some (.slice e), .v (.int _ n) =>
    bif !(tyL P e && Nat.blt 0 (P.cellsOf e)) then none else
    match a with
    | .lst _ sz xs => bif Nat.beq sz (P.cellsOf e) then cond (decide (0 ≤ n) && decide (n < (xs.length : Int))) (K (.ep (lget xs n.toNat) 0) σ) none else none
    | .sl _ l off cut =>
      match slLen σ a, σ[l]? with
      | some len, some b =>
        bif Nat.beq b.sz (P.cellsOf e) then
          cond (decide (0 ≤ n) && decide (n < (len : Int))) (K (.ptr l (off + n.toNat) 0) σ) none
        else none
      | _, _ => none
    | _ => none
  | some (.array len e), .v (.int _ n) =>
    bif !(tyL P e) then none else
    match a with
    | .ptr l i j =>
      match σ[l]? with
      | none => none
      | some b =>
        bif b.obj then
          bif const then cond (decide (0 ≤ n) && decide (n < (len : Int))) (K (.ptr l i (j + n.toNat * P.cellsOf e)) σ) none
          else bif Nat.beq (P.cellsOf e) 1 && Nat.beq i 0 then cond (decide (0 ≤ n) && decide (n < (len : Int))) (K (.px l j len n.toNat) σ) none
          else none
        else
          bif !(Nat.beq b.mode 0) && Nat.beq b.ty t && Nat.beq i 0 && Nat.beq j 0 && Nat.beq (P.cellsOf e) b.sz then cond (decide (0 ≤ n) && decide (n < (len : Int))) (K (.ptr l n.toNat 0) σ) none
          else cond (decide (0 ≤ n) && decide (n < (len : Int))) (K (.ptr l i (j + n.toNat * P.cellsOf e)) σ) none
    | .ep cs off => cond (decide (0 ≤ n) && decide (n < (len : Int))) (K (.ep cs (off + n.toNat * P.cellsOf e)) σ) none
    | _ => none
  | _, _ => none
def evIndex (t : TypeId) (a i : AV) (const : Bool) : Option R :=
  match P.underlying t, a, i with
  | some (.array len e), .agg cs, .v (.int _ n) =>
    bif Nat.beq (len * P.cellsOf e) cs.length && tyL P e then
      bif const then
        cond (decide (0 ≤ n) && decide (n < (len : Int)))
          (K (mkV (aggT P e) ((cs.drop (n.toNat * P.cellsOf e)).take (P.cellsOf e))) σ) none
      else bif Nat.beq (P.cellsOf e) 1 && !(aggT P e) then
        cond (decide (0 ≤ n) && decide (n < (len : Int))) (K (avSel n.toNat 0 cs) σ) none
      else none
    else none
  | some .string, .v (.string s), .v (.int _ n) =>
    cond (decide (0 ≤ n) && decide (n < (s.size : Int))) (K (.v (.int .u8 ((s.data.getD n.toNat 0).toNat : Int))) σ) none
  | _, _, _ => none
def evMakeSlice (t : TypeId) (a b : AV) : Option R :=
  match P.underlying t, a, b with
  | some (.slice e), .v (.int _ n), .v (.int _ c) =>
    match zeroOf P e σ with
    | none => none
    | some (z, σ') =>
      match frzP P e σ' z with
      | none => none
      | some (z', σ'') =>
        bif Nat.beq z'.length (P.cellsOf e) && Nat.blt 0 (P.cellsOf e) then
          cond (decide (0 ≤ n) && decide (n ≤ c) && decide (c * (P.bytesOf e : Int) ≤ 281474976710656) && decide (c ≤ 281474976710656))
            (K (.sl false σ''.length 0 none) (σ'' ++ [⟨1, e, P.cellsOf e, false, List.replicate n.toNat z'⟩])) none
        else none
  | _, _, _ => none
def evLen (t : TypeId) (a : AV) : Option R :=
  match P.underlying t, a with
  | some .string, .v (.string s) => K (.v (.int .i64 (s.size : Int))) σ
  | some (.array n _), _ => K (.v (.int .i64 (n : Int))) σ
  | some (.pointer e), _ =>
    match P.underlying e with
    | some (.array n _) => K (.v (.int .i64 (n : Int))) σ
    | _ => none
  | some (.slice _), a =>
    match slLen σ a with
    | some n => K (.v (.int .i64 (n : Int))) σ
    | none => none
  | _, _ => none
def appXs (σ : Store) : AV → Option (Nat × List (List AV))
  | .v (.string s) => some (1, s.data.toList.map ofByte)
  | .lst _ sz xs => some (sz, xs)
  | .sl _ l off cut =>
    match σ[l]? with
    | none => none
    | some b => bif Nat.beq b.mode 0 || b.obj then none else some (b.sz, cutL b.xs off cut)
  | _ => none
def isSS : TypeDesc → Bool
  | .string => true
  | .slice _ => true
  | _ => false
def zOk (t : TypeId) : Bool :=
  match (P.info? t).bind (·.zero) with
  | none => false
  | some z => Nat.beq z.cells.size (P.cellsOf t)
def cutA {α : Type} (xs : List α) : Option Nat → List α
  | none => xs
  | some n => xs.take n
def evAppend (t : TypeId) (t2 : TypeId) (s x : AV) : Option R :=
  match P.underlying t, P.underlying t2 with
  | some (.slice e), some d =>
    bif !(isSS d) || !(Nat.blt 0 (P.bytesOf e) && Nat.blt 0 (P.cellsOf e) && zOk P e) then none else
    match appXs σ x with
    | none => none
    | some (ysz, ys) =>
      bif !(Nat.beq ysz (P.cellsOf e) || ys.isEmpty) then none else
      match s with
      | .lst true _ _ =>
        cond (decide (ys.length * P.bytesOf e ≤ 140737488355328))
          (K (.sl (ys.isEmpty) σ.length 0 none) (σ ++ [⟨1, e, P.cellsOf e, false, ys⟩])) none
      | .sl nil l off cut =>
        match σ[l]? with
        | none => none
        | some b =>
          bif Nat.beq b.mode 1 && !b.obj && Nat.beq off 0 && Nat.beq b.ty e && Nat.beq b.sz (P.cellsOf e) then
            cond (decide (((cutA b.xs cut).length + ys.length) * P.bytesOf e ≤ 140737488355328))
              (K (.sl (ys.isEmpty && nil) σ.length 0 none) (σ.set l { b with mode := 0 } ++ [⟨1, e, P.cellsOf e, false, cutA b.xs cut ++ ys⟩])) none
          else none
      | _ => none
  | _, _ => none
def evCopy (t : TypeId) (d s : AV) : Option R :=
  match P.underlying t with
  | some (.slice e) =>
    match appXs σ s, d with
    | some (ysz, ys), .sl _ l off cut =>
      match σ[l]?, slLen σ d with
      | some b, some n =>
        bif Nat.beq b.mode 1 && !b.obj && Nat.beq b.sz (P.cellsOf e) && (Nat.beq ysz (P.cellsOf e) || ys.isEmpty) && Nat.blt 0 (P.cellsOf e) then
          K (.v (.int .i64 ((min ys.length n : Nat) : Int))) (σ.set l { b with xs := b.xs.take off ++ ys.take (min ys.length n) ++ b.xs.drop (off + min ys.length n) })
        else none
      | _, _ => none
    | _, _ => none
  | _ => none
def evMin2 (a b : AV) : Option AV :=
  match a, b with
  | .v (.int k x), .v (.int _ y) => some (.v (.int k (if y < x then y else x)))
  | _, _ => none
def evMax2 (a b : AV) : Option AV :=
  match a, b with
  | .v (.int k x), .v (.int _ y) => some (.v (.int k (if y > x then y else x)))
  | _, _ => none
end ops
end Go.Ev
namespace Go.Ev
inductive Upd where
  | row (g : List (List AV) → Option (List (List AV)))
  | mv (g : Nat → Nat → List (List AV) → List AV → Option (List (List AV)))
structure Cfg where
  rw : FuncId → List Bool
  dat : FuncId → Bool
  inl : FuncId → Bool
  roll : FuncId → Nat
  join : FuncId → Bool
  ext : FuncId → Option (List AV → Option (List AV)) := fun _ => none
  /-- no own block is ever lent to it: a call that finds one is refused; so it is quiet whatever it answers -/
  cl : FuncId → Bool := fun _ => false
  /-- what it makes of the one slice that it is handed is told: it works in place and hands back nothing -/
  upd : FuncId → Option Upd := fun _ => none
  /-- slicings `x[:h]` (by the slice's type and the slot that is written) behind which the whole row is not looked at again: it becomes the shorter row -/
  eat : Nat → Nat → Bool := fun _ _ => false
  /-- functions without a body (the model's own): on which plain values they are told, and what they answer -/
  pr : FuncId → Option ((List Value → Bool) × (List Value → List Value)) := fun _ => none
  /-- which of the rows handed over come back -/
  bk : FuncId → List Bool := fun _ => []
  /-- what package variables hold throughout -/
  gl : Nat → Option (List AV) := fun _ => none
structure St where
  fr : List (Nat × AV)
  bl : Store
def lookF : List (Nat × AV) → Nat → AV
  | [], _ => .un
  | (i, a) :: r, t => bif Nat.beq i t then a else lookF r t
def dropF : List (Nat × AV) → Nat → List (Nat × AV)
  | [], _ => []
  | (i, a) :: r, t => bif Nat.beq i t then dropF r t else (i, a) :: dropF r t
def putF (fr : List (Nat × AV)) (dst : Option Nat) (a : AV) : List (Nat × AV) :=
  match dst with
  | none => fr
  | some d => (d, a) :: dropF fr d
def tmpF (fr : List (Nat × AV)) (t : Nat) : AV := bif Nat.blt t 1000000 then lookF fr t else .un
def getO (fr : List (Nat × AV)) : Operand → AV
  | .tmp t => tmpF fr t
  | .const v => ofV v
  | .func f => .clo f [] []
  | .global _ => .un
def adr (C : Cfg) (g : Operand → AV) : Operand → AV
  | .global k => match C.gl k with | some cs => .ep cs 0 | none => .un
  | x => g x
def expN (σ : Store) : Nat → AV → Option AV
  | 0, _ => none
  | n + 1, a =>
    match a with
    | .v x => bif okC (.v x) then some (.v x) else none
    | .lst b sz xs => some (.lst b sz xs)
    | .ep cs off => some (.ep cs off)
    | .sl b l off cut =>
      match σ[l]? with
      | none => none
      | some k => bif Nat.beq k.mode 0 || k.obj then none else some (.lst b k.sz (cutL k.xs off cut))
    | .ptr l i j =>
      match σ[l]? with
      | none => none
      | some k =>
        bif Nat.beq k.mode 0 then none else
        bif k.obj then
          bif Nat.beq i 0 then
            match (lget k.xs 0).mapM (expN σ n) with
            | none => none
            | some cs => some (.ep cs j)
          else none
        else bif Nat.beq k.sz 1 then some (.ep k.xs.flatten (i + j))
        else some (.ep (lget k.xs i) j)
    | .clo f first caps =>
      match first.mapM (expN σ n), caps.mapM (expN σ n) with
      | some x, some y => some (.clo f x y)
      | _, _ => none
    | .agg cs =>
      match cs.mapM (expN σ n) with
      | none => none
      | some cs => some (.agg cs)
    | _ => none
def expD (σ : Store) (a : AV) : Option AV := expN σ 4 a
def expC (σ : Store) (c : AV) : Option (AV × Store) :=
  match c with
  | .v x => bif okC (.v x) then some (.v x, σ) else none
  | .lst b sz xs => some (.lst b sz xs, σ)
  | .sl b l off cut =>
    match σ[l]? with
    | none => none
    | some k => bif Nat.beq k.mode 1 && !k.obj && Nat.beq off 0 then some (.ow b k.ty k.sz (cutL k.xs off cut), σ.set l { k with mode := 0 }) else none
  | _ => none
def expCs (σ : Store) : List AV → Option (List AV × Store)
  | [] => some ([], σ)
  | c :: cs =>
    match expC σ c with
    | none => none
    | some (c', σ') =>
      match expCs σ' cs with
      | none => none
      | some (cs', σ'') => some (c' :: cs', σ'')
def expOb (σ : Store) (l : Nat) : Option (AV × Store) :=
  match σ[l]? with
  | none => none
  | some k =>
    bif Nat.beq k.mode 1 && k.obj then
      match expCs (σ.set l { k with mode := 0 }) (lget k.xs 0) with
      | none => none
      | some (cs, σ') => some (.ob k.ty cs, σ')
    else none
def expO1 (σ : Store) (a : AV) : Option (AV × Store × List Nat) :=
  match a with
  | .ptr l i j => bif Nat.beq i 0 && Nat.beq j 0 then match expOb σ l with | none => none | some (b, σ') => some (b, σ', [l]) else none
  | a => match expC σ a with | none => none | some (b, σ') => some (b, σ', [])
def expOs (σ : Store) : List AV → Option (List AV × Store × List Nat)
  | [] => some ([], σ, [])
  | a :: as =>
    match expO1 σ a with
    | none => none
    | some (b, σ', r) =>
      match expOs σ' as with
      | none => none
      | some (bs, σ'', r') => some (b :: bs, σ'', r ++ r')
def expO (σ : Store) (a : AV) : Option (AV × Store × List Nat) :=
  match a with
  | .agg cs => match expOs σ cs with | none => none | some (bs, σ', r) => some (.agg bs, σ', r)
  | .clo f first caps => bif !first.isEmpty then none else match expOs σ caps with | none => none | some (bs, σ', r) => some (.clo f first bs, σ', r)
  | a => expO1 σ a
def expRow (σ : Store) (a : AV) : Option (AV × Store × List Nat) :=
  match a with
  | .sl _ l 0 none =>
    match σ[l]? with
    | none => none
    | some k => bif Nat.beq k.mode 1 && !k.obj then some (.tup [.ow false k.ty k.sz k.xs], σ.set l { k with mode := 0 }, [l]) else none
  | _ => none
def rowsOk : List Bool → List Bool → List AV → Bool
  | _, _, [] => true
  | m, q, a :: as => (bif m.headD false && q.headD false then !avNil a else true) && rowsOk m.tail q.tail as
def expArgs (σ : Store) : List Bool → List Bool → List AV → Option (List AV × Store × List Nat)
  | _, _, [] => some ([], σ, [])
  | m, q, a :: as =>
    match (match m.headD false with
      | true => (match q.headD false with | true => expRow σ a | false => expO σ a)
      | false => match expD σ a with | none => none | some b => some (b, σ, [])) with
    | none => none
    | some (b, σ', r) =>
      match expArgs σ' m.tail q.tail as with
      | none => none
      | some (bs, σ'', r') => some (b :: bs, σ'', r ++ r')
def impC (σ : Store) (c : AV) : Option (AV × Store) :=
  match c with
  | .v x => some (.v x, σ)
  | .lst b sz xs => some (.lst b sz xs, σ)
  | .ep cs off => some (.ep cs off, σ)
  | .ow b ty sz xs => some (.sl b σ.length 0 none, σ ++ [⟨1, ty, sz, false, xs⟩])
  | _ => none
def impCs (σ : Store) : List AV → Option (List AV × Store)
  | [] => some ([], σ)
  | c :: cs =>
    match impC σ c with
    | none => none
    | some (c', σ') =>
      match impCs σ' cs with
      | none => none
      | some (cs', σ'') => some (c' :: cs', σ'')
def imp1 (σ : Store) (a : AV) : Option (AV × Store × List AV) :=
  match a with
  | .ob ty cs =>
    match impCs σ cs with
    | none => none
    | some (cs', σ') => some (.ptr σ'.length 0 0, σ' ++ [⟨1, ty, cs.length, true, [cs']⟩], [.ptr σ'.length 0 0])
  | .tup [c] => match impC σ c with | none => none | some (b, σ') => some (b, σ', [b])
  | a => match impC σ a with | none => none | some (b, σ') => some (b, σ', [])
def imps (σ : Store) : List AV → Option (List AV × Store × List AV)
  | [] => some ([], σ, [])
  | a :: as =>
    match imp1 σ a with
    | none => none
    | some (b, σ', r) =>
      match imps σ' as with
      | none => none
      | some (bs, σ'', r') => some (b :: bs, σ'', r ++ r')
def imp (σ : Store) (a : AV) : Option (AV × Store × List AV) :=
  match a with
  | .agg cs => match imps σ cs with | none => none | some (bs, σ', r) => some (.agg bs, σ', r)
  | .clo f first caps => match imps σ caps with | none => none | some (bs, σ', r) => some (.clo f first bs, σ', r)
  | a => imp1 σ a
def impArgs (σ : Store) : List AV → Option (List AV × Store × List AV)
  | [] => some ([], σ, [])
  | a :: as =>
    match imp σ a with
    | none => none
    | some (b, σ', r) =>
      match impArgs σ' as with
      | none => none
      | some (bs, σ'', r') => some (b :: bs, σ'', r ++ r')
def isOw (ty sz : Nat) : AV → Bool
  | .ow _ t s _ => Nat.beq t ty && Nat.beq s sz
  | _ => false
def isOb (ty : Nat) : AV → Bool
  | .ob t _ => Nat.beq t ty
  | _ => false
def obCells : AV → List AV
  | .ob _ cs => cs
  | .agg cs => cs
  | _ => []
def isAgg (n : Nat) : AV → Bool
  | .agg cs => Nat.beq cs.length n
  | _ => false
def isNilL : AV → Bool
  | .lst true _ [] => true
  | _ => false
def shapeO : CK → AV → Bool × AV
  | .sl e sz, c => (isOw e sz c || isNilL c, .ow (avNil c) e sz (avXs c))
  | k, c => shapeC k c
def shapeOG : List CK → Nat → List AV → Bool
  | [], _, _ => true
  | [k], j, cs => (shapeO k (cellAt cs j)).1
  | k :: ks, j, cs => (shapeO k (cellAt cs j)).1 && shapeOG ks (j + 1) cs
def shapeOV : List CK → Nat → List AV → List AV
  | [], _, _ => []
  | k :: ks, j, cs => (shapeO k (cellAt cs j)).2 :: shapeOV ks (j + 1) cs
section shape
variable {R : Type} (P : Program)
def shR (dat : Bool) (t : TypeId) (r : AV) (K : AV → Option R) : Option R :=
  bif aggT P t then
    bif Nat.blt 16 (cks P t).length && plainT P t then cond (isAgg (cks P t).length r && (obCells r).all isV) (K (.agg (obCells r))) none else
    cond (isAgg (cks P t).length r && shapeG (cks P t) 0 (obCells r)) (K (.agg (shapeV (cks P t) 0 (obCells r)))) none
  else
    match P.underlying t with
    | some (.slice e) =>
      bif dat then cond (isL (P.cellsOf e) r) (K (.lst (avNil r) (P.cellsOf e) (avXs r))) none
      else cond (isOw e (P.cellsOf e) r) (K (.ow (avNil r) e (P.cellsOf e) (avXs r))) none
    | some (.pointer e) =>
      cond (isNP r) (K (.v (.pointer none)))
        (cond (isOb e r && Nat.beq (obCells r).length (cks P e).length && shapeOG (cks P e) 0 (obCells r)) (K (.ob e (shapeOV (cks P e) 0 (obCells r)))) none)
    | some (.int k) => cond (isI k r) (K (.v (.int k (avInt r)))) none
    | some .bool => cond (isB r) (K (.v (.bool (avBool r)))) none
    | some .string => cond (isS r) (K (.v (.string (avStr r)))) none
    | _ => none
def shRs (dat : Bool) : List TypeId → Nat → List AV → (List AV → Option R) → Option R
  | [], _, _, K => K []
  | t :: ts, j, rs, K => shR P dat t (cellAt rs j) fun a => shRs dat ts (j + 1) rs fun as => K (a :: as)
def likeB : AV → AV → Bool × AV
  | .v (.int k _), c => (isI k c, .v (.int k (avInt c)))
  | .v (.bool _), c => (isB c, .v (.bool (avBool c)))
  | .v (.string _), c => (isS c, .v (.string (avStr c)))
  | .v (.pointer none), c => (isNP c, .v (.pointer none))
  | .lst _ sz _, c => (isL sz c, .lst (avNil c) sz (avXs c))
  | .ow _ ty sz _, c => (isOw ty sz c || isNilL c, .ow (avNil c) ty sz (avXs c))
  | _, _ => (false, .un)
def likeG : List AV → Nat → List AV → Bool
  | [], _, _ => true
  | [t], j, cs => (likeB t (cellAt cs j)).1
  | t :: ts, j, cs => (likeB t (cellAt cs j)).1 && likeG ts (j + 1) cs
def likeV : List AV → Nat → List AV → List AV
  | [], _, _ => []
  | t :: ts, j, cs => (likeB t (cellAt cs j)).2 :: likeV ts (j + 1) cs
def obsOf : List AV → List (Nat × List AV)
  | [] => []
  | .ob ty cs :: r => (ty, cs) :: obsOf r
  | .tup [c] :: r => (0, [.tup [c]]) :: obsOf r
  | .agg cs :: r => (cs.filterMap fun | .ob ty cs => some (ty, cs) | _ => none) ++ obsOf r
  | .clo _ _ caps :: r => (caps.filterMap fun | .ob ty cs => some (ty, cs) | _ => none) ++ obsOf r
  | _ :: r => obsOf r
def rowT : List AV → Option (Nat × Nat)
  | [.tup [.ow _ ty sz _]] => some (ty, sz)
  | _ => none
def isRow (ty sz : Nat) : AV → Bool
  | .tup [.ow b t s _] => !b && (Nat.beq t ty && Nat.beq s sz)
  | _ => false
def rowLen : List AV → Nat
  | [.tup [.ow _ _ _ xs]] => xs.length
  | _ => 0
def rowC : AV → AV
  | .tup [c] => c
  | _ => .un
def shOuts : List (Nat × List AV) → Nat → List AV → (List (List AV) → Option R) → Option R
  | [], _, _, K => K []
  | (ty, tcs) :: ts, j, rs, K =>
    match rowT tcs with
    | some (t, z) => cond (isRow t z (cellAt rs j) && Nat.beq (avXs (rowC (cellAt rs j))).length (rowLen tcs)) (shOuts ts (j + 1) rs fun os => K ([.tup [.ow false t z (avXs (rowC (cellAt rs j)))]] :: os)) none
    | none =>
    cond (isOb ty (cellAt rs j) && Nat.beq (obCells (cellAt rs j)).length tcs.length && likeG tcs 0 (obCells (cellAt rs j)))
      (shOuts ts (j + 1) rs fun os => K (likeV tcs 0 (obCells (cellAt rs j)) :: os)) none
end shape
def backs (σ : Store) : List Nat → List (List AV) → Option Store
  | [], [] => some σ
  | l :: ls, cs :: os =>
    match σ[l]? with
    | none => none
    | some k =>
      bif k.obj then
        match impCs σ cs with
        | some (cs', σ') => backs (σ'.set l { k with mode := 1, xs := [cs'] }) ls os
        | none => none
      else
        match cs with
        | [.tup [.ow false ty sz xs]] => backs (σ.set l { k with mode := 1, xs := xs }) ls os
        | _ => none
  | _, _ => none
def rowV (e : List AV) : Bool := e.all isV
def plainC : AV → Bool
  | .v x => okC (.v x)
  | .ow _ _ _ xs => xs.all rowV
  | .tup [.ow _ _ _ xs] => xs.all rowV
  | _ => false
def allB {α : Type} (p : α → Bool) : List α → Bool
  | [] => true
  | [a] => p a
  | a :: as => p a && allB p as
def plain1 : AV → Bool
  | .ob _ cs => allB plainC cs
  | a => plainC a
def plainA : AV → Bool
  | .agg cs => allB plain1 cs
  | a => plain1 a
def leakT (P : Program) (dat : Bool) (t : TypeId) : Bool :=
  match P.underlying t with
  | some (.slice e) => dat || !(cks P e).all plainCK
  | some (.pointer e) => !(cks P e).all fun | .sl d _ => (cks P d).all plainCK | k => plainCK k
  | _ => !(cks P t).all plainCK
def leakB (P : Program) : List (Nat × List AV) → Bool
  | [] => false
  | (_, cs) :: r => cs.any (fun | .lst _ _ _ => true | .ow _ ty _ _ => !(cks P ty).all plainCK | _ => false) || leakB P r
def leaky (P : Program) (C : Cfg) (f : FuncId) (fn : Func) : Bool := (C.upd f).isSome || (!(C.cl f) && fn.resultTypes.any (leakT P (C.dat f)))
def ownsAny (σ : Store) : List Nat → Bool
  | [] => false
  | l :: ls => (match σ[l]? with | some k => Nat.beq k.mode 1 | none => false) || ownsAny σ ls
def refsN (σ : Store) : Nat → AV → List Nat
  | 0, _ => []
  | n + 1, a =>
    match a with
    | .sl _ l _ _ => [l]
    | .px l _ _ _ => [l]
    | .ptr l _ _ =>
      match σ[l]? with
      | some k => bif k.obj then l :: (lget k.xs 0).flatMap (refsN σ n) else [l]
      | none => [l]
    | .clo _ first caps => first.flatMap (refsN σ n) ++ caps.flatMap (refsN σ n)
    | .agg cs => cs.flatMap (refsN σ n)
    | .tup cs => cs.flatMap (refsN σ n)
    | _ => []
def refs (σ : Store) (a : AV) : List Nat := refsN σ 5 a
def freezeAll (σ : Store) : List Nat → Store
  | [] => σ
  | l :: ls =>
    match σ[l]? with
    | some k => freezeAll (bif Nat.beq k.mode 0 then σ else σ.set l { k with mode := 2 }) ls
    | none => freezeAll σ ls
abbrev CallT := FuncId → List AV → Option (List AV)
abbrev InlT := (R : Type) → FuncId → List AV → Store → (List AV → Store → Option R) → Option R
def retAV (n : Nat) (rs : List AV) : AV := bif Nat.beq n 1 then cellAt rs 0 else .tup rs
section call
variable {R : Type} (P : Program) (C : Cfg) (call : CallT) (inl : InlT)
def lentRefs (σ : Store) : List Bool → List AV → List Nat
  | _, [] => []
  | m, a :: as => (bif m.headD false then [] else refs σ a) ++ lentRefs σ m.tail as
def evRow (g : List (List AV) → Option (List (List AV))) (σ : Store) (K : AV → Store → Option R) (args : List AV) : Option R :=
  match args with
  | [.sl _ l 0 none] =>
    match σ[l]? with
    | none => none
    | some b =>
      bif Nat.beq b.mode 1 && !b.obj && Nat.beq b.sz 1 then
        match g b.xs with
        | none => none
        | some ys => cond (decide (b.xs.length ≤ 1000000)) (K (.tup []) (σ.set l { b with xs := ys })) none
      else none
  | _ => none
def mvArg (σ : Store) (l : Nat) : AV → Option AV
  | .v x => bif okC (.v x) then some (.v x) else none
  | .sl nil m 0 none =>
    match σ[m]? with
    | some b => bif Nat.beq b.mode 1 && !b.obj && !(Nat.beq m l) then some (.lst nil b.sz b.xs) else none
    | none => none
  | _ => none
def evMv (g : Nat → Nat → List (List AV) → List AV → Option (List (List AV))) (σ : Store) (K : AV → Store → Option R) (args : List AV) : Option R :=
  match args with
  | .sl nil l 0 none :: rest =>
    match σ[l]? with
    | none => none
    | some b =>
      bif Nat.beq b.mode 1 && !b.obj then
        match rest.mapM (mvArg σ l) with
        | none => none
        | some ds =>
          match g b.ty b.sz b.xs ds with
          | none => none
          | some ys => cond (decide (b.xs.length ≤ 1000000)) (K (.sl (nil && ys.isEmpty) σ.length 0 none) (σ.set l { b with mode := 0 } ++ [⟨1, b.ty, b.sz, false, ys⟩])) none
      else none
  | _ => none
def evUpd (u : Upd) (σ : Store) (K : AV → Store → Option R) (args : List AV) : Option R :=
  match u with
  | .row g => evRow g σ K args
  | .mv g => evMv g σ K args
def nrm1 (t : TypeId) (a : AV) : AV :=
  match a with
  | .lst b s xs =>
    bif Nat.beq s 0 then
      match b, xs with
      | true, [] => match P.underlying t with | some (.slice e) => .lst true (P.cellsOf e) [] | _ => .lst true s []
      | b, xs => .lst b s xs
    else .lst b s xs
  | a => a
def nrmA : List TypeId → List AV → List AV
  | t :: ts, a :: as => nrm1 P t a :: nrmA ts as
  | _, as => as
def evCall (σ : Store) (K : AV → Store → Option R) (f : FuncId) (args : List AV) : Option R :=
  match P.funcs[f]? with
  | none => none
  | some fn =>
    bif fn.body.isNone || fn.name == "runtime.NumGoroutine" then none else
    match C.upd f with
    | some g => evUpd g σ K args
    | none =>
    bif C.inl f then inl R f args σ fun rs σ' => K (retAV fn.resultTypes.size rs) σ'
    else
    cond (rowsOk (C.rw f) (C.bk f) (nrmA P fn.params.toList args)) (match expArgs σ (C.rw f) (C.bk f) (nrmA P fn.params.toList args) with
    | none => none
    | some (bs, σ1, roots) =>
      bif !((lentRefs σ (C.rw f) (nrmA P fn.params.toList args)).all fun l => match σ1[l]? with | some k => !(Nat.beq k.mode 0) | none => false) then none else
      bif C.cl f && ownsAny σ (lentRefs σ (C.rw f) (nrmA P fn.params.toList args)) then none else
      (call f bs).bind fun rs =>
        shRs P (C.dat f) fn.resultTypes.toList 0 rs fun as =>
          shOuts (obsOf bs) fn.resultTypes.size rs fun os =>
            cond (!(ownsAny σ (lentRefs σ (C.rw f) (nrmA P fn.params.toList args))) || (fn.resultTypes.any (leakT P (C.dat f)) || leakB P (obsOf bs)) || (allB plainA as && allB (allB plainC) os))
              (match backs (bif ownsAny σ (lentRefs σ (C.rw f) (nrmA P fn.params.toList args)) && (fn.resultTypes.any (leakT P (C.dat f)) || leakB P (obsOf bs)) then freezeAll σ1 (lentRefs σ (C.rw f) (nrmA P fn.params.toList args)) else σ1) roots os with
              | none => none
              | some σ2 =>
                match impArgs σ2 as with
                | none => none
                | some (vs, σ3, _) => K (retAV fn.resultTypes.size vs) σ3) none) none
def eatB (o : Oper) : Bool :=
  match o.op, o.dst with
  | .slice t _ none (some _) none, some d => C.eat t d
  | .slice t _ (some _) (some _) none, some d => C.eat t d
  | _, _ => false
def isMv (f : FuncId) : Bool := match C.upd f with | some (.mv _) => (C.pr f).isNone | _ => false
def plainV : AV → Option Value
  | .v x => some x
  | _ => none
def evPr (g : (List Value → Bool) × (List Value → List Value)) (σ : Store) (K : AV → Store → Option R) (args : List AV) : Option R :=
  match args.mapM plainV with
  | none => none
  | some xs => cond (g.1 xs) (K (.tup ((g.2 xs).map .v)) σ) none
def evOp (o : Oper) (fr : List (Nat × AV)) (σ : Store) (K : AV → Store → Option R) : Option R :=
  let g := getO fr
  match o.op with
  | .move x | .assign x =>
    match x with
    | .const (.slice none 0 0) =>
      match P.underlying o.type with
      | some (.slice e) => K (phantom P σ e).1 (phantom P σ e).2
      | _ => none
    | x => K (g x) σ
  | .pick c a b =>
    match g c with
    | .v (.bool t) => cond t (K (g a) σ) (K (g b) σ)
    | _ => none
  | .alloc t => evAlloc P σ K t
  | .box t x => evBox P σ K t (g x)
  | .build t parts => evBuild P σ K t (parts.toList.map fun (i, x) => (i, g x))
  | .buildSlice t n parts => evBuildSlice P σ K t n (parts.toList.map fun (i, x) => (i, g x))
  | .load t x => evLoad P σ K t (adr C g x)
  | .store t x y => evStore P σ t (g x) (g y) fun σ' => K .un σ'
  | .nilCheck x =>
    match g x with
    | .ptr l i j => K (.ptr l i j) σ
    | .ep cs off => K (.ep cs off) σ
    | .clo f a b => K (.clo f a b) σ
    | _ => none
  | .binOp op t x y _ => evBin P σ K op t (g x) (g y)
  | .unOp op _ x => evUn σ K op (g x)
  | .convert a b x => bif slsl P a b then evMark P σ K a b (g x) else evConv P σ K a b (g x)
  | .slice t x lo hi none => bif eatB C o then (match lo with | none => evEat P σ K t (g x) (hi.map g) | some l => evView P σ K t (g x) (g l) (hi.map g)) else evSlice P σ K t (g x) (lo.map g) (hi.map g)
  | .fieldAddr t x f => evFieldAddr P σ K t (g x) f
  | .field t x f => evField P σ K t (g x) f
  | .indexAddr t x i => evIndexAddr P σ K t (g x) (g i) (isConst i)
  | .index t x i => evIndex P σ K t (g x) (g i) (isConst i)
  | .extract x i =>
    match g x with
    | .tup vs => bif Nat.blt i vs.length then K (cellAt vs i) σ else none
    | _ => none
  | .makeSlice t a b => evMakeSlice P σ K t (g a) (g b)
  | .makeFunc (.func f) first caps => bif (first.toList.map g).all okC && (caps.toList.map g).all okC then K (.clo f (first.toList.map g) (caps.toList.map g)) σ else none
  | .call c =>
    match c.callee with
    | .builtin .len =>
      match c.args.toList, c.argTypes.toList with
      | [x], [t] => evLen P σ K t (g x)
      | _, _ => none
    | .builtin .append =>
      match c.args.toList, c.argTypes.toList with
      | [x, y], [t, u] => evAppend P σ K t u (g x) (g y)
      | _, _ => none
    | .builtin .copy =>
      match c.args.toList, c.argTypes.toList with
      | [x, y], [t, _] => evCopy P σ K t (g x) (g y)
      | _, _ => none
    | .builtin .min =>
      match c.args.toList with
      | [x, y] => match evMin2 (g x) (g y) with | some a => K a σ | none => none
      | _ => none
    | .builtin .max =>
      match c.args.toList with
      | [x, y] => match evMax2 (g x) (g y) with | some a => K a σ | none => none
      | _ => none
    | .value f =>
      match g f with
      | .clo fn first caps =>
        match C.pr fn with
        | some h => evPr h σ K (first ++ c.args.toList.map g ++ caps)
        | none => evCall P C call inl σ K fn (first ++ c.args.toList.map g ++ caps)
      | _ => none
    | _ => none
  | _ => none
def opClass (o : Oper) : Nat :=
  match o.op with
  | .move (.const (.slice _ _ _)) | .assign (.const (.slice _ _ _)) => 1
  | .move _ | .assign _ | .pick _ _ _ | .nilCheck _ | .binOp _ _ _ _ _ | .unOp _ _ _ | .fieldAddr _ _ _ | .field _ _ _ | .index _ _ _ | .extract _ _ | .makeFunc _ _ _ => 0
  | .convert a b _ => bif slsl P a b then 2 else 1
  | .alloc _ | .box _ _ | .build _ _ | .load _ _ | .indexAddr _ _ _ => 1
  | .slice _ _ _ _ _ => bif eatB C o then 2 else 1
  | .buildSlice t _ _ | .makeSlice t _ _ => match P.underlying t with | some (.slice e) => bif plainT P e then 1 else 2 | _ => 2
  | .call c =>
    match c.callee with
    | .builtin .len => 1
    | .builtin .min => 0
    | .builtin .max => 0
    | .value (.func f) =>
      match P.funcs[f]? with
      | some fn => bif C.inl f || (C.rw f).any id || leaky P C f fn then 2 else 1
      | none => 2
    | _ => 2
  | _ => 2
def insL (n : Nat) : List Nat → List Nat
  | [] => [n]
  | m :: r => bif Nat.beq n m then m :: r else bif Nat.blt n m then n :: m :: r else m :: insL n r
def uniL : List Nat → List Nat → List Nat
  | [], b => b
  | a :: as, b => uniL as (insL a b)
def inL (n : Nat) : List Nat → Bool
  | [] => false
  | m :: r => Nat.beq n m || inL n r
def clOf (acc : List (List Nat)) (o : Oper) : List Nat :=
  o.after.toList.foldl (fun s e => bif Region.binds .any e then uniL (insL e.on (acc.getD e.on [])) s else s) []
def closL (ops : List Oper) : List (List Nat) :=
  ops.foldl (fun acc o => acc ++ [clOf acc o]) []
def looksL (ops : Array Oper) (o : Oper) : List Nat :=
  (o.op.operands.toList.filterMap fun | .tmp t => some t | _ => none) ++
  (match o.guard with
   | some (j, _) => match ops[j]? with | some oj => oj.dst.toList | none => []
   | none => [])
def apartB (ops : Array Oper) (a b : Oper) : Bool :=
  (match a.dst with | some d => !(inL d (looksL ops b)) && (match b.dst with | some e => !(Nat.beq d e) | none => true) | none => true) &&
  (match b.dst with | some e => !(inL e (looksL ops a)) | none => true)
def drawRow (ops : Array Oper) (b : Oper) (cl : List Nat) : Nat → List Oper → Bool
  | _, [] => true
  | i, a :: r => (inL i cl || apartB ops a b) && drawRow ops b cl (i + 1) r
def drawAll (ops : Array Oper) (all : List Oper) : Nat → List Oper → List (List Nat) → Bool
  | _, [], _ => true
  | j, b :: r, cls =>
    (b.after.all fun e => !(Region.binds .any e) || Nat.blt e.on j) && drawRow ops b (cls.headD []) 0 (all.take j) && drawAll ops all (j + 1) r cls.tail
def drawOk (ops : Array Oper) : Bool :=
  Region.noSelect ops && drawAll ops ops.toList 0 ops.toList (closL ops.toList)
structure Foot where
  look : Option (List Nat)
  put : Option (List Nat)
  nw : Bool
def Foot.no : Foot := ⟨some [], some [], false⟩
def Foot.top : Foot := ⟨none, none, true⟩
def blkOf : AV → List Nat
  | .sl _ l _ _ => [l]
  | .ptr l _ _ => [l]
  | .px l _ _ _ => [l]
  | _ => []
def notSl : AV → Bool
  | .v _ => true
  | .lst _ _ _ => true
  | _ => false
def slOf (a : AV) : List Nat := match cells a with | some cs => cs.flatMap (fun c => match c with | .sl _ l _ _ => [l] | _ => []) | none => []
def noSl (a : AV) : Bool := match cells a with | some cs => cs.all notSl | none => false
def footOf (o : Oper) (fr : List (Nat × AV)) (σ : Store) : Foot :=
  let g := getO fr
  match o.op with
  | .move (.const (.slice _ _ _)) | .assign (.const (.slice _ _ _)) => ⟨some [], some [], true⟩
  | .move _ | .assign _ | .pick _ _ _ | .nilCheck _ | .binOp _ _ _ _ _ | .unOp _ _ _ | .fieldAddr _ _ _ | .field _ _ _ | .index _ _ _ | .extract _ _ | .makeFunc _ _ _ => .no
  | .alloc _ | .box _ _ | .build _ _ | .makeSlice _ _ _ => ⟨some [], some [], true⟩
  | .load _ x | .indexAddr _ x _ => ⟨some (blkOf (g x)), some [], false⟩
  | .slice _ x _ _ _ => bif eatB C o then ⟨some (blkOf (g x)), some (blkOf (g x)), true⟩ else ⟨some (blkOf (g x)), some [], false⟩
  | .convert _ _ x => ⟨some (blkOf (g x)), some [], true⟩
  | .buildSlice _ _ ps => ⟨some (ps.toList.flatMap fun p => slOf (g p.2)), some (ps.toList.flatMap fun p => slOf (g p.2)), true⟩
  | .store _ x y =>
    bif noSl (g y) then ⟨some (blkOf (g x)), some (blkOf (g x)), true⟩ else
    match g x with
    | .ptr l _ _ => match σ[l]? with | some b => bif b.obj then ⟨some [l], some [l], true⟩ else .top | none => .top
    | _ => .top
  | .call c =>
    match c.callee with
    | .builtin .len => match c.args.toList with | [x] => ⟨some (blkOf (g x)), some [], false⟩ | _ => .top
    | .builtin .append => match c.args.toList with | [x, y] => ⟨some (blkOf (g x) ++ blkOf (g y)), some (blkOf (g x)), true⟩ | _ => .top
    | .builtin .copy => match c.args.toList with | [x, y] => ⟨some (blkOf (g x) ++ blkOf (g y)), some (blkOf (g x)), true⟩ | _ => .top
    | .builtin .min => .no
    | .builtin .max => .no
    | .value (.func f) =>
      match P.funcs[f]? with
      | some fn => bif isMv C f then ⟨some (c.args.toList.flatMap fun x => blkOf (g x)), some (match c.args.toList with | x :: _ => blkOf (g x) | [] => []), true⟩ else bif C.inl f || (C.upd f).isSome || (C.pr f).isSome then .top else bif (C.rw f).any id || leaky P C f fn then ⟨none, some (c.args.toList.flatMap fun x => refs σ (g x)), true⟩ else ⟨none, some [], true⟩
      | none => .top
    | _ => .top
  | _ => .top
def ldB (o : Oper) : Bool := (match o.op with | .call c => (match c.callee with | .value (.func f) => !(isMv C f) | .value _ => true | _ => false) | _ => false) && Nat.beq (opClass P C o) 2
def hasAny : Option (List Nat) → Bool
  | none => true
  | some l => !l.isEmpty
def meetL : List Nat → List Nat → Bool
  | [], _ => false
  | a :: as, b => inL a b || meetL as b
def meet : Option (List Nat) → Option (List Nat) → Bool
  | some a, some b => meetL a b
  | some a, none => !a.isEmpty
  | none, b => hasAny b
def Foot.touch (f : Foot) : Bool := f.nw || hasAny f.look || hasAny f.put
structure Trace where
  f : Foot
  lo : Nat
  hi : Nat
  ld : Bool
def Trace.no : Trace := ⟨.no, 0, 0, false⟩
def meetR (lo hi : Nat) : List Nat → Bool
  | [] => false
  | l :: r => (Nat.ble lo l && Nat.blt l hi) || meetR lo hi r
def clash (a : Trace) (g : Foot) : Bool :=
  (a.ld && g.nw) || (a.f.put.isNone && g.touch) || (g.put.isNone && (a.f.touch || Nat.blt a.lo a.hi)) || meet a.f.put g.look || meet a.f.look g.put || meet a.f.put g.put || (match g.put with | some l => meetR a.lo a.hi l | none => false)
def footOk (cl : List Nat) (f : Foot) : Nat → List Trace → Bool
  | _, [] => true
  | i, g :: r => (inL i cl || !(clash g f)) && footOk cl f (i + 1) r
def evOps (ops : Array Oper) : List Oper → St → (St → Option R) → Option R
  | [], s, K => K s
  | o :: rest, s, K =>
    match o.guard with
    | none => evOp P C call inl o s.fr s.bl fun a σ => evOps ops rest ⟨putF s.fr o.dst a, σ⟩ K
    | some (j, want) =>
      match ops[j]? with
      | none => none
      | some oj =>
        match oj.dst with
        | none => none
        | some d =>
          match lookF s.fr d with
          | .v (.bool b) =>
            let yes (_ : Unit) : Option R :=
              evOp P C call inl o (putF s.fr d (.v (.bool want))) s.bl fun a σ => evOps ops rest ⟨putF (putF s.fr d (.v (.bool want))) o.dst a, σ⟩ K
            let no (_ : Unit) : Option R := evOps ops rest ⟨putF (putF s.fr d (.v (.bool (!want)))) o.dst (.v (.tuple #[])), s.bl⟩ K
            match want with
            | true => cond b (yes ()) (no ())
            | false => cond b (no ()) (yes ())
          | .v (.tuple _) => evOps ops rest ⟨putF s.fr o.dst (.v (.tuple #[])), s.bl⟩ K
          | _ => none
def evOpsD (ops : Array Oper) : List Oper → List (List Nat) → List Trace → St → (St → Option R) → Option R
  | [], _, _, s, K => K s
  | o :: rest, cls, acc, s, K =>
    let yes (fr : List (Nat × AV)) : Option R :=
      bif footOk (cls.headD []) (footOf P C o fr s.bl) 0 acc then
        evOp P C call inl o fr s.bl fun a σ => evOpsD ops rest cls.tail (acc ++ [⟨footOf P C o fr s.bl, s.bl.length, σ.length, ldB P C o⟩]) ⟨putF fr o.dst a, σ⟩ K
      else none
    let no (fr : List (Nat × AV)) : Option R := evOpsD ops rest cls.tail (acc ++ [.no]) ⟨putF fr o.dst (.v (.tuple #[])), s.bl⟩ K
    match o.guard with
    | none => yes s.fr
    | some (j, want) =>
      match ops[j]? with
      | none => none
      | some oj =>
        match oj.dst with
        | none => none
        | some d =>
          match lookF s.fr d with
          | .v (.bool b) =>
            match want with
            | true => cond b (yes (putF s.fr d (.v (.bool want)))) (no (putF s.fr d (.v (.bool (!want)))))
            | false => cond b (no (putF s.fr d (.v (.bool (!want))))) (yes (putF s.fr d (.v (.bool want))))
          | .v (.tuple _) => no s.fr
          | _ => none
end call
end Go.Ev
namespace Go.Ev
def insN (n : Nat) : List Nat → List Nat
  | [] => [n]
  | m :: r => bif Nat.beq n m then m :: r else bif Nat.blt n m then n :: m :: r else m :: insN n r
def uniN : List Nat → List Nat → List Nat
  | [], b => b
  | a :: as, b => uniN as (insN a b)
def memN (n : Nat) : List Nat → Bool
  | [] => false
  | m :: r => Nat.beq n m || memN n r
def delN (n : Nat) : List Nat → List Nat
  | [] => []
  | m :: r => bif Nat.beq n m then r else m :: delN n r
structure LE where
  blk : List (Nat × List Nat)
  ret : List Nat
def lookL : List (Nat × List Nat) → Nat → List Nat
  | [], _ => []
  | (i, a) :: r, t => bif Nat.beq i t then a else lookL r t
def opUses (o : Oper) : List Nat := o.op.operands.toList.filterMap fun | .tmp t => some t | _ => none
def liveOps : List Oper → List Nat → List Nat
  | [], out => out
  | o :: r, out =>
    let l := liveOps r out
    uniN (opUses o) (match o.dst with | some d => delN d l | none => l)
def live : Code → List Nat → LE → List Nat
  | .skip, out, _ => out
  | .region _ ops _, out, _ => liveOps ops.toList out
  | .seq a b, out, E => live a (live b out E) E
  | .cond c a b, out, E => uniN (match c with | .tmp t => [t] | _ => []) (uniN (live a out E) (live b out E))
  | .block id c, out, E => live c out { E with blk := (id, out) :: E.blk }
  | .loop c, _, E => live c (live c (live c [] E) E) E
  | .exit id, _, E => lookL E.blk id
  | .ret, _, E => E.ret
  | _, _, _ => []
def exitsOf : Code → List Nat → List Nat
  | .seq a b, bd => uniN (exitsOf a bd) (exitsOf b bd)
  | .cond _ a b, bd => uniN (exitsOf a bd) (exitsOf b bd)
  | .block id c, bd => exitsOf c (id :: bd)
  | .loop c, bd => exitsOf c bd
  | .exit id, bd => bif memN id bd then [] else [id]
  | _, _ => []
def visitN (σ : Store) : Nat → List Nat → AV → List Nat
  | 0, vs, _ => vs
  | n + 1, vs, a =>
    match a with
    | .sl _ l _ _ => bif memN l vs then vs else vs ++ [l]
    | .px l _ _ _ => bif memN l vs then vs else (match σ[l]? with | some k => (lget k.xs 0).foldl (visitN σ n) (vs ++ [l]) | none => vs ++ [l])
    | .ptr l _ _ =>
      bif memN l vs then vs else
      match σ[l]? with
      | some k => bif k.obj then (lget k.xs 0).foldl (visitN σ n) (vs ++ [l]) else vs ++ [l]
      | none => vs ++ [l]
    | .clo _ first caps => caps.foldl (visitN σ n) (first.foldl (visitN σ n) vs)
    | .agg cs => cs.foldl (visitN σ n) vs
    | .tup cs => cs.foldl (visitN σ n) vs
    | _ => vs
def idxN (l : Nat) : List Nat → Nat
  | [] => 0
  | m :: r => bif Nat.beq l m then 0 else idxN l r + 1
def renN (vs : List Nat) : Nat → AV → AV
  | 0, _ => .un
  | n + 1, a =>
    match a with
    | .sl b l off cut => bif memN l vs then .sl b (idxN l vs) off cut else .un
    | .px l j k i => bif memN l vs then .px (idxN l vs) j k i else .un
    | .ptr l i j => bif memN l vs then .ptr (idxN l vs) i j else .un
    | .clo f first caps => .clo f (first.map (renN vs n)) (caps.map (renN vs n))
    | .agg cs => .agg (cs.map (renN vs n))
    | .tup cs => .tup (cs.map (renN vs n))
    | a => a
def renB (vs : List Nat) (k : Blk) : Blk := bif k.obj then { k with xs := [(lget k.xs 0).map (renN vs 6)] } else k
def thawC (σ : Store) (a : AV) : AV :=
  match a with
  | .sl b l 0 none =>
    match σ[l]? with
    | some k => bif Nat.beq k.mode 2 && !k.obj then .lst b k.sz k.xs else .sl b l 0 none
    | none => .sl b l 0 none
  | a => a
def thawB (σ : Store) (k : Blk) : Blk := bif k.obj then { k with xs := [(lget k.xs 0).map (thawC σ)] } else k
def canon0 (keep : List Nat) (s : St) : St :=
  let fr := (keep.filterMap fun t => match lookF s.fr t with | .un => none | a => some (t, a)) ++ (s.fr.filter fun p => Nat.ble 1000000 p.1)
  let vs := fr.foldl (fun vs p => visitN s.bl 6 vs p.2) []
  ⟨fr.map fun p => (p.1, renN vs 6 p.2), vs.map fun l => match s.bl[l]? with | some k => renB vs k | none => ⟨0, 0, 0, false, []⟩⟩
def canon (keep : List Nat) (s : St) : St := canon0 keep ⟨s.fr, s.bl.map (thawB s.bl)⟩
structure LR where
  ex : Option Nat
  st : St
  outs : List AV
inductive Ex where
  | normal
  | exit (id : Nat)
  | ret
def isEx (id : Nat) (r : LR) : Bool := match r.ex with | some i => Nat.beq i id | none => false
def isRt (r : LR) : Bool := r.ex.isNone
def isSl (l : Nat) (full : Bool) : AV → Bool
  | .sl _ m _ c => Nat.beq l m && (match c with | none => full | some _ => !full)
  | _ => false
def avOff : AV → Nat
  | .sl _ _ o _ => o
  | _ => 0
def avCut : AV → Nat
  | .sl _ _ _ (some n) => n
  | _ => 0
def isPtr (l i j : Nat) : AV → Bool
  | .ptr l' i' j' => Nat.beq l l' && Nat.beq i i' && Nat.beq j j'
  | _ => false
def isEp (n off : Nat) : AV → Bool
  | .ep cs o => Nat.beq cs.length n && Nat.beq o off
  | _ => false
def isClo0 (f : FuncId) : AV → Bool
  | .clo g [] [] => Nat.beq f g
  | _ => false
def likeS : AV → AV → Bool × AV
  | .v (.int k _), c => (isI k c, .v (.int k (avInt c)))
  | .v (.bool _), c => (isB c, .v (.bool (avBool c)))
  | .v (.string _), c => (isS c, .v (.string (avStr c)))
  | .v (.pointer none), c => (isNP c, .v (.pointer none))
  | .lst _ sz _, c => (isL sz c, .lst (avNil c) sz (avXs c))
  | .sl _ l off none, c => (isSl l true c && Nat.beq (avOff c) off, .sl (avNil c) l off none)
  | .sl _ l off (some _), c => (isSl l false c && Nat.beq (avOff c) off, .sl (avNil c) l off (some (avCut c)))
  | .ptr l i j, c => (isPtr l i j c, .ptr l i j)
  | .clo f [] [], c => (isClo0 f c, .clo f [] [])
  | _, _ => (false, .un)
def likeSG : List AV → Nat → List AV → Bool
  | [], _, _ => true
  | [t], j, cs => (likeS t (cellAt cs j)).1
  | t :: ts, j, cs => (likeS t (cellAt cs j)).1 && likeSG ts (j + 1) cs
def likeSV : List AV → Nat → List AV → List AV
  | [], _, _ => []
  | t :: ts, j, cs => (likeS t (cellAt cs j)).2 :: likeSV ts (j + 1) cs
def epCells : AV → List AV
  | .ep cs _ => cs
  | _ => []
def likeT : AV → AV → Bool × AV
  | .ep ts o, c => (isEp ts.length o c && likeSG ts 0 (epCells c), .ep (likeSV ts 0 (epCells c)) o)
  | .agg ts, c => (isAgg ts.length c && likeSG ts 0 (obCells c), .agg (likeSV ts 0 (obCells c)))
  | t, c => likeS t c
def frAt (fr : List (Nat × AV)) (j : Nat) : Nat × AV := fr.getD j (0, .un)
def likeFG : List (Nat × AV) → Nat → List (Nat × AV) → Bool
  | [], _, _ => true
  | (t, a) :: r, j, fr => Nat.beq t (frAt fr j).1 && (likeT a (frAt fr j).2).1 && likeFG r (j + 1) fr
def likeFV : List (Nat × AV) → Nat → List (Nat × AV) → List (Nat × AV)
  | [], _, _ => []
  | (t, a) :: r, j, fr => (t, (likeT a (frAt fr j).2).2) :: likeFV r (j + 1) fr
def blAt (bl : Store) (j : Nat) : Blk := bl.getD j ⟨0, 0, 0, false, []⟩
def likeBG : Store → Nat → Store → Bool
  | [], _, _ => true
  | k :: r, j, bl =>
    (Nat.beq k.mode (blAt bl j).mode && Nat.beq k.ty (blAt bl j).ty && Nat.beq k.sz (blAt bl j).sz && (k.obj == (blAt bl j).obj) &&
      (match k.obj with | true => Nat.beq (blAt bl j).xs.length 1 && Nat.beq (lget (blAt bl j).xs 0).length (lget k.xs 0).length && likeSG (lget k.xs 0) 0 (lget (blAt bl j).xs 0) | false => true)) && likeBG r (j + 1) bl
def likeBV : Store → Nat → Store → Store
  | [], _, _ => []
  | k :: r, j, bl =>
    { k with xs := match k.obj with | true => [likeSV (lget k.xs 0) 0 (lget (blAt bl j).xs 0)] | false => (blAt bl j).xs } :: likeBV r (j + 1) bl
def likeStG (T s : St) : Bool := Nat.beq T.fr.length s.fr.length && likeFG T.fr 0 s.fr && (Nat.beq T.bl.length s.bl.length && likeBG T.bl 0 s.bl)
def likeStV (T s : St) : St := ⟨likeFV T.fr 0 s.fr, likeBV T.bl 0 s.bl⟩
def keepL (c : Code) (E : LE) : List Nat :=
  uniN (live (.loop c) [] E) ((exitsOf c []).foldl (fun acc id => uniN (lookL E.blk id) acc) [])
abbrev LoopT := Code → LE → (St → Option (List AV)) → St → Option LR
def boundOf : Code → Nat
  | .seq (.region _ ops _) _ => ops.toList.foldl (fun acc o => match o.op with | .binOp .lss _ _ (.const (.int _ n)) _ => n.toNat | _ => acc) 0
  | _ => 0
def rollN {R : Type} (step : St → (Ex → St → Option R) → Option R) : Nat → St → (Ex → St → Option R) → Option R
  | 0, _, _ => none
  | n + 1, s, K => step s fun e s' => match e with | .normal => rollN step n s' K | e => K e s'
def canEnd : Code → Bool
  | .seq a b => canEnd a && canEnd b
  | .cond _ a b => canEnd a || canEnd b
  | .exit _ => false
  | .ret => false
  | .loop _ => false
  | _ => true
def hasBr : Code → Bool
  | .region _ ops _ => ops.toList.any fun o => o.guard.isSome
  | .seq a b => hasBr a || hasBr b
  | .cond _ a b => (canEnd a && canEnd b) || hasBr a || hasBr b
  | .block _ c => hasBr c
  | _ => false
def isCall (o : Oper) : Bool := match o.op with | .call _ => true | _ => false
def heavy : Code → Bool
  | .region _ ops _ => ops.toList.any fun o => o.guard.isSome || isCall o
  | .seq a b => heavy a || heavy b
  | .cond _ _ _ => true
  | .block _ _ => true
  | .loop _ => true
  | _ => false
def dstTy : Code → Nat → Option TypeId
  | .region _ ops _, t => ops.toList.findSome? fun o => match o.dst with | some d => bif Nat.beq d t then some o.type else none | none => none
  | .seq a b, t => match dstTy a t with | some u => some u | none => dstTy b t
  | .cond _ a b, t => match dstTy a t with | some u => some u | none => dstTy b t
  | .block _ c, t => dstTy c t
  | .loop c, t => dstTy c t
  | _, _ => none
def isUn : AV → Bool
  | .un => true
  | _ => false
def tmplOf (P : Program) (t : TypeId) : AV :=
  match P.underlying t with
  | some (.int k) => .v (.int k 0)
  | some .bool => .v (.bool false)
  | some .string => .v (.string .empty)
  | _ => .un
def newSl (P : Program) (a : Code) (s : St) : List Nat → List (Nat × AV)
  | [] => []
  | t :: ts =>
    bif isUn (lookF s.fr t) then (match dstTy a t with | some u => (t, tmplOf P u) :: newSl P a s ts | none => newSl P a s ts) else newSl P a s ts
def joinT (P : Program) (a : Code) (keep : List Nat) (s : St) : St := canon keep ⟨newSl P a s keep ++ s.fr, s.bl⟩
def joinB (P : Program) (a b : Code) (keep : List Nat) (s : St) : Bool :=
  hasBr a && heavy b && (newSl P a s keep).all fun p => !(isUn p.2)
def joinId : Nat := 1000001
def joinK (retK : St → Option (List AV)) (keep : List Nat) (E : LE) (e : Ex) (s : St) : Option LR :=
  match e with
  | .normal => some ⟨some joinId, canon keep s, []⟩
  | .exit id => bif Nat.beq id joinId then none else some ⟨some id, canon (lookL E.blk id) s, []⟩
  | .ret => (retK s).bind fun outs => some ⟨none, ⟨[], []⟩, outs⟩
def setC (s : St) (c : Operand) (v : Bool) : St :=
  match c with
  | .tmp t => ⟨putF s.fr (some t) (.v (.bool v)), s.bl⟩
  | _ => s
section code
variable (P : Program) (C : Cfg) (call : CallT) (inl : InlT) (loop : LoopT) (rmax : Nat) (jn : Bool)
def reenter {R : Type} (T : List Nat → St) (E : LE) (K : Ex → St → Option R) (fin : List AV → Option R) (r : LR) : List Nat → Option R
  | [] => cond (isRt r) (fin r.outs) none
  | id :: ids =>
    cond (isEx id r) (cond (likeStG (T (lookL E.blk id)) r.st) (K (.exit id) (likeStV (T (lookL E.blk id)) r.st)) none) (reenter T E K fin r ids)
def evCode (retK : St → Option (List AV)) : Code → (R : Type) → (List AV → Option R) → List Nat → LE → St → (Ex → St → Option R) → Option R
  | .skip, _, _, _, _, s, K => K .normal s
  | .region _ ops d, _, _, _, _, s, K => bif d then (bif drawOk ops then evOpsD P C call inl ops ops.toList (closL ops.toList) [] s (K .normal) else none) else evOps P C call inl ops ops.toList s (K .normal)
  | .seq a b, R, fin, out, E, s, K =>
    bif jn && joinB P a b (live b out E) s then
      (evCode retK a LR (fun outs => some ⟨none, ⟨[], []⟩, outs⟩) (live b out E) E s (joinK retK (live b out E) E)).bind fun r =>
        cond (isEx joinId r)
          (cond (likeStG (joinT P a (live b out E) s) r.st) (evCode retK b R fin out E (likeStV (joinT P a (live b out E) s) r.st) K) none)
          (reenter (fun keep => canon keep s) E K fin r (exitsOf a []))
    else
      evCode retK a R fin (live b out E) E s fun e s' =>
        match e with
        | .normal => evCode retK b R fin out E s' K
        | e => K e s'
  | .cond c a b, R, fin, out, E, s, K =>
    match getO s.fr c with
    | .v (.bool t) => cond t (evCode retK a R fin out E (setC s c true) K) (evCode retK b R fin out E (setC s c false) K)
    | _ => none
  | .block id c, R, fin, out, E, s, K =>
    evCode retK c R fin out { E with blk := (id, out) :: E.blk } s fun e s' =>
      match e with
      | .exit i => bif Nat.beq i id then K .normal s' else K (.exit i) s'
      | e => K e s'
  | .loop c, R, fin, _, E, s, K =>
    bif Nat.blt 0 (boundOf c) && Nat.ble (boundOf c) rmax then rollN (fun s K => evCode retK c R fin (keepL c E) E s K) (boundOf c + 1) s K else
    (loop c E retK (canon (keepL c E) s)).bind fun r =>
      reenter (fun keep => canon keep (canon (keepL c E) s)) E K fin r (exitsOf c [])
  | .exit id, _, _, _, _, s, K => K (.exit id) s
  | .ret, _, _, _, _, s, K => K .ret s
  | _, _, _, _, _, _, _ => none
end code
def evLoop (P : Program) (C : Cfg) (call : CallT) (inl : InlT) (rmax : Nat) (jn : Bool) : Nat → LoopT
  | 0, _, _, _, _ => none
  | n + 1, c, E, retK, s =>
    evCode P C call inl (evLoop P C call inl rmax jn n) rmax jn retK c LR (fun outs => some ⟨none, ⟨[], []⟩, outs⟩) (keepL c E) E s fun e s' =>
      match e with
      | .normal => evLoop P C call inl rmax jn n c E retK (canon (keepL c E) s')
      | .exit id => some ⟨some id, canon (lookL E.blk id) s', []⟩
      | .ret => (retK s').bind fun outs => some ⟨none, ⟨[], []⟩, outs⟩
def expR1 (dat : Bool) (σ : Store) (a : AV) : Option (AV × Store) :=
  match a with
  | .v x => bif okC (.v x) then some (.v x, σ) else none
  | .lst b sz xs => bif dat then some (.lst b sz xs, σ) else none
  | .sl _ _ _ _ =>
    match dat with
    | true => frz σ a
    | false => expC σ a
  | .agg cs => match frzL σ cs with | none => none | some (cs', σ') => some (.agg cs', σ')
  | .ptr l i j => bif Nat.beq i 0 && Nat.beq j 0 then expOb σ l else none
  | .clo f first caps => bif !first.isEmpty then none else match expOs σ caps with | none => none | some (bs, σ', _) => some (.clo f first bs, σ')
  | _ => none
def expRs (dat : Bool) (σ : Store) : List AV → Option (List AV × Store)
  | [] => some ([], σ)
  | c :: cs =>
    match expR1 dat σ c with
    | none => none
    | some (c', σ') =>
      match expRs dat σ' cs with
      | none => none
      | some (cs', σ'') => some (c' :: cs', σ'')
def expBack (σ : Store) (a : AV) : Option (AV × Store) :=
  match a with
  | .ptr l i j => bif Nat.beq i 0 && Nat.beq j 0 then expOb σ l else none
  | a => match expRow σ a with | none => none | some (b, σ', _) => some (b, σ')
def expBacks (σ : Store) : List AV → Option (List AV × Store)
  | [] => some ([], σ)
  | a :: as =>
    match expBack σ a with
    | none => none
    | some (c', σ') =>
      match expBacks σ' as with
      | none => none
      | some (cs', σ'') => some (c' :: cs', σ'')
def resVals (P : Program) (s : St) : List ResultVar → Option (List AV)
  | [] => some []
  | .tmp t :: r => match resVals P s r with | none => none | some vs => some (tmpF s.fr t :: vs)
  | .cell a t :: r =>
    match tmpF s.fr a with
    | .ptr l i j =>
      match evLoad P s.bl (fun a _ => some a) t (.ptr l i j) with
      | none => none
      | some v =>
        match resVals P s r with
        | none => none
        | some vs => some (v :: vs)
    | _ => none
def rootsOf (fr : List (Nat × AV)) (ts : List Nat) : List AV := ts.map (lookF fr)
def retGen (P : Program) (C : Cfg) (f : FuncId) (fn : Func) (nr : Nat) (s : St) : Option (List AV) :=
  match resVals P s fn.results.toList with
  | some vs =>
    match expRs (C.dat f) s.bl vs with
    | none => none
    | some (rs, σ) =>
      match expBacks σ (rootsOf s.fr ((List.range nr).map (· + 1000000))) with
      | none => none
      | some (bs, _) => some (rs ++ bs)
  | none => none
def bigR (P : Program) (fn : Func) : Bool := match fn.resultTypes.toList with | [t] => Nat.blt 16 (cks P t).length | _ => false
def bigK (v : AV) : Option (List AV) := match v with | .agg cs => cond (cs.all isV) (some [.agg cs]) none | _ => none
def retOuts (P : Program) (C : Cfg) (f : FuncId) (fn : Func) (nr : Nat) (s : St) : Option (List AV) :=
  bif bigR P fn && Nat.beq nr 0 then
    match fn.results.toList with
    | [.tmp t] => bigK (tmpF s.fr t)
    | [.cell a t] =>
      match tmpF s.fr a with
      | .ptr l i j => evLoad P s.bl (fun v _ => bigK v) t (.ptr l i j)
      | _ => none
    | _ => none
  else retGen P C f fn nr s
def resSlot : ResultVar → Nat
  | .tmp t => t
  | .cell a _ => a
def retLive (fn : Func) : List Nat := fn.results.toList.foldl (fun acc r => insN (resSlot r) acc) []
def startFr (n : Nat) : List AV → List (Nat × AV)
  | [] => []
  | a :: as => (n, a) :: startFr (n + 1) as
def loopsIn : Code → List Nat → LE → List (Code × LE)
  | .seq a b, out, E => loopsIn a (live b out E) E ++ loopsIn b out E
  | .cond _ a b, out, E => loopsIn a out E ++ loopsIn b out E
  | .block id c, out, E => loopsIn c out { E with blk := (id, out) :: E.blk }
  | .loop c, _, E => (c, E) :: loopsIn c (keepL c E) E
  | _, _, _ => []
def loopAt (P : Program) (f : FuncId) (k : Nat) : Code × LE :=
  match P.funcs[f]? with
  | some fn => match fn.body with | some c => (loopsIn c (retLive fn) ⟨[], retLive fn⟩).getD k (.skip, ⟨[], []⟩) | none => (.skip, ⟨[], []⟩)
  | none => (.skip, ⟨[], []⟩)
def retAt (P : Program) (C : Cfg) (f : FuncId) (nr : Nat) : St → Option (List AV) :=
  match P.funcs[f]? with
  | some fn => retOuts P C f fn nr
  | none => fun _ => none
def dstOk (n : Nat) : Code → Bool
  | .region _ ops _ => ops.toList.all fun o => match o.dst with | some d => Nat.blt d n | none => true
  | .seq a b => dstOk n a && dstOk n b
  | .cond _ a b => dstOk n a && dstOk n b
  | .block _ c => dstOk n c
  | .loop c => dstOk n c
  | _ => true
def evBody (P : Program) (C : Cfg) (call : CallT) (inl : InlT) (n : Nat) (f : FuncId) (args : List AV) : Option (List AV) :=
  match P.funcs[f]? with
  | none => none
  | some fn =>
    match fn.body, impArgs [] args with
    | some c, some (vs, σ, roots) =>
      bif !(dstOk fn.ntmps c && Nat.ble args.length fn.ntmps && Nat.ble fn.ntmps 1000000 && Nat.beq fn.results.size fn.resultTypes.size) then none else
      let retK := retOuts P C f fn roots.length
      evCode P C call inl (evLoop P C call inl (C.roll f) (C.join f) n) (C.roll f) (C.join f) retK c (List AV) some (retLive fn) ⟨[], retLive fn⟩
        ⟨startFr 0 vs ++ startFr 1000000 roots, σ⟩ fun e s =>
          match e with
          | .exit _ => none
          | _ => retK s
    | _, _ => none
def inlBody (P : Program) (C : Cfg) (call : CallT) (inl : InlT) (R : Type) (f : FuncId) (args : List AV) (σ : Store) (K : List AV → Store → Option R) : Option R :=
  match P.funcs[f]? with
  | none => none
  | some fn =>
    match fn.body with
    | some c =>
      bif !(dstOk fn.ntmps c && Nat.ble args.length fn.ntmps && Nat.ble fn.ntmps 1000000 && Nat.beq fn.results.size fn.resultTypes.size) then none else
      evCode P C call inl (fun _ _ _ _ => none) 0 false (fun _ => none) c R (fun _ => none) (retLive fn) ⟨[], retLive fn⟩ ⟨startFr 0 args, σ⟩ fun e s =>
        match e with
        | .exit _ => none
        | _ => match resVals P s fn.results.toList with | none => none | some vs => K vs s.bl
    | none => none
def inlD (P : Program) (C : Cfg) (call : CallT) : Nat → InlT
  | 0 => fun _ _ _ _ _ => none
  | k + 1 => fun R f args σ K => inlBody P C call (inlD P C call k) R f args σ K
def evTop (C : Cfg) (f : FuncId) (args : List AV) (x : Option (List AV)) : Option (List AV) :=
  match C.ext f with
  | some g => g args
  | none => x
def evF (P : Program) (C : Cfg) : Nat → CallT
  | 0 => fun _ _ => none
  | n + 1 => fun f args => evTop C f args (evBody P C (evF P C n) (inlD P C (evF P C n) 5) n f args)
end Go.Ev
namespace Go.Ev
structure RB where
  b : Nat
  csz : Nat
  sz : Nat
  n : Nat
  ph : Bool
abbrev Rho := Nat → Option RB
abbrev Mu := Nat → Option Obj
def muCell (μ : Mu) (a : Addr) : Option Value :=
  match μ a.block with
  | some (.cells c _ _) => if a.spot.isSome then none else c[a.off]?
  | _ => none
def cutN (n off : Nat) : Option Nat → Nat
  | none => n - off
  | some m => m
inductive DR (μ : Mu) : AV → Value → Prop
  | v {x : Value} (h : okC (.v x) = true) : DR μ (.v x) x
  | lst {nil : Bool} {sz : Nat} {xs : List (List AV)} {A : Option Addr} {c : Nat} (vals : Nat → Nat → Value)
      (hnil : nil = A.isNone) (hA : A = none → xs = [] ∧ c = 0) (hc : xs.length ≤ c) (hsz : ∀ e ∈ xs, e.length = sz)
      (hcell : ∀ a, A = some a → ∀ k j, k < xs.length → j < sz → muCell μ (a.add (k * sz + j)) = some (vals k j))
      (hv : ∀ k e j u, xs[k]? = some e → e[j]? = some u → DR μ u (vals k j)) : DR μ (.lst nil sz xs) (.slice A xs.length c)
  | ep {cs : List AV} {off b o : Nat} (vals : Nat → Value) (hcell : ∀ j, j < cs.length → muCell μ ⟨b, o + j, none⟩ = some (vals j))
      (hv : ∀ j u, cs[j]? = some u → DR μ u (vals j)) : DR μ (.ep cs off) (.pointer (some ⟨b, o + off, none⟩))
  | clo {f : FuncId} {first caps : List AV} {fs cs : List Value} (h1 : fs.length = first.length) (h2 : cs.length = caps.length)
      (hv1 : ∀ (k : Nat) (u : AV) (v : Value), first[k]? = some u → fs[k]? = some v → DR μ u v) (hv2 : ∀ (k : Nat) (u : AV) (v : Value), caps[k]? = some u → cs[k]? = some v → DR μ u v) :
      DR μ (.clo f first caps) (.func (.func f) fs.toArray cs.toArray)
inductive CR (μ : Mu) (ρ : Rho) : AV → Value → Prop
  | d {a : AV} {v : Value} (h : DR μ a v) : CR μ ρ a v
  | ptr {l i j : Nat} {rb : RB} (h : ρ l = some rb) (hp : rb.ph = false) : CR μ ρ (.ptr l i j) (.pointer (some ⟨rb.b, i * rb.sz + j, none⟩))
  | px {l j n i : Nat} {rb : RB} (h : ρ l = some rb) (hp : rb.ph = false) (hi : i < n) : CR μ ρ (.px l j n i) (.pointer (some ⟨rb.b, j + i, none⟩))
  | sl {l off : Nat} {cut : Option Nat} {rb : RB} {a : Addr} {len cap : Nat} (h : ρ l = some rb) (hp : rb.ph = false)
      (ha : a = ⟨rb.b, off * rb.sz, none⟩ ∨ (cap = 0 ∧ 0 < off)) (hlen : len = cutN rb.n off cut)
      (hoff : off + len ≤ rb.n) (hcap : len ≤ cap) (hcsz : (off + cap) * rb.sz = rb.csz) : CR μ ρ (.sl false l off cut) (.slice (some a) len cap)
  | sln {l off : Nat} {cut : Option Nat} {rb : RB} (h : ρ l = some rb) (hn : rb.n = 0) (ho : off = 0) (hcut : ∀ n, cut = some n → n = 0) :
      CR μ ρ (.sl true l off cut) (.slice none 0 0)
  | clo {f : FuncId} {first caps : List AV} {fs cs : List Value} (h1 : fs.length = first.length) (h2 : cs.length = caps.length)
      (hv1 : ∀ (k : Nat) (u : AV) (v : Value), first[k]? = some u → fs[k]? = some v → CR μ ρ u v) (hv2 : ∀ (k : Nat) (u : AV) (v : Value), caps[k]? = some u → cs[k]? = some v → CR μ ρ u v) :
      CR μ ρ (.clo f first caps) (.func (.func f) fs.toArray cs.toArray)
  | un {v : Value} (h : v.oneCell' = true) : CR μ ρ .un v
def CRs (μ : Mu) (ρ : Rho) (cs : List AV) (vs : List Value) : Prop := vs.length = cs.length ∧ ∀ (k : Nat) (u : AV) (v : Value), cs[k]? = some u → vs[k]? = some v → CR μ ρ u v
def DRs (μ : Mu) (cs : List AV) (vs : List Value) : Prop := vs.length = cs.length ∧ ∀ (k : Nat) (u : AV) (v : Value), cs[k]? = some u → vs[k]? = some v → DR μ u v
inductive VR (μ : Mu) (ρ : Rho) : AV → Value → Prop
  | c {a : AV} {v : Value} (h : CR μ ρ a v) : VR μ ρ a v
  | agg {cs : List AV} {vs : List Value} (h : CRs μ ρ cs vs) : VR μ ρ (.agg cs) (.agg vs.toArray)
  | tup {cs : List AV} {vs : List Value} (hl : vs.length = cs.length) (h : ∀ (k : Nat) (u : AV) (v : Value), cs[k]? = some u → vs[k]? = some v → VR μ ρ u v) : VR μ ρ (.tup cs) (.tuple vs.toArray)
  | un {v : Value} : VR μ ρ .un v
  | sk : VR μ ρ (.v (.tuple #[])) (.tuple #[])
def MuLe (μ μ' : Mu) : Prop := ∀ b o, μ b = some o → μ' b = some o
def RhoLe (ρ ρ' : Rho) : Prop := ∀ l rb, ρ l = some rb → ρ' l = some rb
theorem MuLe.refl (μ : Mu) : MuLe μ μ := fun _ _ h => h
theorem RhoLe.refl (ρ : Rho) : RhoLe ρ ρ := fun _ _ h => h
theorem MuLe.trans {a b c : Mu} (h : MuLe a b) (k : MuLe b c) : MuLe a c := fun x o e => k x o (h x o e)
theorem RhoLe.trans {a b c : Rho} (h : RhoLe a b) (k : RhoLe b c) : RhoLe a c := fun x o e => k x o (h x o e)
theorem muCell_mono {μ μ' : Mu} (h : MuLe μ μ') {a : Addr} {v : Value} (hc : muCell μ a = some v) : muCell μ' a = some v := by
  unfold muCell at *
  split at hc
  · rename_i c t f hm
    rw [h _ _ hm]
    exact hc
  · cases hc
theorem DR.mono {μ μ' : Mu} (h : MuLe μ μ') {a : AV} {v : Value} (hd : DR μ a v) : DR μ' a v := by
  induction hd with
  | v hx => exact .v hx
  | lst vals hnil hA hc hsz hcell hv ih => exact .lst vals hnil hA hc hsz (fun a ha k j hk hj => muCell_mono h (hcell a ha k j hk hj)) ih
  | ep vals hcell hv ih => exact .ep vals (fun j hj => muCell_mono h (hcell j hj)) ih
  | clo h1 h2 _ _ ih1 ih2 => exact .clo h1 h2 ih1 ih2
theorem CR.mono {μ μ' : Mu} {ρ ρ' : Rho} (h : MuLe μ μ') (hr : RhoLe ρ ρ') {a : AV} {v : Value} (hd : CR μ ρ a v) : CR μ' ρ' a v := by
  induction hd with
  | d hx => exact .d (hx.mono h)
  | ptr hl hp => exact .ptr (hr _ _ hl) hp
  | px hl hp hi => exact .px (hr _ _ hl) hp hi
  | sl hl hp ha hlen hoff hcap hcsz => exact .sl (hr _ _ hl) hp ha hlen hoff hcap hcsz
  | sln hl hn ho hcut => exact .sln (hr _ _ hl) hn ho hcut
  | clo h1 h2 _ _ ih1 ih2 => exact .clo h1 h2 ih1 ih2
  | un h => exact .un h
theorem CRs.mono {μ μ' : Mu} {ρ ρ' : Rho} (h : MuLe μ μ') (hr : RhoLe ρ ρ') {cs : List AV} {vs : List Value} (hd : CRs μ ρ cs vs) : CRs μ' ρ' cs vs :=
  ⟨hd.1, fun k u v hu hv => (hd.2 k u v hu hv).mono h hr⟩
theorem DRs.mono {μ μ' : Mu} (h : MuLe μ μ') {cs : List AV} {vs : List Value} (hd : DRs μ cs vs) : DRs μ' cs vs :=
  ⟨hd.1, fun k u v hu hv => (hd.2 k u v hu hv).mono h⟩
theorem VR.mono {μ μ' : Mu} {ρ ρ' : Rho} (h : MuLe μ μ') (hr : RhoLe ρ ρ') {a : AV} {v : Value} (hd : VR μ ρ a v) : VR μ' ρ' a v := by
  induction hd with
  | c hx => exact .c (hx.mono h hr)
  | agg hx => exact .agg (hx.mono h hr)
  | tup hl _ ih => exact .tup hl ih
  | un => exact .un
  | sk => exact .sk
theorem okC_one {x : Value} (h : okC (.v x) = true) : x.oneCell' = true := by
  cases x <;> simp_all [okC, Value.oneCell']
theorem DR.one {μ : Mu} {a : AV} {v : Value} (h : DR μ a v) : v.oneCell' = true := by
  cases h with
  | v hx => exact okC_one hx
  | lst => rfl
  | ep => rfl
  | clo => rfl
theorem CR.one {μ : Mu} {ρ : Rho} {a : AV} {v : Value} (h : CR μ ρ a v) : v.oneCell' = true := by
  cases h with
  | d hx => exact hx.one
  | ptr => rfl
  | px => rfl
  | sl => rfl
  | sln => rfl
  | clo => rfl
  | un h => exact h
theorem VR.cell {μ : Mu} {ρ : Rho} {a : AV} {v : Value} (h : VR μ ρ a v) (hk : okC a = true) : CR μ ρ a v := by
  cases h with
  | c hx => exact hx
  | agg => cases hk
  | tup => cases hk
  | un => cases hk
  | sk => cases hk
def RowD (μ : Mu) (sz : Nat) (xs : List (List AV)) (cur : Array Value) : Prop :=
  (∀ e ∈ xs, e.length = sz) ∧ ∀ i e j c, xs[i]? = some e → e[j]? = some c → ∃ u, cur[i * sz + j]? = some u ∧ DR μ c u
def RowO (μ : Mu) (ρ : Rho) (sz : Nat) (xs : List (List AV)) (cur : Array Value) : Prop :=
  (∀ e ∈ xs, e.length = sz) ∧ ∀ i e j c, xs[i]? = some e → e[j]? = some c → ∃ u, cur[i * sz + j]? = some u ∧ CR μ ρ c u
def OkFz (obj : Bool) (n : Nat) (fz : Nat × Nat) : Prop := fz = (0, 0) ∨ (obj = false ∧ n ≤ fz.1)
def fxB (obj : Bool) (sz : Nat) : Bool := obj || !(Nat.beq sz 1)
def Has (w : World) (b : Nat) (cur : Array Value) (ty : Nat) (obj : Bool) : Prop := ∃ fz, w.heap[b]? = some (.cells cur ty fz) ∧ OkFz obj cur.size fz
structure Live (μ : Mu) (ρ : Rho) (w : World) (k : Blk) (rb : RB) (cur : Array Value) : Prop where
  size : cur.size = rb.csz
  rowD : k.obj = false → RowD μ rb.sz k.xs cur
  rowO : k.obj = true → RowO μ ρ rb.sz k.xs cur
  at_ : (k.mode = 1 ∧ Has w rb.b cur k.ty (fxB k.obj k.sz) ∧ μ rb.b = none) ∨ (k.mode = 2 ∧ ∃ ty fz, μ rb.b = some (.cells cur ty fz))
structure BlkR (μ : Mu) (ρ : Rho) (w : World) (k : Blk) (rb : RB) : Prop where
  sz : rb.sz = k.sz
  n : rb.n = k.xs.length
  fit : rb.n * rb.sz ≤ rb.csz
  ph : rb.ph = true → k.xs = [] ∧ k.obj = false
  one : k.obj = true → k.xs.length = 1 ∧ rb.csz = rb.sz
  live : rb.ph = false → ∃ cur, Live μ ρ w k rb cur
class Gl where
  ok : Mu → Prop
  mono : ∀ {m m' : Mu}, MuLe m m' → ok m → ok m'
variable [Gl]
structure Env where
  w0 : World
  D : Nat → Prop
  m0 : Mu
  gl : Gl.ok m0
structure Frm (E : Env) (μ : Mu) (w : World) : Prop where
  os : w.os = E.w0.os
  tape : w.tape = E.w0.tape
  output : w.output = E.w0.output
  size : E.w0.heap.size ≤ w.heap.size
  keep : ∀ b, b < E.w0.heap.size → ¬ E.D b → w.heap[b]? = E.w0.heap[b]?
  mu : MuLe E.m0 μ
  muNew : ∀ b o, μ b = some o → E.m0 b = some o ∨ E.D b ∨ E.w0.heap.size ≤ b
structure SR (E : Env) (μ : Mu) (ρ : Rho) (σ : Store) (w : World) : Prop where
  blk : ∀ l rb k, ρ l = some rb → σ[l]? = some k → k.mode ≠ 0 → BlkR μ ρ w k rb
  inj : ∀ l l' rb rb' k k', ρ l = some rb → ρ l' = some rb' → σ[l]? = some k → σ[l']? = some k' → k.mode = 1 → k'.mode = 1 → rb.ph = false → rb'.ph = false → rb.b = rb'.b → l = l'
  ownD : ∀ l rb k, ρ l = some rb → σ[l]? = some k → k.mode = 1 → rb.ph = false → E.D rb.b ∨ E.w0.heap.size ≤ rb.b
  imm : ∀ b o, μ b = some o → w.heap[b]? = some o
  base : Frm E μ w
theorem SR.gl {E : Env} {μ : Mu} {ρ : Rho} {σ : Store} {w : World} (h : SR E μ ρ σ w) : Gl.ok μ := Gl.mono h.base.mu E.gl
theorem SR.world {E : Env} {μ : Mu} {ρ : Rho} {σ : Store} {w w' : World} (h : SR E μ ρ σ w)
    (hk : ∀ b, b < w.heap.size → w'.heap[b]? = w.heap[b]?) (hz : w.heap.size ≤ w'.heap.size) (ho : w'.os = w.os) (ht : w'.tape = w.tape) (hu : w'.output = w.output) : SR E μ ρ σ w' := by
  have hlt : ∀ b (o : Obj), w.heap[b]? = some o → w'.heap[b]? = some o := fun b o hb => by
    rw [hk b (Array.getElem?_eq_some_iff.1 hb).1]; exact hb
  refine ⟨fun l rb k hl hk' hm => ?_, h.inj, h.ownD, fun b o hb => hlt b o (h.imm b o hb), ⟨ho.trans h.base.os, ht.trans h.base.tape, hu.trans h.base.output, Nat.le_trans h.base.size hz, fun b hb hD => ?_, h.base.mu, h.base.muNew⟩⟩
  · have hb := h.blk l rb k hl hk' hm
    refine ⟨hb.sz, hb.n, hb.fit, hb.ph, hb.one, fun hp => ?_⟩
    obtain ⟨cur, hc⟩ := hb.live hp
    refine ⟨cur, hc.size, hc.rowD, hc.rowO, ?_⟩
    rcases hc.at_ with ⟨h1, h2, h3⟩ | h2
    · exact .inl ⟨h1, h2.imp fun fz h => ⟨hlt _ _ h.1, h.2⟩, h3⟩
    · exact .inr h2
  · rw [hk b (Nat.lt_of_lt_of_le hb h.base.size)]
    exact h.base.keep b hb hD
theorem SR.drew {E : Env} {μ : Mu} {ρ : Rho} {σ : Store} {w : World} (h : SR E μ ρ σ w) : SR E μ ρ σ w.drew :=
  h.world (fun _ _ => rfl) (Nat.le_refl _) rfl rfl rfl
theorem alloc_old (w : World) (o : Obj) (b : Nat) (h : b < w.heap.size) : (w.alloc o).heap[b]? = w.heap[b]? := by
  show (w.heap.push o)[b]? = _
  rw [Array.getElem?_push, if_neg (Nat.ne_of_lt h)]
theorem alloc_new (w : World) (o : Obj) : (w.alloc o).heap[w.heap.size]? = some o := by
  show (w.heap.push o)[w.heap.size]? = _
  simp
theorem SR.alloc {E : Env} {μ : Mu} {ρ : Rho} {σ : Store} {w : World} (h : SR E μ ρ σ w) (o : Obj) : SR E μ ρ σ (w.alloc o) :=
  h.world (fun b hb => alloc_old w o b hb) (by simp) rfl rfl rfl
def rhoAdd (ρ : Rho) (l : Nat) (rb : RB) : Rho := fun m => if m = l then some rb else ρ m
theorem rhoAdd_same (ρ : Rho) (l : Nat) (rb : RB) : rhoAdd ρ l rb l = some rb := by simp [rhoAdd]
theorem rhoAdd_le {ρ : Rho} {l : Nat} {rb : RB} (h : ∀ r, ρ l ≠ some r) : RhoLe ρ (rhoAdd ρ l rb) := fun m r hm => by
  unfold rhoAdd
  split
  · rename_i e; subst e; exact absurd hm (h r)
  · exact hm
def Fresh (ρ : Rho) (σ : Store) : Prop := ρ σ.length = none
theorem RowO.mono {μ μ' : Mu} {ρ ρ' : Rho} (h : MuLe μ μ') (hr : RhoLe ρ ρ') {sz : Nat} {xs : List (List AV)} {cur : Array Value} (hd : RowO μ ρ sz xs cur) : RowO μ' ρ' sz xs cur :=
  ⟨hd.1, fun i e j c he hc => let ⟨u, h1, h2⟩ := hd.2 i e j c he hc; ⟨u, h1, h2.mono h hr⟩⟩
theorem RowD.mono {μ μ' : Mu} (h : MuLe μ μ') {sz : Nat} {xs : List (List AV)} {cur : Array Value} (hd : RowD μ sz xs cur) : RowD μ' sz xs cur :=
  ⟨hd.1, fun i e j c he hc => let ⟨u, h1, h2⟩ := hd.2 i e j c he hc; ⟨u, h1, h2.mono h⟩⟩
theorem BlkR.rho {μ : Mu} {ρ ρ' : Rho} {w : World} {k : Blk} {rb : RB} (h : BlkR μ ρ w k rb) (hr : RhoLe ρ ρ') : BlkR μ ρ' w k rb :=
  ⟨h.sz, h.n, h.fit, h.ph, h.one, fun hp => let ⟨cur, hc⟩ := h.live hp; ⟨cur, hc.size, hc.rowD, fun ho => (hc.rowO ho).mono (MuLe.refl μ) hr, hc.at_⟩⟩
theorem get_app {α : Type} {σ : List α} {k kk : α} {l : Nat} (h : (σ ++ [k])[l]? = some kk) : (l < σ.length ∧ σ[l]? = some kk) ∨ (l = σ.length ∧ kk = k) := by
  rcases Nat.lt_or_ge l σ.length with hlt | hge
  · rw [List.getElem?_append_left hlt] at h; exact .inl ⟨hlt, h⟩
  · rw [List.getElem?_append_right hge] at h
    rcases Nat.eq_zero_or_pos (l - σ.length) with h0 | h0
    · rw [h0] at h
      exact .inr ⟨by omega, by simpa using h.symm⟩
    · rw [List.getElem?_eq_none (by simp; omega)] at h; cases h
theorem rhoAdd_cases {ρ : Rho} {l m : Nat} {r rb : RB} (h : rhoAdd ρ l r m = some rb) : (m = l ∧ rb = r) ∨ (m ≠ l ∧ ρ m = some rb) := by
  unfold rhoAdd at h
  split at h
  · rename_i e; exact .inl ⟨e, by injection h with h; exact h.symm⟩
  · rename_i e; exact .inr ⟨e, h⟩
theorem SR.own_lt {E : Env} {μ : Mu} {ρ : Rho} {σ : Store} {w : World} (h : SR E μ ρ σ w) {l : Nat} {rb : RB} {k : Blk} (h1 : ρ l = some rb) (h2 : σ[l]? = some k) (h3 : k.mode = 1) (h4 : rb.ph = false) : rb.b < w.heap.size := by
  obtain ⟨c, hc⟩ := (h.blk l rb k h1 h2 (by omega)).live h4
  rcases hc.at_ with ⟨_, ⟨_, h6, _⟩, _⟩ | ⟨h5, _⟩
  · exact (Array.getElem?_eq_some_iff.1 h6).1
  · omega
theorem SR.add {E : Env} {μ : Mu} {ρ : Rho} {σ : Store} {w : World} (h : SR E μ ρ σ w) (hf : Fresh ρ σ) (k : Blk) (rb : RB)
    (hb : BlkR μ (rhoAdd ρ σ.length rb) w k rb) (hnew : k.mode = 1 → rb.ph = false → (E.D rb.b ∨ E.w0.heap.size ≤ rb.b) ∧ ∀ l rb' k', ρ l = some rb' → σ[l]? = some k' → k'.mode = 1 → rb'.ph = false → rb'.b ≠ rb.b) :
    RhoLe ρ (rhoAdd ρ σ.length rb) ∧ SR E μ (rhoAdd ρ σ.length rb) (σ ++ [k]) w := by
  have hle : RhoLe ρ (rhoAdd ρ σ.length rb) := rhoAdd_le (fun r e => by rw [hf] at e; cases e)
  refine ⟨hle, fun l r kk hl hk hmm => ?_, fun l l' r r' kk kk' hl hl' hk hk' hm1 hm2 hp hp' he => ?_, fun l r kk hl hk hm1 hp => ?_, h.imm, h.base⟩
  · rcases get_app hk with ⟨h1, h2⟩ | ⟨h1, h2⟩
    · rcases rhoAdd_cases hl with ⟨h3, _⟩ | ⟨_, h4⟩
      · omega
      · exact (h.blk l r kk h4 h2 hmm).rho hle
    · rcases rhoAdd_cases hl with ⟨_, h4⟩ | ⟨h3, _⟩
      · rw [h2, h4]; exact hb
      · exact absurd h1 h3
  · rcases get_app hk with ⟨h1, h2⟩ | ⟨h1, h2⟩ <;> rcases get_app hk' with ⟨h1', h2'⟩ | ⟨h1', h2'⟩
    · rcases rhoAdd_cases hl with ⟨h3, _⟩ | ⟨_, h4⟩
      · omega
      rcases rhoAdd_cases hl' with ⟨h3, _⟩ | ⟨_, h4'⟩
      · omega
      exact h.inj l l' r r' kk kk' h4 h4' h2 h2' hm1 hm2 hp hp' he
    · rcases rhoAdd_cases hl with ⟨h3, _⟩ | ⟨_, h4⟩
      · omega
      rcases rhoAdd_cases hl' with ⟨_, h4'⟩ | ⟨h3, _⟩
      · subst h4'
        exact absurd he ((hnew (h2' ▸ hm2) hp').2 l r kk h4 h2 hm1 hp)
      · exact absurd h1' h3
    · rcases rhoAdd_cases hl' with ⟨h3, _⟩ | ⟨_, h4⟩
      · omega
      rcases rhoAdd_cases hl with ⟨_, h4'⟩ | ⟨h3, _⟩
      · subst h4'
        exact absurd he.symm ((hnew (h2 ▸ hm1) hp).2 l' r' kk' h4 h2' hm2 hp')
      · exact absurd h1 h3
    · omega
  · rcases get_app hk with ⟨h1, h2⟩ | ⟨h1, h2⟩
    · rcases rhoAdd_cases hl with ⟨h3, _⟩ | ⟨_, h4⟩
      · omega
      · exact h.ownD l r kk h4 h2 hm1 hp
    · rcases rhoAdd_cases hl with ⟨_, h4⟩ | ⟨h3, _⟩
      · subst h4
        exact (hnew (h2 ▸ hm1) hp).1
      · exact absurd h1 h3
theorem SR.new {E : Env} {μ : Mu} {ρ : Rho} {σ : Store} {w : World} (h : SR E μ ρ σ w) (hf : Fresh ρ σ) (k : Blk) (cur : Array Value)
    (hm : k.mode = 1) (hfit : k.xs.length * k.sz ≤ cur.size) (hone : k.obj = true → k.xs.length = 1 ∧ cur.size = k.sz)
    (hD : k.obj = false → RowD μ k.sz k.xs cur) (hO : k.obj = true → RowO μ ρ k.sz k.xs cur) :
    RhoLe ρ (rhoAdd ρ σ.length ⟨w.heap.size, cur.size, k.sz, k.xs.length, false⟩) ∧
      SR E μ (rhoAdd ρ σ.length ⟨w.heap.size, cur.size, k.sz, k.xs.length, false⟩) (σ ++ [k]) (w.alloc (.cells cur k.ty)) := by
  have hle : RhoLe ρ (rhoAdd ρ σ.length ⟨w.heap.size, cur.size, k.sz, k.xs.length, false⟩) := rhoAdd_le (fun r e => by rw [hf] at e; cases e)
  have ha := h.alloc (.cells cur k.ty)
  have hmu : μ w.heap.size = none := by
    cases e : μ w.heap.size with
    | none => rfl
    | some o =>
      have := h.imm _ _ e
      simp at this
  refine ha.add hf k _ ⟨rfl, rfl, hfit, fun hp => (by cases hp), hone, fun _ => ⟨cur, rfl, hD, fun ho => (hO ho).mono (MuLe.refl μ) hle, .inl ⟨hm, ⟨_, alloc_new w _, .inl rfl⟩, hmu⟩⟩⟩ fun _ _ => ⟨.inr h.base.size, fun l r kk h1 h2 h3 h4 => ?_⟩
  exact Nat.ne_of_lt (h.own_lt h1 h2 h3 h4)
theorem SR.newW {E : Env} {μ : Mu} {ρ : Rho} {σ : Store} {w w' : World} (h : SR E μ ρ σ w) (hf : Fresh ρ σ) (k : Blk) (cur : Array Value)
    (hm : k.mode = 1) (hobj : k.obj = false) (hfit : k.xs.length * k.sz ≤ cur.size) (hD : RowD μ k.sz k.xs cur)
    (hk : ∀ b, b < w.heap.size → w'.heap[b]? = w.heap[b]?) (hz : w.heap.size ≤ w'.heap.size) (ho : w'.os = w.os) (ht : w'.tape = w.tape) (hu : w'.output = w.output) (hat : Has w' w.heap.size cur k.ty (fxB k.obj k.sz)) :
      SR E μ (rhoAdd ρ σ.length ⟨w.heap.size, cur.size, k.sz, k.xs.length, false⟩) (σ ++ [k]) w' := by
  have ha := h.world hk hz ho ht hu
  have hmu : μ w.heap.size = none := by
    cases e : μ w.heap.size with
    | none => rfl
    | some o =>
      have := h.imm _ _ e
      simp at this
  refine (ha.add hf k _ ⟨rfl, rfl, hfit, fun hp => (by cases hp), fun e => (by rw [hobj] at e; cases e), fun _ => ⟨cur, rfl, fun _ => hD, fun e => (by rw [hobj] at e; cases e), .inl ⟨hm, hat, hmu⟩⟩⟩ fun _ _ => ⟨.inr h.base.size, fun l r kk h1 h2 h3 h4 => ?_⟩).2
  exact Nat.ne_of_lt (h.own_lt h1 h2 h3 h4)
theorem SR.phantom {E : Env} {μ : Mu} {ρ : Rho} {σ : Store} {w : World} (h : SR E μ ρ σ w) (hf : Fresh ρ σ) (ty sz : Nat) :
    RhoLe ρ (rhoAdd ρ σ.length ⟨0, 0, sz, 0, true⟩) ∧ SR E μ (rhoAdd ρ σ.length ⟨0, 0, sz, 0, true⟩) (σ ++ [⟨1, ty, sz, false, []⟩]) w :=
  h.add hf _ _ ⟨rfl, rfl, by simp, fun _ => ⟨rfl, rfl⟩, fun ho => (by cases ho), fun hp => (by cases hp)⟩ fun _ hp => (by cases hp)
end Go.Ev
