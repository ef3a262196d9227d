/- The evaluator, second part: calls by value, code, loops, functions. -/
import Derived.Test.YtokagdgcfmjlnaaEv01
set_option linter.all false
namespace Go.Ev

/-- rw f: which parameters hand over what is owned (a pointer's object, a slice's row); all others are lent for reading. dat f: its slices are handed back as data. inl f: its body is entered in place. roll f: its loops that count up to a constant of at most this size are unrolled. join f: its ways are brought together behind each branch. ext f: what it answers is told, and shown elsewhere. -/
structure Cfg where
  rw : FuncId → List Bool
  dat : FuncId → Bool
  inl : FuncId → Bool
  roll : FuncId → Nat
  join : FuncId → Bool
  ext : FuncId → Option (List AV → Option (List AV)) := fun _ => none

structure St where
  fr : List (Nat × AV)
  bl : Store

def lookF : List (Nat × AV) → Nat → AV
  | [], _ => .un
  | (i, a) :: r, t => bif Nat.beq i t then a else lookF r t
def dropF : List (Nat × AV) → Nat → List (Nat × AV)
  | [], _ => []
  | (i, a) :: r, t => bif Nat.beq i t then dropF r t else (i, a) :: dropF r t
def putF (fr : List (Nat × AV)) (dst : Option Nat) (a : AV) : List (Nat × AV) :=
  match dst with
  | none => fr
  | some d => (d, a) :: dropF fr d

/-- Slots from 1000000 on are no slots of the code. -/
def tmpF (fr : List (Nat × AV)) (t : Nat) : AV := bif Nat.blt t 1000000 then lookF fr t else .un
def getO (fr : List (Nat × AV)) : Operand → AV
  | .tmp t => tmpF fr t
  | .const v => ofV v
  | .func f => .clo f [] []
  | .global _ => .un

/-- Lending for reading. -/
def expN (σ : Store) : Nat → AV → Option AV
  | 0, _ => none
  | n + 1, a =>
    match a with
    | .v x => bif okC (.v x) then some (.v x) else none
    | .lst b sz xs => some (.lst b sz xs)
    | .ep cs off => some (.ep cs off)
    | .sl b l off cut =>
      match σ[l]? with
      | none => none
      | some k => bif Nat.beq k.mode 0 || k.obj then none else some (.lst b k.sz (cutL k.xs off cut))
    | .ptr l i j =>
      match σ[l]? with
      | none => none
      | some k =>
        bif Nat.beq k.mode 0 then none else
        bif k.obj then
          bif Nat.beq i 0 then
            match (lget k.xs 0).mapM (expN σ n) with
            | none => none
            | some cs => some (.ep cs j)
          else none
        else bif Nat.beq k.sz 1 then some (.ep k.xs.flatten (i + j))
        else some (.ep (lget k.xs i) j)
    | .clo f first caps =>
      match first.mapM (expN σ n), caps.mapM (expN σ n) with
      | some x, some y => some (.clo f x y)
      | _, _ => none
    | .agg cs =>
      match cs.mapM (expN σ n) with
      | none => none
      | some cs => some (.agg cs)
    | _ => none
def expD (σ : Store) (a : AV) : Option AV := expN σ 4 a

/-- Handing over what is owned: a slice's row goes away from the store. -/
def expC (σ : Store) (c : AV) : Option (AV × Store) :=
  match c with
  | .v x => bif okC (.v x) then some (.v x, σ) else none
  | .lst b sz xs => some (.lst b sz xs, σ)
  | .sl b l off cut =>
    match σ[l]? with
    | none => none
    | some k => bif Nat.beq k.mode 1 && !k.obj && Nat.beq off 0 then some (.ow b k.ty k.sz (cutL k.xs off cut), σ.set l { k with mode := 0 }) else none
  | _ => none
def expCs (σ : Store) : List AV → Option (List AV × Store)
  | [] => some ([], σ)
  | c :: cs =>
    match expC σ c with
    | none => none
    | some (c', σ') =>
      match expCs σ' cs with
      | none => none
      | some (cs', σ'') => some (c' :: cs', σ'')
/-- A pointer's object: the block stays, emptied of its rows, till its new contents come back. -/
def expOb (σ : Store) (l : Nat) : Option (AV × Store) :=
  match σ[l]? with
  | none => none
  | some k =>
    bif Nat.beq k.mode 1 && k.obj then
      match expCs (σ.set l { k with mode := 0 }) (lget k.xs 0) with
      | none => none
      | some (cs, σ') => some (.ob k.ty cs, σ')
    else none
/-- One argument that is handed over; the objects lent with it, by their blocks. -/
def expO1 (σ : Store) (a : AV) : Option (AV × Store × List Nat) :=
  match a with
  | .ptr l i j => bif Nat.beq i 0 && Nat.beq j 0 then match expOb σ l with | none => none | some (b, σ') => some (b, σ', [l]) else none
  | a => match expC σ a with | none => none | some (b, σ') => some (b, σ', [])
def expOs (σ : Store) : List AV → Option (List AV × Store × List Nat)
  | [] => some ([], σ, [])
  | a :: as =>
    match expO1 σ a with
    | none => none
    | some (b, σ', r) =>
      match expOs σ' as with
      | none => none
      | some (bs, σ'', r') => some (b :: bs, σ'', r ++ r')
def expO (σ : Store) (a : AV) : Option (AV × Store × List Nat) :=
  match a with
  | .agg cs => match expOs σ cs with | none => none | some (bs, σ', r) => some (.agg bs, σ', r)
  | .clo f first caps => bif !first.isEmpty then none else match expOs σ caps with | none => none | some (bs, σ', r) => some (.clo f first bs, σ', r)
  | a => expO1 σ a

def expArgs (σ : Store) : List Bool → List AV → Option (List AV × Store × List Nat)
  | _, [] => some ([], σ, [])
  | m, a :: as =>
    match (match m.headD false with
      | true => expO σ a
      | false => match expD σ a with | none => none | some b => some (b, σ, [])) with
    | none => none
    | some (b, σ', r) =>
      match expArgs σ' m.tail as with
      | none => none
      | some (bs, σ'', r') => some (b :: bs, σ'', r ++ r')

/-- Taking in what comes by value. -/
def impC (σ : Store) (c : AV) : Option (AV × Store) :=
  match c with
  | .v x => some (.v x, σ)
  | .lst b sz xs => some (.lst b sz xs, σ)
  | .ep cs off => some (.ep cs off, σ)
  | .ow b ty sz xs => some (.sl b σ.length 0 none, σ ++ [⟨1, ty, sz, false, xs⟩])
  | _ => none
def impCs (σ : Store) : List AV → Option (List AV × Store)
  | [] => some ([], σ)
  | c :: cs =>
    match impC σ c with
    | none => none
    | some (c', σ') =>
      match impCs σ' cs with
      | none => none
      | some (cs', σ'') => some (c' :: cs', σ'')
def imp1 (σ : Store) (a : AV) : Option (AV × Store × List Nat) :=
  match a with
  | .ob ty cs =>
    match impCs σ cs with
    | none => none
    | some (cs', σ') => some (.ptr σ'.length 0 0, σ' ++ [⟨1, ty, cs.length, true, [cs']⟩], [σ'.length])
  | a => match impC σ a with | none => none | some (b, σ') => some (b, σ', [])
def imps (σ : Store) : List AV → Option (List AV × Store × List Nat)
  | [] => some ([], σ, [])
  | a :: as =>
    match imp1 σ a with
    | none => none
    | some (b, σ', r) =>
      match imps σ' as with
      | none => none
      | some (bs, σ'', r') => some (b :: bs, σ'', r ++ r')
def imp (σ : Store) (a : AV) : Option (AV × Store × List Nat) :=
  match a with
  | .agg cs => match imps σ cs with | none => none | some (bs, σ', r) => some (.agg bs, σ', r)
  | .clo f first caps => match imps σ caps with | none => none | some (bs, σ', r) => some (.clo f first bs, σ', r)
  | a => imp1 σ a
def impArgs (σ : Store) : List AV → Option (List AV × Store × List Nat)
  | [] => some ([], σ, [])
  | a :: as =>
    match imp σ a with
    | none => none
    | some (b, σ', r) =>
      match impArgs σ' as with
      | none => none
      | some (bs, σ'', r') => some (b :: bs, σ'', r ++ r')

def isOw (ty sz : Nat) : AV → Bool
  | .ow _ t s _ => Nat.beq t ty && Nat.beq s sz
  | _ => false
def isOb (ty : Nat) : AV → Bool
  | .ob t _ => Nat.beq t ty
  | _ => false
def obCells : AV → List AV
  | .ob _ cs => cs
  | .agg cs => cs
  | _ => []
def isAgg (n : Nat) : AV → Bool
  | .agg cs => Nat.beq cs.length n
  | _ => false

/-- The form of a cell of an object that comes by value. -/
def shapeO : CK → AV → Bool × AV
  | .sl e sz, c => (isOw e sz c, .ow (avNil c) e sz (avXs c))
  | k, c => shapeC k c
def shapeOG : List CK → Nat → List AV → Bool
  | [], _, _ => true
  | [k], j, cs => (shapeO k (cellAt cs j)).1
  | k :: ks, j, cs => (shapeO k (cellAt cs j)).1 && shapeOG ks (j + 1) cs
def shapeOV : List CK → Nat → List AV → List AV
  | [], _, _ => []
  | k :: ks, j, cs => (shapeO k (cellAt cs j)).2 :: shapeOV ks (j + 1) cs

section shape
variable {R : Type} (P : Program)
/-- The form of one result that comes by value. -/
def shR (dat : Bool) (t : TypeId) (r : AV) (K : AV → Option R) : Option R :=
  bif aggT P t then
    bif Nat.blt 16 (cks P t).length && plainT P t then cond (isAgg (cks P t).length r && (obCells r).all isV) (K (.agg (obCells r))) none else
    cond (isAgg (cks P t).length r && shapeG (cks P t) 0 (obCells r)) (K (.agg (shapeV (cks P t) 0 (obCells r)))) none
  else
    match P.underlying t with
    | some (.slice e) =>
      bif dat then cond (isL (P.cellsOf e) r) (K (.lst (avNil r) (P.cellsOf e) (avXs r))) none
      else cond (isOw e (P.cellsOf e) r) (K (.ow (avNil r) e (P.cellsOf e) (avXs r))) none
    | some (.pointer e) =>
      cond (isNP r) (K (.v (.pointer none)))
        (cond (isOb e r && Nat.beq (obCells r).length (cks P e).length && shapeOG (cks P e) 0 (obCells r)) (K (.ob e (shapeOV (cks P e) 0 (obCells r)))) none)
    | some (.int k) => cond (isI k r) (K (.v (.int k (avInt r)))) none
    | some .bool => cond (isB r) (K (.v (.bool (avBool r)))) none
    | some .string => cond (isS r) (K (.v (.string (avStr r)))) none
    | _ => none
def shRs (dat : Bool) : List TypeId → Nat → List AV → (List AV → Option R) → Option R
  | [], _, _, K => K []
  | t :: ts, j, rs, K => shR P dat t (cellAt rs j) fun a => shRs dat ts (j + 1) rs fun as => K (a :: as)

/-- The form of an object that comes back, by the form in which it was handed over. -/
def likeB : AV → AV → Bool × AV
  | .v (.int k _), c => (isI k c, .v (.int k (avInt c)))
  | .v (.bool _), c => (isB c, .v (.bool (avBool c)))
  | .v (.string _), c => (isS c, .v (.string (avStr c)))
  | .v (.pointer none), c => (isNP c, .v (.pointer none))
  | .lst _ sz _, c => (isL sz c, .lst (avNil c) sz (avXs c))
  | .ow _ ty sz _, c => (isOw ty sz c, .ow (avNil c) ty sz (avXs c))
  | _, _ => (false, .un)
def likeG : List AV → Nat → List AV → Bool
  | [], _, _ => true
  | [t], j, cs => (likeB t (cellAt cs j)).1
  | t :: ts, j, cs => (likeB t (cellAt cs j)).1 && likeG ts (j + 1) cs
def likeV : List AV → Nat → List AV → List AV
  | [], _, _ => []
  | t :: ts, j, cs => (likeB t (cellAt cs j)).2 :: likeV ts (j + 1) cs
/-- The objects among what was handed over, in order. -/
def obsOf : List AV → List (Nat × List AV)
  | [] => []
  | .ob ty cs :: r => (ty, cs) :: obsOf r
  | .agg cs :: r => (cs.filterMap fun | .ob ty cs => some (ty, cs) | _ => none) ++ obsOf r
  | .clo _ _ caps :: r => (caps.filterMap fun | .ob ty cs => some (ty, cs) | _ => none) ++ obsOf r
  | _ :: r => obsOf r
def shOuts : List (Nat × List AV) → Nat → List AV → (List (List AV) → Option R) → Option R
  | [], _, _, K => K []
  | (ty, tcs) :: ts, j, rs, K =>
    cond (isOb ty (cellAt rs j) && Nat.beq (obCells (cellAt rs j)).length tcs.length && likeG tcs 0 (obCells (cellAt rs j)))
      (shOuts ts (j + 1) rs fun os => K (likeV tcs 0 (obCells (cellAt rs j)) :: os)) none
end shape

/-- What came back is laid into the objects' blocks again. -/
def backs (σ : Store) : List Nat → List (List AV) → Option Store
  | [], [] => some σ
  | l :: ls, cs :: os =>
    match σ[l]?, impCs σ cs with
    | some k, some (cs', σ') => backs (σ'.set l { k with mode := 1, xs := [cs'] }) ls os
    | _, _ => none
  | _, _ => none

/-- Can something of this type, handed back, hold memory that was lent for reading? If its form does not tell, its contents must. -/
def rowV (e : List AV) : Bool := e.all isV
def plainC : AV → Bool
  | .v x => okC (.v x)
  | .ow _ _ _ xs => xs.all rowV
  | _ => false
def allB {α : Type} (p : α → Bool) : List α → Bool
  | [] => true
  | [a] => p a
  | a :: as => p a && allB p as
def plain1 : AV → Bool
  | .ob _ cs => allB plainC cs
  | a => plainC a
def plainA : AV → Bool
  | .agg cs => allB plain1 cs
  | a => plain1 a
def leakT (P : Program) (dat : Bool) (t : TypeId) : Bool :=
  match P.underlying t with
  | some (.slice e) => dat || !(cks P e).all plainCK
  | some (.pointer e) => !(cks P e).all fun | .sl d _ => (cks P d).all plainCK | k => plainCK k
  | _ => !(cks P t).all plainCK
def leakB : List (Nat × List AV) → Bool
  | [] => false
  | (_, cs) :: r => cs.any (fun | .lst _ _ _ => true | _ => false) || leakB r
def ownsAny (σ : Store) : List Nat → Bool
  | [] => false
  | l :: ls => (match σ[l]? with | some k => Nat.beq k.mode 1 | none => false) || ownsAny σ ls

/-- The blocks that an abstract value names, the objects' own included. -/
def refsN (σ : Store) : Nat → AV → List Nat
  | 0, _ => []
  | n + 1, a =>
    match a with
    | .sl _ l _ _ => [l]
    | .px l _ _ _ => [l]
    | .ptr l _ _ =>
      match σ[l]? with
      | some k => bif k.obj then l :: (lget k.xs 0).flatMap (refsN σ n) else [l]
      | none => [l]
    | .clo _ first caps => first.flatMap (refsN σ n) ++ caps.flatMap (refsN σ n)
    | .agg cs => cs.flatMap (refsN σ n)
    | .tup cs => cs.flatMap (refsN σ n)
    | _ => []
def refs (σ : Store) (a : AV) : List Nat := refsN σ 5 a
def freezeAll (σ : Store) : List Nat → Store
  | [] => σ
  | l :: ls =>
    match σ[l]? with
    | some k => freezeAll (bif Nat.beq k.mode 0 then σ else σ.set l { k with mode := 2 }) ls
    | none => freezeAll σ ls

abbrev CallT := FuncId → List AV → Option (List AV)
abbrev InlT := (R : Type) → FuncId → List AV → Store → (List AV → Store → Option R) → Option R

def retAV (n : Nat) (rs : List AV) : AV := bif Nat.beq n 1 then cellAt rs 0 else .tup rs

section call
variable {R : Type} (P : Program) (C : Cfg) (call : CallT) (inl : InlT)
def lentRefs (σ : Store) : List Bool → List AV → List Nat
  | _, [] => []
  | m, a :: as => (bif m.headD false then [] else refs σ a) ++ lentRefs σ m.tail as

def evCall (σ : Store) (K : AV → Store → Option R) (f : FuncId) (args : List AV) : Option R :=
  match P.funcs[f]? with
  | none => none
  | some fn =>
    bif fn.body.isNone || fn.name == "runtime.NumGoroutine" then none else
    bif C.inl f then inl R f args σ fun rs σ' => K (retAV fn.resultTypes.size rs) σ'
    else
    match expArgs σ (C.rw f) args with
    | none => none
    | some (bs, σ1, roots) =>
      bif !((lentRefs σ (C.rw f) args).all fun l => match σ1[l]? with | some k => !(Nat.beq k.mode 0) | none => false) then none else
      (call f bs).bind fun rs =>
        shRs P (C.dat f) fn.resultTypes.toList 0 rs fun as =>
          shOuts (obsOf bs) fn.resultTypes.size rs fun os =>
            cond (!(ownsAny σ (lentRefs σ (C.rw f) args)) || (fn.resultTypes.any (leakT P (C.dat f)) || leakB (obsOf bs)) || (allB plainA as && allB (allB plainC) os))
              (match backs (bif ownsAny σ (lentRefs σ (C.rw f) args) && (fn.resultTypes.any (leakT P (C.dat f)) || leakB (obsOf bs)) then freezeAll σ1 (lentRefs σ (C.rw f) args) else σ1) roots os with
              | none => none
              | some σ2 =>
                match impArgs σ2 as with
                | none => none
                | some (vs, σ3, _) => K (retAV fn.resultTypes.size vs) σ3) none

/-- One operation. -/
def evOp (o : Oper) (fr : List (Nat × AV)) (σ : Store) (K : AV → Store → Option R) : Option R :=
  let g := getO fr
  match o.op with
  | .move x | .assign x =>
    match x with
    | .const (.slice none 0 0) =>
      match P.underlying o.type with
      | some (.slice e) => K (phantom P σ e).1 (phantom P σ e).2
      | _ => none
    | x => K (g x) σ
  | .pick c a b =>
    match g c with
    | .v (.bool t) => cond t (K (g a) σ) (K (g b) σ)
    | _ => none
  | .alloc t => evAlloc P σ K t
  | .box t x => evBox P σ K t (g x)
  | .build t parts => evBuild P σ K t (parts.toList.map fun (i, x) => (i, g x))
  | .buildSlice t n parts => evBuildSlice P σ K t n (parts.toList.map fun (i, x) => (i, g x))
  | .load t x => evLoad P σ K t (g x)
  | .store t x y => evStore P σ t (g x) (g y) fun σ' => K .un σ'
  | .nilCheck x =>
    match g x with
    | .ptr l i j => K (.ptr l i j) σ
    | .ep cs off => K (.ep cs off) σ
    | .clo f a b => K (.clo f a b) σ
    | _ => none
  | .binOp op t x y _ => evBin P σ K op t (g x) (g y)
  | .unOp op _ x => evUn σ K op (g x)
  | .convert a b x => bif slsl P a b then evMark P σ K a b (g x) else evConv P σ K a b (g x)
  | .slice t x lo hi none => evSlice P σ K t (g x) (lo.map g) (hi.map g)
  | .fieldAddr t x f => evFieldAddr P σ K t (g x) f
  | .field t x f => evField P σ K t (g x) f
  | .indexAddr t x i => evIndexAddr P σ K t (g x) (g i) (isConst i)
  | .index t x i => evIndex P σ K t (g x) (g i) (isConst i)
  | .extract x i =>
    match g x with
    | .tup vs => bif Nat.blt i vs.length then K (cellAt vs i) σ else none
    | _ => none
  | .makeSlice t a b => evMakeSlice P σ K t (g a) (g b)
  | .makeFunc (.func f) first caps => bif (first.toList.map g).all okC && (caps.toList.map g).all okC then K (.clo f (first.toList.map g) (caps.toList.map g)) σ else none
  | .call c =>
    match c.callee with
    | .builtin .len =>
      match c.args.toList, c.argTypes.toList with
      | [x], [t] => evLen P σ K t (g x)
      | _, _ => none
    | .builtin .append =>
      match c.args.toList, c.argTypes.toList with
      | [x, y], [t, u] => evAppend P σ K t u (g x) (g y)
      | _, _ => none
    | .builtin .copy =>
      match c.args.toList, c.argTypes.toList with
      | [x, y], [t, _] => evCopy P σ K t (g x) (g y)
      | _, _ => none
    | .builtin .min =>
      match c.args.toList with
      | [x, y] => match evMin2 (g x) (g y) with | some a => K a σ | none => none
      | _ => none
    | .builtin .max =>
      match c.args.toList with
      | [x, y] => match evMax2 (g x) (g y) with | some a => K a σ | none => none
      | _ => none
    | .value f =>
      match g f with
      | .clo fn first caps => evCall P C call inl σ K fn (first ++ c.args.toList.map g ++ caps)
      | _ => none
    | _ => none
  | _ => none

/-- 0: an operation looks at its operands alone; 1: it reads the store or makes a block; 2: it may change the store. -/
def opClass (o : Oper) : Nat :=
  match o.op with
  | .move (.const (.slice _ _ _)) | .assign (.const (.slice _ _ _)) => 1
  | .move _ | .assign _ | .pick _ _ _ | .nilCheck _ | .binOp _ _ _ _ _ | .unOp _ _ _ | .fieldAddr _ _ _ | .field _ _ _ | .index _ _ _ | .extract _ _ | .makeFunc _ _ _ => 0
  | .convert a b _ => bif slsl P a b then 2 else 1
  | .alloc _ | .box _ _ | .build _ _ | .load _ _ | .slice _ _ _ _ _ | .indexAddr _ _ _ => 1
  | .buildSlice t _ _ | .makeSlice t _ _ => match P.underlying t with | some (.slice e) => bif plainT P e then 1 else 2 | _ => 2
  | .call c =>
    match c.callee with
    | .builtin .len => 1
    | .builtin .min => 0
    | .builtin .max => 0
    | .value (.func f) =>
      match P.funcs[f]? with
      | some fn => bif C.inl f || (C.rw f).any id || fn.resultTypes.any (leakT P (C.dat f)) then 2 else 1
      | none => 2
    | _ => 2
  | _ => 2
def insL (n : Nat) : List Nat → List Nat
  | [] => [n]
  | m :: r => bif Nat.beq n m then m :: r else bif Nat.blt n m then n :: m :: r else m :: insL n r
def uniL : List Nat → List Nat → List Nat
  | [], b => b
  | a :: as, b => uniL as (insL a b)
def inL (n : Nat) : List Nat → Bool
  | [] => false
  | m :: r => Nat.beq n m || inL n r
/-- For each operation: all that come up before it in every order. -/
def clOf (acc : List (List Nat)) (o : Oper) : List Nat :=
  o.after.toList.foldl (fun s e => bif Region.binds .any e then uniL (insL e.on (acc.getD e.on [])) s else s) []
def closL (ops : List Oper) : List (List Nat) :=
  ops.foldl (fun acc o => acc ++ [clOf acc o]) []
def looksL (ops : Array Oper) (o : Oper) : List Nat :=
  (o.op.operands.toList.filterMap fun | .tmp t => some t | _ => none) ++
  (match o.guard with
   | some (j, _) => match ops[j]? with | some oj => oj.dst.toList | none => []
   | none => [])
/-- Two operations, the first ahead of the second in the text: as to their slots, may they come up in either order? -/
def apartB (ops : Array Oper) (a b : Oper) : Bool :=
  (match a.dst with | some d => !(inL d (looksL ops b)) && (match b.dst with | some e => !(Nat.beq d e) | none => true) | none => true) &&
  (match b.dst with | some e => !(inL e (looksL ops a)) | none => true)
def drawRow (ops : Array Oper) (b : Oper) (cl : List Nat) : Nat → List Oper → Bool
  | _, [] => true
  | i, a :: r => (inL i cl || apartB ops a b) && drawRow ops b cl (i + 1) r
def drawAll (ops : Array Oper) (all : List Oper) : Nat → List Oper → List (List Nat) → Bool
  | _, [], _ => true
  | j, b :: r, cls =>
    (b.after.all fun e => !(Region.binds .any e) || Nat.blt e.on j) && drawRow ops b (cls.headD []) 0 (all.take j) && drawAll ops all (j + 1) r cls.tail
/-- Whatever order a region is carried out in, its slots come to the same. -/
def drawOk (ops : Array Oper) : Bool :=
  Region.noSelect ops && drawAll ops ops.toList 0 ops.toList (closL ops.toList)

/-- The blocks that an operation looks at and those that it changes (none: any); may it make blocks? -/
structure Foot where
  look : Option (List Nat)
  put : Option (List Nat)
  nw : Bool
def Foot.no : Foot := ⟨some [], some [], false⟩
def Foot.top : Foot := ⟨none, none, true⟩
def blkOf : AV → List Nat
  | .sl _ l _ _ => [l]
  | .ptr l _ _ => [l]
  | .px l _ _ _ => [l]
  | _ => []
def notSl : AV → Bool
  | .v _ => true
  | .lst _ _ _ => true
  | _ => false
def noSl (a : AV) : Bool := match cells a with | some cs => cs.all notSl | none => false
def footOf (o : Oper) (fr : List (Nat × AV)) (σ : Store) : Foot :=
  let g := getO fr
  match o.op with
  | .move (.const (.slice _ _ _)) | .assign (.const (.slice _ _ _)) => ⟨some [], some [], true⟩
  | .move _ | .assign _ | .pick _ _ _ | .nilCheck _ | .binOp _ _ _ _ _ | .unOp _ _ _ | .fieldAddr _ _ _ | .field _ _ _ | .index _ _ _ | .extract _ _ | .makeFunc _ _ _ => .no
  | .alloc _ | .box _ _ | .build _ _ | .makeSlice _ _ _ => ⟨some [], some [], true⟩
  | .load _ x | .slice _ x _ _ _ | .indexAddr _ x _ => ⟨some (blkOf (g x)), some [], false⟩
  | .convert _ _ x => ⟨some (blkOf (g x)), some [], true⟩
  | .buildSlice _ _ ps => bif ps.toList.all (fun p => noSl (g p.2)) then ⟨some [], some [], true⟩ else .top
  | .store _ x y =>
    bif noSl (g y) then ⟨some (blkOf (g x)), some (blkOf (g x)), true⟩ else
    match g x with
    | .ptr l _ _ => match σ[l]? with | some b => bif b.obj then ⟨some [l], some [l], true⟩ else .top | none => .top
    | _ => .top
  | .call c =>
    match c.callee with
    | .builtin .len => match c.args.toList with | [x] => ⟨some (blkOf (g x)), some [], false⟩ | _ => .top
    | .builtin .append => match c.args.toList with | [x, y] => ⟨some (blkOf (g x) ++ blkOf (g y)), some (blkOf (g x)), true⟩ | _ => .top
    | .builtin .copy => match c.args.toList with | [x, y] => ⟨some (blkOf (g x) ++ blkOf (g y)), some (blkOf (g x)), true⟩ | _ => .top
    | .builtin .min => .no
    | .builtin .max => .no
    | .value (.func f) =>
      match P.funcs[f]? with
      | some fn => bif C.inl f || (C.rw f).any id || fn.resultTypes.any (leakT P (C.dat f)) then .top else ⟨none, some [], true⟩
      | none => .top
    | _ => .top
  | _ => .top
def hasAny : Option (List Nat) → Bool
  | none => true
  | some l => !l.isEmpty
def meetL : List Nat → List Nat → Bool
  | [], _ => false
  | a :: as, b => inL a b || meetL as b
def meet : Option (List Nat) → Option (List Nat) → Bool
  | some a, some b => meetL a b
  | some a, none => !a.isEmpty
  | none, b => hasAny b
def Foot.touch (f : Foot) : Bool := f.nw || hasAny f.look || hasAny f.put
/-- What an operation did: its trace, and the blocks that it made. -/
structure Trace where
  f : Foot
  lo : Nat
  hi : Nat
def Trace.no : Trace := ⟨.no, 0, 0⟩
def meetR (lo hi : Nat) : List Nat → Bool
  | [] => false
  | l :: r => (Nat.ble lo l && Nat.blt l hi) || meetR lo hi r
/-- May two operations, the first ahead of the second in the text, not come up in either order? -/
def clash (a : Trace) (g : Foot) : Bool :=
  (a.f.put.isNone && g.touch) || (g.put.isNone && (a.f.touch || Nat.blt a.lo a.hi)) || meet a.f.put g.look || meet a.f.look g.put || meet a.f.put g.put || (match g.put with | some l => meetR a.lo a.hi l | none => false)
def footOk (cl : List Nat) (f : Foot) : Nat → List Trace → Bool
  | _, [] => true
  | i, g :: r => (inL i cl || !(clash g f)) && footOk cl f (i + 1) r

/-- The operations of a region in the text's order. A guard is decided by cases. -/
def evOps (ops : Array Oper) : List Oper → St → (St → Option R) → Option R
  | [], s, K => K s
  | o :: rest, s, K =>
    match o.guard with
    | none => evOp P C call inl o s.fr s.bl fun a σ => evOps ops rest ⟨putF s.fr o.dst a, σ⟩ K
    | some (j, want) =>
      match ops[j]? with
      | none => none
      | some oj =>
        match oj.dst with
        | none => none
        | some d =>
          match lookF s.fr d with
          | .v (.bool b) =>
            let yes (_ : Unit) : Option R :=
              evOp P C call inl o (putF s.fr d (.v (.bool want))) s.bl fun a σ => evOps ops rest ⟨putF (putF s.fr d (.v (.bool want))) o.dst a, σ⟩ K
            let no (_ : Unit) : Option R := evOps ops rest ⟨putF (putF s.fr d (.v (.bool (!want)))) o.dst (.v (.tuple #[])), s.bl⟩ K
            match want with
            | true => cond b (yes ()) (no ())
            | false => cond b (no ()) (yes ())
          | .v (.tuple _) => evOps ops rest ⟨putF s.fr o.dst (.v (.tuple #[])), s.bl⟩ K
          | _ => none
/-- The operations of a region whose order is drawn, in the text's order: those that have no order between them must not meet. -/
def evOpsD (ops : Array Oper) : List Oper → List (List Nat) → List Trace → St → (St → Option R) → Option R
  | [], _, _, s, K => K s
  | o :: rest, cls, acc, s, K =>
    let yes (fr : List (Nat × AV)) : Option R :=
      bif footOk (cls.headD []) (footOf P C o fr s.bl) 0 acc then
        evOp P C call inl o fr s.bl fun a σ => evOpsD ops rest cls.tail (acc ++ [⟨footOf P C o fr s.bl, s.bl.length, σ.length⟩]) ⟨putF fr o.dst a, σ⟩ K
      else none
    let no (fr : List (Nat × AV)) : Option R := evOpsD ops rest cls.tail (acc ++ [.no]) ⟨putF fr o.dst (.v (.tuple #[])), s.bl⟩ K
    match o.guard with
    | none => yes s.fr
    | some (j, want) =>
      match ops[j]? with
      | none => none
      | some oj =>
        match oj.dst with
        | none => none
        | some d =>
          match lookF s.fr d with
          | .v (.bool b) =>
            match want with
            | true => cond b (yes (putF s.fr d (.v (.bool want)))) (no (putF s.fr d (.v (.bool (!want)))))
            | false => cond b (no (putF s.fr d (.v (.bool (!want))))) (yes (putF s.fr d (.v (.bool want))))
          | .v (.tuple _) => no s.fr
          | _ => none
end call
end Go.Ev
