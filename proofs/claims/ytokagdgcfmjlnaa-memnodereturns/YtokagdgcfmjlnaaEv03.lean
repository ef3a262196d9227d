/- The evaluator, third part: which slots are still wanted, loops, functions. -/
import Derived.Test.YtokagdgcfmjlnaaEv02
set_option linter.all false
namespace Go.Ev

def insN (n : Nat) : List Nat → List Nat
  | [] => [n]
  | m :: r => bif Nat.beq n m then m :: r else bif Nat.blt n m then n :: m :: r else m :: insN n r
def uniN : List Nat → List Nat → List Nat
  | [], b => b
  | a :: as, b => uniN as (insN a b)
def memN (n : Nat) : List Nat → Bool
  | [] => false
  | m :: r => Nat.beq n m || memN n r
def delN (n : Nat) : List Nat → List Nat
  | [] => []
  | m :: r => bif Nat.beq n m then r else m :: delN n r

structure LE where
  blk : List (Nat × List Nat)
  ret : List Nat
def lookL : List (Nat × List Nat) → Nat → List Nat
  | [], _ => []
  | (i, a) :: r, t => bif Nat.beq i t then a else lookL r t

def opUses (o : Oper) : List Nat := o.op.operands.toList.filterMap fun | .tmp t => some t | _ => none
def liveOps : List Oper → List Nat → List Nat
  | [], out => out
  | o :: r, out =>
    let l := liveOps r out
    uniN (opUses o) (match o.dst with | some d => delN d l | none => l)
/-- The slots that code may still read; 'out': those that are wanted behind it. -/
def live : Code → List Nat → LE → List Nat
  | .skip, out, _ => out
  | .region _ ops _, out, _ => liveOps ops.toList out
  | .seq a b, out, E => live a (live b out E) E
  | .cond c a b, out, E => uniN (match c with | .tmp t => [t] | _ => []) (uniN (live a out E) (live b out E))
  | .block id c, out, E => live c out { E with blk := (id, out) :: E.blk }
  | .loop c, _, E => live c (live c (live c [] E) E) E
  | .exit id, _, E => lookL E.blk id
  | .ret, _, E => E.ret
  | _, _, _ => []

/-- The blocks that code inside a loop may leave the loop to, in order; the last list: those bound within. -/
def exitsOf : Code → List Nat → List Nat
  | .seq a b, bd => uniN (exitsOf a bd) (exitsOf b bd)
  | .cond _ a b, bd => uniN (exitsOf a bd) (exitsOf b bd)
  | .block id c, bd => exitsOf c (id :: bd)
  | .loop c, bd => exitsOf c bd
  | .exit id, bd => bif memN id bd then [] else [id]
  | _, _ => []

/-- The blocks that are named, in the order in which they are met. -/
def visitN (σ : Store) : Nat → List Nat → AV → List Nat
  | 0, vs, _ => vs
  | n + 1, vs, a =>
    match a with
    | .sl _ l _ _ => bif memN l vs then vs else vs ++ [l]
    | .px l _ _ _ => bif memN l vs then vs else (match σ[l]? with | some k => (lget k.xs 0).foldl (visitN σ n) (vs ++ [l]) | none => vs ++ [l])
    | .ptr l _ _ =>
      bif memN l vs then vs else
      match σ[l]? with
      | some k => bif k.obj then (lget k.xs 0).foldl (visitN σ n) (vs ++ [l]) else vs ++ [l]
      | none => vs ++ [l]
    | .clo _ first caps => caps.foldl (visitN σ n) (first.foldl (visitN σ n) vs)
    | .agg cs => cs.foldl (visitN σ n) vs
    | .tup cs => cs.foldl (visitN σ n) vs
    | _ => vs
def idxN (l : Nat) : List Nat → Nat
  | [] => 0
  | m :: r => bif Nat.beq l m then 0 else idxN l r + 1
def renN (vs : List Nat) : Nat → AV → AV
  | 0, _ => .un
  | n + 1, a =>
    match a with
    | .sl b l off cut => bif memN l vs then .sl b (idxN l vs) off cut else .un
    | .px l j k i => bif memN l vs then .px (idxN l vs) j k i else .un
    | .ptr l i j => bif memN l vs then .ptr (idxN l vs) i j else .un
    | .clo f first caps => .clo f (first.map (renN vs n)) (caps.map (renN vs n))
    | .agg cs => .agg (cs.map (renN vs n))
    | .tup cs => .tup (cs.map (renN vs n))
    | a => a
def renB (vs : List Nat) (k : Blk) : Blk := bif k.obj then { k with xs := [(lget k.xs 0).map (renN vs 6)] } else k
/-- The state with the wanted slots alone, in order, its blocks numbered by the order in which they are met. Slots from 1000000 on are always wanted. -/
def canon (keep : List Nat) (s : St) : St :=
  let fr := (keep.filterMap fun t => match lookF s.fr t with | .un => none | a => some (t, a)) ++ (s.fr.filter fun p => Nat.ble 1000000 p.1)
  let vs := fr.foldl (fun vs p => visitN s.bl 6 vs p.2) []
  ⟨fr.map fun p => (p.1, renN vs 6 p.2), vs.map fun l => match s.bl[l]? with | some k => renB vs k | none => ⟨0, 0, 0, false, []⟩⟩

/-- What a loop comes to: it is left to a block, in a state; or the function ends with its results. -/
structure LR where
  ex : Option Nat
  st : St
  outs : List AV

inductive Ex where
  | normal
  | exit (id : Nat)
  | ret

def isEx (id : Nat) (r : LR) : Bool := match r.ex with | some i => Nat.beq i id | none => false
def isRt (r : LR) : Bool := r.ex.isNone

def isSl (l : Nat) (full : Bool) : AV → Bool
  | .sl _ m _ c => Nat.beq l m && (match c with | none => full | some _ => !full)
  | _ => false
def avOff : AV → Nat
  | .sl _ _ o _ => o
  | _ => 0
def avCut : AV → Nat
  | .sl _ _ _ (some n) => n
  | _ => 0
def isPtr (l i j : Nat) : AV → Bool
  | .ptr l' i' j' => Nat.beq l l' && Nat.beq i i' && Nat.beq j j'
  | _ => false
def isEp (n off : Nat) : AV → Bool
  | .ep cs o => Nat.beq cs.length n && Nat.beq o off
  | _ => false

/-- The form of a cell or a slot behind a loop, by its form ahead of it. -/
def likeS : AV → AV → Bool × AV
  | .v (.int k _), c => (isI k c, .v (.int k (avInt c)))
  | .v (.bool _), c => (isB c, .v (.bool (avBool c)))
  | .v (.string _), c => (isS c, .v (.string (avStr c)))
  | .v (.pointer none), c => (isNP c, .v (.pointer none))
  | .lst _ sz _, c => (isL sz c, .lst (avNil c) sz (avXs c))
  | .sl _ l off none, c => (isSl l true c && Nat.beq (avOff c) off, .sl (avNil c) l off none)
  | .sl _ l off (some _), c => (isSl l false c && Nat.beq (avOff c) off, .sl (avNil c) l off (some (avCut c)))
  | .ptr l i j, c => (isPtr l i j c, .ptr l i j)
  | _, _ => (false, .un)
def likeSG : List AV → Nat → List AV → Bool
  | [], _, _ => true
  | [t], j, cs => (likeS t (cellAt cs j)).1
  | t :: ts, j, cs => (likeS t (cellAt cs j)).1 && likeSG ts (j + 1) cs
def likeSV : List AV → Nat → List AV → List AV
  | [], _, _ => []
  | t :: ts, j, cs => (likeS t (cellAt cs j)).2 :: likeSV ts (j + 1) cs
/-- A slot: a cell or an aggregate. -/
def epCells : AV → List AV
  | .ep cs _ => cs
  | _ => []
def likeT : AV → AV → Bool × AV
  | .ep ts o, c => (isEp ts.length o c && likeSG ts 0 (epCells c), .ep (likeSV ts 0 (epCells c)) o)
  | .agg ts, c => (isAgg ts.length c && likeSG ts 0 (obCells c), .agg (likeSV ts 0 (obCells c)))
  | t, c => likeS t c
def frAt (fr : List (Nat × AV)) (j : Nat) : Nat × AV := fr.getD j (0, .un)
def likeFG : List (Nat × AV) → Nat → List (Nat × AV) → Bool
  | [], _, _ => true
  | (t, a) :: r, j, fr => Nat.beq t (frAt fr j).1 && (likeT a (frAt fr j).2).1 && likeFG r (j + 1) fr
def likeFV : List (Nat × AV) → Nat → List (Nat × AV) → List (Nat × AV)
  | [], _, _ => []
  | (t, a) :: r, j, fr => (t, (likeT a (frAt fr j).2).2) :: likeFV r (j + 1) fr
def blAt (bl : Store) (j : Nat) : Blk := bl.getD j ⟨0, 0, 0, false, []⟩
def likeBG : Store → Nat → Store → Bool
  | [], _, _ => true
  | k :: r, j, bl =>
    (Nat.beq k.mode (blAt bl j).mode && Nat.beq k.ty (blAt bl j).ty && Nat.beq k.sz (blAt bl j).sz && (k.obj == (blAt bl j).obj) &&
      (match k.obj with | true => Nat.beq (blAt bl j).xs.length 1 && Nat.beq (lget (blAt bl j).xs 0).length (lget k.xs 0).length && likeSG (lget k.xs 0) 0 (lget (blAt bl j).xs 0) | false => true)) && likeBG r (j + 1) bl
def likeBV : Store → Nat → Store → Store
  | [], _, _ => []
  | k :: r, j, bl =>
    { k with xs := match k.obj with | true => [likeSV (lget k.xs 0) 0 (lget (blAt bl j).xs 0)] | false => (blAt bl j).xs } :: likeBV r (j + 1) bl
def likeStG (T s : St) : Bool := Nat.beq T.fr.length s.fr.length && likeFG T.fr 0 s.fr && (Nat.beq T.bl.length s.bl.length && likeBG T.bl 0 s.bl)
def likeStV (T s : St) : St := ⟨likeFV T.fr 0 s.fr, likeBV T.bl 0 s.bl⟩

/-- The slots that a loop's state bears. -/
def keepL (c : Code) (E : LE) : List Nat :=
  uniN (live (.loop c) [] E) ((exitsOf c []).foldl (fun acc id => uniN (lookL E.blk id) acc) [])

abbrev LoopT := Code → LE → (St → Option (List AV)) → St → Option LR

/-- The constant with which a loop's first test compares. -/
def boundOf : Code → Nat
  | .seq (.region _ ops _) _ => ops.toList.foldl (fun acc o => match o.op with | .binOp .lss _ _ (.const (.int _ n)) _ => n.toNat | _ => acc) 0
  | _ => 0
def rollN {R : Type} (step : St → (Ex → St → Option R) → Option R) : Nat → St → (Ex → St → Option R) → Option R
  | 0, _, _ => none
  | n + 1, s, K => step s fun e s' => match e with | .normal => rollN step n s' K | e => K e s'

/-- May code come to its end? -/
def canEnd : Code → Bool
  | .seq a b => canEnd a && canEnd b
  | .cond _ a b => canEnd a || canEnd b
  | .exit _ => false
  | .ret => false
  | .loop _ => false
  | _ => true
/-- Does it come to its end on several ways? -/
def hasBr : Code → Bool
  | .region _ ops _ => ops.toList.any fun o => o.guard.isSome
  | .seq a b => hasBr a || hasBr b
  | .cond _ a b => (canEnd a && canEnd b) || hasBr a || hasBr b
  | .block _ c => hasBr c
  | _ => false
def isCall (o : Oper) : Bool := match o.op with | .call _ => true | _ => false
/-- Is it much, so that it is not to be gone through twice? -/
def heavy : Code → Bool
  | .region _ ops _ => ops.toList.any fun o => o.guard.isSome || isCall o
  | .seq a b => heavy a || heavy b
  | .cond _ _ _ => true
  | .block _ _ => true
  | .loop _ => true
  | _ => false
def dstTy : Code → Nat → Option TypeId
  | .region _ ops _, t => ops.toList.findSome? fun o => match o.dst with | some d => bif Nat.beq d t then some o.type else none | none => none
  | .seq a b, t => match dstTy a t with | some u => some u | none => dstTy b t
  | .cond _ a b, t => match dstTy a t with | some u => some u | none => dstTy b t
  | .block _ c, t => dstTy c t
  | .loop c, t => dstTy c t
  | _, _ => none
def isUn : AV → Bool
  | .un => true
  | _ => false
def tmplOf (P : Program) (t : TypeId) : AV :=
  match P.underlying t with
  | some (.int k) => .v (.int k 0)
  | some .bool => .v (.bool false)
  | some .string => .v (.string .empty)
  | _ => .un
/-- The slots that code lays first, by their types. -/
def newSl (P : Program) (a : Code) (s : St) : List Nat → List (Nat × AV)
  | [] => []
  | t :: ts =>
    bif isUn (lookF s.fr t) then (match dstTy a t with | some u => (t, tmplOf P u) :: newSl P a s ts | none => newSl P a s ts) else newSl P a s ts
/-- The form of the state behind code whose ways are brought together. -/
def joinT (P : Program) (a : Code) (keep : List Nat) (s : St) : St := canon keep ⟨newSl P a s keep ++ s.fr, s.bl⟩
def joinB (P : Program) (a b : Code) (keep : List Nat) (s : St) : Bool :=
  hasBr a && heavy b && (newSl P a s keep).all fun p => !(isUn p.2)
def joinId : Nat := 1000001
def joinK (retK : St → Option (List AV)) (keep : List Nat) (E : LE) (e : Ex) (s : St) : Option LR :=
  match e with
  | .normal => some ⟨some joinId, canon keep s, []⟩
  | .exit id => bif Nat.beq id joinId then none else some ⟨some id, canon (lookL E.blk id) s, []⟩
  | .ret => (retK s).bind fun outs => some ⟨none, ⟨[], []⟩, outs⟩

/-- A test's outcome is known on its ways. -/
def setC (s : St) (c : Operand) (v : Bool) : St :=
  match c with
  | .tmp t => ⟨putF s.fr (some t) (.v (.bool v)), s.bl⟩
  | _ => s

section code
variable (P : Program) (C : Cfg) (call : CallT) (inl : InlT) (loop : LoopT) (rmax : Nat) (jn : Bool)

/-- Behind a loop: by the block that it was left to. -/
def reenter {R : Type} (T : List Nat → St) (E : LE) (K : Ex → St → Option R) (fin : List AV → Option R) (r : LR) : List Nat → Option R
  | [] => cond (isRt r) (fin r.outs) none
  | id :: ids =>
    cond (isEx id r) (cond (likeStG (T (lookL E.blk id)) r.st) (K (.exit id) (likeStV (T (lookL E.blk id)) r.st)) none) (reenter T E K fin r ids)

def evCode (retK : St → Option (List AV)) : Code → (R : Type) → (List AV → Option R) → List Nat → LE → St → (Ex → St → Option R) → Option R
  | .skip, _, _, _, _, s, K => K .normal s
  | .region _ ops d, _, _, _, _, s, K => bif d then (bif drawOk ops then evOpsD P C call inl ops ops.toList (closL ops.toList) [] s (K .normal) else none) else evOps P C call inl ops ops.toList s (K .normal)
  | .seq a b, R, fin, out, E, s, K =>
    bif jn && joinB P a b (live b out E) s then
      (evCode retK a LR (fun outs => some ⟨none, ⟨[], []⟩, outs⟩) (live b out E) E s (joinK retK (live b out E) E)).bind fun r =>
        cond (isEx joinId r)
          (cond (likeStG (joinT P a (live b out E) s) r.st) (evCode retK b R fin out E (likeStV (joinT P a (live b out E) s) r.st) K) none)
          (reenter (fun keep => canon keep s) E K fin r (exitsOf a []))
    else
      evCode retK a R fin (live b out E) E s fun e s' =>
        match e with
        | .normal => evCode retK b R fin out E s' K
        | e => K e s'
  | .cond c a b, R, fin, out, E, s, K =>
    match getO s.fr c with
    | .v (.bool t) => cond t (evCode retK a R fin out E (setC s c true) K) (evCode retK b R fin out E (setC s c false) K)
    | _ => none
  | .block id c, R, fin, out, E, s, K =>
    evCode retK c R fin out { E with blk := (id, out) :: E.blk } s fun e s' =>
      match e with
      | .exit i => bif Nat.beq i id then K .normal s' else K (.exit i) s'
      | e => K e s'
  | .loop c, R, fin, _, E, s, K =>
    bif Nat.blt 0 (boundOf c) && Nat.ble (boundOf c) rmax then rollN (fun s K => evCode retK c R fin (keepL c E) E s K) (boundOf c + 1) s K else
    (loop c E retK (canon (keepL c E) s)).bind fun r =>
      reenter (fun keep => canon keep (canon (keepL c E) s)) E K fin r (exitsOf c [])
  | .exit id, _, _, _, _, s, K => K (.exit id) s
  | .ret, _, _, _, _, s, K => K .ret s
  | _, _, _, _, _, _, _ => none
end code

/-- A loop, by rounds. -/
def evLoop (P : Program) (C : Cfg) (call : CallT) (inl : InlT) (rmax : Nat) (jn : Bool) : Nat → LoopT
  | 0, _, _, _, _ => none
  | n + 1, c, E, retK, s =>
    evCode P C call inl (evLoop P C call inl rmax jn n) rmax jn retK c LR (fun outs => some ⟨none, ⟨[], []⟩, outs⟩) (keepL c E) E s fun e s' =>
      match e with
      | .normal => evLoop P C call inl rmax jn n c E retK (canon (keepL c E) s')
      | .exit id => some ⟨some id, canon (lookL E.blk id) s', []⟩
      | .ret => (retK s').bind fun outs => some ⟨none, ⟨[], []⟩, outs⟩

/-- Results on their way out: data, or owned. -/
def expR1 (dat : Bool) (σ : Store) (a : AV) : Option (AV × Store) :=
  match a with
  | .v x => bif okC (.v x) then some (.v x, σ) else none
  | .lst b sz xs => bif dat then some (.lst b sz xs, σ) else none
  | .sl _ _ _ _ =>
    match dat with
    | true => frz σ a
    | false => expC σ a
  | .agg cs => match frzL σ cs with | none => none | some (cs', σ') => some (.agg cs', σ')
  | .ptr l i j => bif Nat.beq i 0 && Nat.beq j 0 then expOb σ l else none
  | .clo f first caps => bif !first.isEmpty then none else match expOs σ caps with | none => none | some (bs, σ', _) => some (.clo f first bs, σ')
  | _ => none
def expRs (dat : Bool) (σ : Store) : List AV → Option (List AV × Store)
  | [] => some ([], σ)
  | c :: cs =>
    match expR1 dat σ c with
    | none => none
    | some (c', σ') =>
      match expRs dat σ' cs with
      | none => none
      | some (cs', σ'') => some (c' :: cs', σ'')
def expBacks (σ : Store) : List Nat → Option (List AV × Store)
  | [] => some ([], σ)
  | l :: ls =>
    match expOb σ l with
    | none => none
    | some (c', σ') =>
      match expBacks σ' ls with
      | none => none
      | some (cs', σ'') => some (c' :: cs', σ'')

/-- The values of the results' variables. -/
def resVals (P : Program) (s : St) : List ResultVar → Option (List AV)
  | [] => some []
  | .tmp t :: r => match resVals P s r with | none => none | some vs => some (tmpF s.fr t :: vs)
  | .cell a t :: r =>
    match tmpF s.fr a with
    | .ptr l i j =>
      match evLoad P s.bl (fun a _ => some a) t (.ptr l i j) with
      | none => none
      | some v =>
        match resVals P s r with
        | none => none
        | some vs => some (v :: vs)
    | _ => none
def rootsOf (fr : List (Nat × AV)) : List Nat → Option (List Nat)
  | [] => some []
  | t :: ts =>
    match lookF fr t, rootsOf fr ts with
    | .ptr l i j, some r => bif Nat.beq i 0 && Nat.beq j 0 then some (l :: r) else none
    | _, _ => none
def retGen (P : Program) (C : Cfg) (f : FuncId) (fn : Func) (nr : Nat) (s : St) : Option (List AV) :=
  match resVals P s fn.results.toList, rootsOf s.fr ((List.range nr).map (· + 1000000)) with
  | some vs, some ls =>
    match expRs (C.dat f) s.bl vs with
    | none => none
    | some (rs, σ) =>
      match expBacks σ ls with
      | none => none
      | some (bs, _) => some (rs ++ bs)
  | _, _ => none

/-- A great array of plain cells, the one result. -/
def bigR (P : Program) (fn : Func) : Bool := match fn.resultTypes.toList with | [t] => Nat.blt 16 (cks P t).length | _ => false
def bigK (v : AV) : Option (List AV) := match v with | .agg cs => cond (cs.all isV) (some [.agg cs]) none | _ => none
def retOuts (P : Program) (C : Cfg) (f : FuncId) (fn : Func) (nr : Nat) (s : St) : Option (List AV) :=
  bif bigR P fn && Nat.beq nr 0 then
    match fn.results.toList with
    | [.tmp t] => bigK (tmpF s.fr t)
    | [.cell a t] =>
      match tmpF s.fr a with
      | .ptr l i j => evLoad P s.bl (fun v _ => bigK v) t (.ptr l i j)
      | _ => none
    | _ => none
  else retGen P C f fn nr s

def resSlot : ResultVar → Nat
  | .tmp t => t
  | .cell a _ => a
def retLive (fn : Func) : List Nat := fn.results.toList.foldl (fun acc r => insN (resSlot r) acc) []

def startFr (n : Nat) : List AV → List (Nat × AV)
  | [] => []
  | a :: as => (n, a) :: startFr (n + 1) as

/-- The loops of code with what surrounds them, in the order of the text, outer ones first. -/
def loopsIn : Code → List Nat → LE → List (Code × LE)
  | .seq a b, out, E => loopsIn a (live b out E) E ++ loopsIn b out E
  | .cond _ a b, out, E => loopsIn a out E ++ loopsIn b out E
  | .block id c, out, E => loopsIn c out { E with blk := (id, out) :: E.blk }
  | .loop c, _, E => (c, E) :: loopsIn c (keepL c E) E
  | _, _, _ => []
def loopAt (P : Program) (f : FuncId) (k : Nat) : Code × LE :=
  match P.funcs[f]? with
  | some fn => match fn.body with | some c => (loopsIn c (retLive fn) ⟨[], retLive fn⟩).getD k (.skip, ⟨[], []⟩) | none => (.skip, ⟨[], []⟩)
  | none => (.skip, ⟨[], []⟩)
def retAt (P : Program) (C : Cfg) (f : FuncId) (nr : Nat) : St → Option (List AV) :=
  match P.funcs[f]? with
  | some fn => retOuts P C f fn nr
  | none => fun _ => none

/-- Every operation writes a slot that there is. -/
def dstOk (n : Nat) : Code → Bool
  | .region _ ops _ => ops.toList.all fun o => match o.dst with | some d => Nat.blt d n | none => true
  | .seq a b => dstOk n a && dstOk n b
  | .cond _ a b => dstOk n a && dstOk n b
  | .block _ c => dstOk n c
  | .loop c => dstOk n c
  | _ => true

def evBody (P : Program) (C : Cfg) (call : CallT) (inl : InlT) (n : Nat) (f : FuncId) (args : List AV) : Option (List AV) :=
  match P.funcs[f]? with
  | none => none
  | some fn =>
    match fn.body, impArgs [] args with
    | some c, some (vs, σ, roots) =>
      bif !(dstOk fn.ntmps c && Nat.ble args.length fn.ntmps && Nat.ble fn.ntmps 1000000 && Nat.beq fn.results.size fn.resultTypes.size) then none else
      let retK := retOuts P C f fn roots.length
      evCode P C call inl (evLoop P C call inl (C.roll f) (C.join f) n) (C.roll f) (C.join f) retK c (List AV) some (retLive fn) ⟨[], retLive fn⟩
        ⟨startFr 0 vs ++ startFr 1000000 (roots.map fun l => .ptr l 0 0), σ⟩ fun e s =>
          match e with
          | .exit _ => none
          | _ => retK s
    | _, _ => none

/-- A body entered in place: it works on the caller's own store. Its code holds no loop. -/
def inlBody (P : Program) (C : Cfg) (call : CallT) (inl : InlT) (R : Type) (f : FuncId) (args : List AV) (σ : Store) (K : List AV → Store → Option R) : Option R :=
  match P.funcs[f]? with
  | none => none
  | some fn =>
    match fn.body with
    | some c =>
      bif !(dstOk fn.ntmps c && Nat.ble args.length fn.ntmps && Nat.ble fn.ntmps 1000000 && Nat.beq fn.results.size fn.resultTypes.size) then none else
      evCode P C call inl (fun _ _ _ _ => none) 0 false (fun _ => none) c R (fun _ => none) (retLive fn) ⟨[], retLive fn⟩ ⟨startFr 0 args, σ⟩ fun e s =>
        match e with
        | .exit _ => none
        | _ => match resVals P s fn.results.toList with | none => none | some vs => K vs s.bl
    | none => none


/-- Bodies entered in place, one within another. -/
def inlD (P : Program) (C : Cfg) (call : CallT) : Nat → InlT
  | 0 => fun _ _ _ _ _ => none
  | k + 1 => fun R f args σ K => inlBody P C call (inlD P C call k) R f args σ K
/-- What a function answers: as it is told, or else as its body does. -/
def evTop (C : Cfg) (f : FuncId) (args : List AV) (x : Option (List AV)) : Option (List AV) :=
  match C.ext f with
  | some g => g args
  | none => x
/-- The evaluator: n bounds the depth of calls and the rounds of each loop. -/
def evF (P : Program) (C : Cfg) : Nat → CallT
  | 0 => fun _ _ => none
  | n + 1 => fun f args => evTop C f args (evBody P C (evF P C n) (inlD P C (evF P C n) 5) n f args)
/-- Loop k of function f, entered in a state; m: the depth of calls, n: the rounds. -/
def lpF (P : Program) (C : Cfg) (m n : Nat) (f k nr : Nat) (s : St) : Option LR :=
  evLoop P C (evF P C m) (inlD P C (evF P C m) 5) (C.roll f) (C.join f) n (loopAt P f k).1 (loopAt P f k).2 (retAt P C f nr) s
end Go.Ev
