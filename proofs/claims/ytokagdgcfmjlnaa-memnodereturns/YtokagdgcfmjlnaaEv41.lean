/- Reading values that are at hand: for simp. -/
import Derived.Test.YtokagdgcfmjlnaaEv40
set_option linter.all false
namespace Go.Ev
open Go

theorem isAgg_agg (n : Nat) (cs : List AV) : isAgg n (.agg cs) = Nat.beq cs.length n := rfl
theorem nat_beq_self (n : Nat) : Nat.beq n n = true := by simp
/-- Only what is tested, and what is bound, is looked at. -/
theorem bind_first {α β : Type} {x x' : Option α} {f : α → Option β} (h : x = x') : x.bind f = x'.bind f := by rw [h]
theorem cond_first {α : Type} {c c' : Bool} {x y : α} (h : c = c') : cond c x y = cond c' x y := by rw [h]
theorem bnd {α β : Type} {x : Option α} {a : α} {f : α → Option β} {r : Option β} (h : x = some a) (h2 : f a = r) : x.bind f = r := by rw [h]; exact h2
theorem obCells_agg (cs : List AV) : obCells (.agg cs) = cs := rfl
theorem obCells_ob (t : Nat) (cs : List AV) : obCells (.ob t cs) = cs := rfl
theorem isOb_ok (t : Nat) (cs : List AV) : isOb t (.ob t cs) = true := by simp [isOb]
theorem isL_ok (b : Bool) (sz : Nat) (xs : List (List AV)) : isL sz (.lst b sz xs) = true := by simp [isL]
theorem isOw_ok (b : Bool) (t sz : Nat) (xs : List (List AV)) : isOw t sz (.ow b t sz xs) = true := by simp [isOw]
theorem avXs_lst (b : Bool) (sz : Nat) (xs : List (List AV)) : avXs (.lst b sz xs) = xs := rfl
theorem avXs_ow (b : Bool) (t sz : Nat) (xs : List (List AV)) : avXs (.ow b t sz xs) = xs := rfl
theorem avNil_lst (b : Bool) (sz : Nat) (xs : List (List AV)) : avNil (.lst b sz xs) = b := rfl
theorem avNil_ow (b : Bool) (t sz : Nat) (xs : List (List AV)) : avNil (.ow b t sz xs) = b := rfl
theorem avNil_sl (b : Bool) (l o : Nat) (c : Option Nat) : avNil (.sl b l o c) = b := rfl
theorem avOff_sl (b : Bool) (l o : Nat) (c : Option Nat) : avOff (.sl b l o c) = o := rfl
theorem avCut_sl (b : Bool) (l o c : Nat) : avCut (.sl b l o (some c)) = c := rfl
theorem frAt_zero (a : Nat × AV) (l : List (Nat × AV)) : frAt (a :: l) 0 = a := rfl
theorem frAt_succ (a : Nat × AV) (l : List (Nat × AV)) (i : Nat) : frAt (a :: l) (i + 1) = frAt l i := rfl
theorem blAt_zero (a : Blk) (l : Store) : blAt (a :: l) 0 = a := rfl
theorem blAt_succ (a : Blk) (l : Store) (i : Nat) : blAt (a :: l) (i + 1) = blAt l i := rfl
theorem isEx_ok (i : Nat) (s : St) (o : List AV) : isEx i ⟨some i, s, o⟩ = true := by simp [isEx]
theorem isEx_ne {i j : Nat} (s : St) (o : List AV) (h : Nat.beq j i = false) : isEx i ⟨some j, s, o⟩ = false := h
theorem isEx_none (i : Nat) (s : St) (o : List AV) : isEx i ⟨none, s, o⟩ = false := rfl
theorem isRt_some (i : Nat) (s : St) (o : List AV) : isRt ⟨some i, s, o⟩ = false := rfl
theorem isRt_none (s : St) (o : List AV) : isRt ⟨none, s, o⟩ = true := rfl
theorem like_st (f g : List (Nat × AV)) (b c : Store) : likeStG ⟨f, b⟩ ⟨g, c⟩ = (Nat.beq f.length g.length && likeFG f 0 g && (Nat.beq b.length c.length && likeBG b 0 c)) := rfl
theorem likeFG_nil (j : Nat) (g : List (Nat × AV)) : likeFG [] j g = true := rfl
theorem likeFG_cons (t : Nat) (a : AV) (r : List (Nat × AV)) (j : Nat) (g : List (Nat × AV)) : likeFG ((t, a) :: r) j g = (Nat.beq t (frAt g j).1 && (likeT a (frAt g j).2).1 && likeFG r (j + 1) g) := rfl
theorem likeBG_nil (j : Nat) (c : Store) : likeBG [] j c = true := rfl
theorem likeBG_obj (m t s : Nat) (xs : List (List AV)) (r : Store) (j : Nat) (c : Store) : likeBG (⟨m, t, s, true, xs⟩ :: r) j c =
    ((Nat.beq m (blAt c j).mode && Nat.beq t (blAt c j).ty && Nat.beq s (blAt c j).sz && (true == (blAt c j).obj) &&
      (Nat.beq (blAt c j).xs.length 1 && Nat.beq (lget (blAt c j).xs 0).length (lget xs 0).length && likeSG (lget xs 0) 0 (lget (blAt c j).xs 0))) && likeBG r (j + 1) c) := rfl
theorem likeBG_row (m t s : Nat) (xs : List (List AV)) (r : Store) (j : Nat) (c : Store) : likeBG (⟨m, t, s, false, xs⟩ :: r) j c =
    ((Nat.beq m (blAt c j).mode && Nat.beq t (blAt c j).ty && Nat.beq s (blAt c j).sz && (false == (blAt c j).obj) && true) && likeBG r (j + 1) c) := rfl
theorem likeSG_nil (j : Nat) (c : List AV) : likeSG [] j c = true := rfl
theorem likeSG_cons (a : AV) (r : List AV) (j : Nat) (c : List AV) : likeSG (a :: r) j c = ((likeS a (cellAt c j)).1 && likeSG r (j + 1) c) := by
  cases r with
  | nil => simp [likeSG]
  | cons b r => rfl
theorem likeT_ep (ts : List AV) (o : Nat) (c : AV) : (likeT (.ep ts o) c).1 = (isEp ts.length o c && likeSG ts 0 (epCells c)) := rfl
theorem isEp_ep (n o : Nat) (cs : List AV) : isEp n o (.ep cs o) = Nat.beq cs.length n := by simp [isEp]
theorem epCells_ep (cs : List AV) (o : Nat) : epCells (.ep cs o) = cs := rfl
theorem likeT_nil (c : AV) : (likeT (.v (.pointer none)) c).1 = isNP c := rfl
theorem likeS_nil (c : AV) : (likeS (.v (.pointer none)) c).1 = isNP c := rfl
theorem isNP_nil : isNP (.v (.pointer none)) = true := rfl
theorem isNP_ob (t : Nat) (cs : List AV) : isNP (.ob t cs) = false := rfl
theorem likeT_agg (ts : List AV) (c : AV) : (likeT (.agg ts) c).1 = (isAgg ts.length c && likeSG ts 0 (obCells c)) := rfl
theorem likeT_int (k : IntKind) (n : Int) (c : AV) : (likeT (.v (.int k n)) c).1 = isI k c := rfl
theorem likeT_bool (b : Bool) (c : AV) : (likeT (.v (.bool b)) c).1 = isB c := rfl
theorem likeT_str (b : ByteArray) (c : AV) : (likeT (.v (.string b)) c).1 = isS c := rfl
theorem likeT_lst (b : Bool) (s : Nat) (xs : List (List AV)) (c : AV) : (likeT (.lst b s xs) c).1 = isL s c := rfl
theorem likeT_sl0 (b : Bool) (l o : Nat) (c : AV) : (likeT (.sl b l o none) c).1 = (isSl l true c && Nat.beq (avOff c) o) := rfl
theorem likeT_sl1 (b : Bool) (l o k : Nat) (c : AV) : (likeT (.sl b l o (some k)) c).1 = (isSl l false c && Nat.beq (avOff c) o) := rfl
theorem likeT_ptr (l i j : Nat) (c : AV) : (likeT (.ptr l i j) c).1 = isPtr l i j c := rfl
theorem likeS_int (k : IntKind) (n : Int) (c : AV) : (likeS (.v (.int k n)) c).1 = isI k c := rfl
theorem likeS_bool (b : Bool) (c : AV) : (likeS (.v (.bool b)) c).1 = isB c := rfl
theorem likeS_str (b : ByteArray) (c : AV) : (likeS (.v (.string b)) c).1 = isS c := rfl
theorem likeS_lst (b : Bool) (s : Nat) (xs : List (List AV)) (c : AV) : (likeS (.lst b s xs) c).1 = isL s c := rfl
theorem likeS_sl0 (b : Bool) (l o : Nat) (c : AV) : (likeS (.sl b l o none) c).1 = (isSl l true c && Nat.beq (avOff c) o) := rfl
theorem likeS_sl1 (b : Bool) (l o k : Nat) (c : AV) : (likeS (.sl b l o (some k)) c).1 = (isSl l false c && Nat.beq (avOff c) o) := rfl
theorem likeS_ptr (l i j : Nat) (c : AV) : (likeS (.ptr l i j) c).1 = isPtr l i j c := rfl
theorem isPtr_ok (l i j : Nat) : isPtr l i j (.ptr l i j) = true := by simp [isPtr]
theorem isSl_0 (b : Bool) (l o : Nat) : isSl l true (.sl b l o none) = true := by simp [isSl]
theorem isSl_1 (b : Bool) (l o k : Nat) : isSl l false (.sl b l o (some k)) = true := by simp [isSl]
theorem not_beq_self (b : Bool) : (!(b == b)) = false := by cases b <;> rfl
theorem beq_self_b (b : Bool) : (b == b) = true := by cases b <;> rfl
theorem beq_self_i (b : Int) : (b == b) = true := by simp
theorem bits_or_comm (k : IntKind) (a b : Int) : bits .or k a b = bits .or k b a := by
  simp only [bits, BitVec.or_comm]

/-! ## Arguments by their types -/
section
variable {P : Program} {N : Nat}
def fieldsT (P : Program) (t : TypeId) : Option (List TypeId) := match P.underlying t with | some (.struct fs) => some (fs.toList.map (·.type)) | _ => none
def elemsT (P : Program) (t : TypeId) : Option (List TypeId) := match P.underlying t with | some (.array n e) => some (List.replicate n e) | _ => none
theorem typC_st {n : Nat} {t : TypeId} {ts : List TypeId} {cs : List AV} (hu : fieldsT P t = some ts) (h : TypC P N (n + 1) t cs) : TypL P N n ts cs := by
  unfold fieldsT at hu
  split at hu
  · rename_i fs hu2
    obtain rfl := Option.some.inj hu
    exact typC_struct hu2 h
  · cases hu
theorem typC_ar {n : Nat} {t : TypeId} {ts : List TypeId} {cs : List AV} (hu : elemsT P t = some ts) (h : TypC P N (n + 1) t cs) : TypL P N n ts cs := by
  unfold elemsT at hu
  split at hu
  · rename_i m e hu2
    obtain rfl := Option.some.inj hu
    exact typC_array hu2 h
  · cases hu
theorem lim_i64 {m : Int} (h : IntKind.i64.min ≤ m ∧ m ≤ IntKind.i64.max) : -9223372036854775808 ≤ m ∧ m ≤ 9223372036854775807 := by rw [min_i64, max_i64] at h; exact h
theorem lim_u64 {m : Int} (h : IntKind.u64.min ≤ m ∧ m ≤ IntKind.u64.max) : 0 ≤ m ∧ m ≤ 18446744073709551615 := by rw [min_u64, max_u64] at h; exact h
theorem lim_u32 {m : Int} (h : IntKind.u32.min ≤ m ∧ m ≤ IntKind.u32.max) : 0 ≤ m ∧ m ≤ 4294967295 := by rw [min_u32, max_u32] at h; exact h
theorem lim_u8 {m : Int} (h : IntKind.u8.min ≤ m ∧ m ≤ IntKind.u8.max) : 0 ≤ m ∧ m ≤ 255 := by rw [min_u8, max_u8] at h; exact h
end
end Go.Ev
