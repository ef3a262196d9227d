/- Step,Take,Choices: the walks. -/
import Derived.Test.YtnjccbnlmdajkaaGreatPstW
import Derived.Deep.RegionHeld3
set_option linter.all false
namespace Go.Proofs.YtnjccbnlmdajkaaGreat
open Go.RowKit Go.Shelf Go.Lib Go.Ev
attribute [local go_sem] Oper.semAt_some
attribute [local go_sem] eU dm dq eV
set_option maxRecDepth 1000000 in
theorem jk(pb vl vc:Nat)(VA:Option Addr)(W:World)(h:W.cell? ⟨pb,3,none⟩=some (.slice VA vl vc)):Calls Tryz.prog 70 #[.pointer (some ⟨pb,0,none⟩)] W fun e w'=>e=.returned (.int .i64 vl)/\w'=W:=by
 go_enter Tryz.func70,Tryz.ntmps70
 go_wp2
 go_ret
 exact⟨rfl,rfl⟩
set_option maxRecDepth 1000000 in
theorem aW{cc:Nat}(bf bc ci nc:Nat)(W:World)(iN:ci<nc)(h:W.cell? ⟨bf,2,none⟩=some (.slice (some ⟨bc,0,none⟩) nc cc)):Calls Tryz.prog 67 #[.pointer (some ⟨bf,0,none⟩),.int .i64 ci] W fun e w'=>e=.returned (.pointer (some ⟨bc,ci*7,none⟩))/\w'=W:=by
 have uu:(ci:Int)<(nc:Int):=by omega
 go_enter Tryz.func67,Tryz.ntmps67
 go_wp2
 go_ret
 exact⟨rfl,rfl⟩
set_option maxHeartbeats 8000000 in
set_option maxRecDepth 1000000 in
theorem PR{cc:Nat}(bf bc ci nc n c:Nat)(B:Addr)(w:World)(K:World->Prop)(iN:ci<nc)(h2:w.cell? ⟨bf,2,none⟩=some (.slice (some ⟨bc,0,none⟩) nc cc))(hal:w.cell? ⟨bc,ci*7,none⟩=some (.bool true))
  (tT:w.cell? ⟨bc,ci*7+3,none⟩=some (.slice (some B) n c)) (hwa:w.cell? ⟨bc,ci*7+4,none⟩=some (.int .i64 0)) (hf:w.frozen? ⟨bc,ci*7+3,none⟩=false) (hK:K (w.setCell ⟨bc,ci*7+3,none⟩ (.slice none 0 0))):
  Calls Tryz.prog 23 #[.pointer (some ⟨bf,0,none⟩),.int .i64 ci] w fun e w'=>e=.returned (.tuple #[.slice (some B) n c,.bool true])/\K w':=by
 have uu:(ci:Int)<(nc:Int):=by omega
 go_enter Tryz.func23,Tryz.ntmps23
 go_wp2
 exact pB (At rfl _ _ _) rfl ⟨rfl,hK⟩
def S9(bl nd pb bf bn nn wu b3 nb:Nat)(w':World):Prop:=w'.cell? ⟨bl,nd*2,none⟩=some (.pointer (some ⟨pb,0,none⟩))/\w'.cell? ⟨bf,1,none⟩=some (.slice (some ⟨bn,0,none⟩) nn wu)/\w'.cell? ⟨b3,2,none⟩=some (.int .i64 nd)/\w'.cell? ⟨bn,nd,none⟩=some (.pointer (some ⟨nb,0,none⟩))
theorem kZ{W:World}{o:Obj}{b j:Nat}{v:Value}(h:W.cell? ⟨b,j,none⟩=some v):(W.alloc o).cell? ⟨b,j,none⟩=some v:=by
 rw[World.cell?_alloc_some _ _ _ (by rw[h];rfl)];exact h
theorem Jv{bl nd pb bf bn nn wu b3 nb:Nat}{W:World}{o:Obj}(h:S9 bl nd pb bf bn nn wu b3 nb W):S9 bl nd pb bf bn nn wu b3 nb (W.alloc o):=
 ⟨kZ h.1,kZ h.2.1,kZ h.2.2.1,kZ h.2.2.2⟩
def S11(bc ci bl nd bb bm pU pp po pl pc ix t7:Nat)(code:Int)(A:Option Addr)(l c:Nat)(W:World):Prop:=
 W.cell? ⟨bc,ci*7+3,none⟩=some (.slice (some ⟨bb,0,none⟩) bm pU)/\W.cell? ⟨bl,nd*2+1,none⟩=some (.slice (some ⟨pp,po,none⟩) pl pc)/\W.cell? ⟨pp,po,none⟩=some (.int .i64 ix)/\W.cell? ⟨t7,0,none⟩=some (.int .i64 code)/\W.cell? ⟨t7,1,none⟩=some (.slice A l c)
def FT(bc ci bl nd:Nat)(t7:Nat)(code:Int)(A:Option Addr)(l c:Nat)(W:World)(K:World->Prop):Prop:=
 ∃(bb bm pU pp po pl pc ix:Nat) (wv:Int),ix<bm/\0<pl/\S11 bc ci bl nd bb bm pU pp po pl pc ix t7 code A l c W/\
  W.frozen? ⟨bb,ix*2,none⟩=false/\(∃y,W.cell? ⟨bb,ix*2,none⟩=some y)/\(W.setCell ⟨bb,ix*2,none⟩ (.int .i64 code)).frozen? ⟨bb,ix*2+1,none⟩=false/\(∃y,(W.setCell ⟨bb,ix*2,none⟩ (.int .i64 code)).cell? ⟨bb,ix*2+1,none⟩=some y)/\
  S11 bc ci bl nd bb bm pU pp po pl pc ix t7 code A l c ((W.setCell ⟨bb,ix*2,none⟩ (.int .i64 code)).setCell ⟨bb,ix*2+1,none⟩ (.slice A l c))/\
  ∀q,(q=.slice (some ⟨pp,po+1,none⟩) (pl-1) (pc-1)/\pc≠1)\/(q=.slice (some ⟨pp,po,none⟩) (pl-1) 0/\pc=1)->
   Calls Tryz.prog 75 #[q] ((W.setCell ⟨bb,ix*2,none⟩ (.int .i64 code)).setCell ⟨bb,ix*2+1,none⟩ (.slice A l c)).drew fun e w'=> ∃(PA:Option Addr) (l' c':Nat) (w2:World),e=.returned (.slice PA l' c')/\
    w'.frozen? ⟨bl,nd*2+1,none⟩=false/\(∃y,w'.cell? ⟨bl,nd*2+1,none⟩=some y)/\w'.setCell ⟨bl,nd*2+1,none⟩ (.slice PA l' c')=w2/\w2.frozen? ⟨bc,ci*7+4,none⟩=false/\w2.cell? ⟨bc,ci*7+4,none⟩=some (.int .i64 wv)/\
    K (w2.setCell ⟨bc,ci*7+4,none⟩ (.int .i64 (wrap64 (wv-1))))
