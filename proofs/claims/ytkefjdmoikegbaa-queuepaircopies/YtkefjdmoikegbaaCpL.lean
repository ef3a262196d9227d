/- QueuepairCopies: the law. -/
import Derived.Test.YtkefjdmoikegbaaCpT
set_option linter.all false
namespace Go.Proofs.Ytkefjdmoikegbaa
open Go.RowKit Go.Shelf Go.Lib Go.Ev
set_option maxRecDepth 100000
section
variable {w0 W : World} {μ : Mu} {I : Nat → Option ItemO}
theorem pk15 {b7 p n q r t y z u v : Nat} (h : JM w0 b7 p n q r t y z u v true W) : Pk15 b7 t r v W (JB w0 b7 p n q r t y z u v) := by
 obtain ⟨μ,I,s,qn,ws,dn,hK,hf,hf',hs,hok,⟨F4,h4⟩,⟨F5,h5⟩,⟨F6,h6⟩,⟨F7,h7⟩⟩ := h
 obtain ⟨Fr,hr⟩ := hs.r
 have hKd := hK.drew
 have h6 : I 6 = some (obI u F6 70 (rC s)) := h6
 obtain ⟨Fx,x,e0,bx,hFx⟩ := hKd.atF hr (j := 0) rfl
 obtain ⟨A,c,rfl,_⟩ := b0_row bx
 have hwl : (ws.map wr).length = 320 := by rw [List.length_map]; exact hok.len
 obtain ⟨I23,hI,hIz,hIs,hIb⟩ := info_parts inf23
 obtain ⟨G,W2,hap,k2,hb2⟩ := app_all (P := Try.prog) und33 hI hIz hIs (by omega) (by omega) rfl bx (by omega) (wr_flat _ _) fun b o hb => (Array.getElem?_eq_some_iff.1 (hKd.imm b o hb)).1
 have hK2 := hKd.kept0 k2
 obtain ⟨F8,s8,hK3⟩ := hK2.setB h7 0 hb2 (by simp) (fun x hx => by simp at hx; subst hx; exact hKd.kept.size) (fun i x hi y hy hm => by
  simp at hy; subst hy
  have := hKd.lt hi hm
  rw [show W.drew.heap.size = W.heap.size from rfl] at this; omega)
 obtain ⟨F9,s9,hK4⟩ := hK3.set (put_same _ _ _) 1 (a := .v (.bool (!dn))) (v := .bool (!dn)) (.v rfl)
 have f0 := hK2.frozen h7 0
 have c0 := hK2.cell h7 (j := 0) rfl
 have f1 := hK3.frozen (put_same _ _ _) 1
 have c1 := hK3.cell (put_same _ _ _) (j := 1) rfl
 rw [put_put] at hK4
 have hrr : put I 7 (some (obI v F9 72 (rfC ws (!dn)))) 3 = some (obI r Fr 72 (rfC ws (!dn))) := put_get hr (by decide)
 have hne : r ≠ v := fun e => by
  obtain ⟨_,_,e1,_⟩ := hKd.ob hr
  obtain ⟨_,_,e2,_⟩ := hKd.ob h7
  exact hKd.dj 3 7 _ _ hr h7 (by decide) r (by simp only; rw [e1]; simp) (by simp only; rw [e2,e]; simp)
 have hrlt : r < W.drew.heap.size := by
  obtain ⟨_,_,e1,_⟩ := hKd.ob hr
  exact hKd.lt hr (by simp only; rw [e1]; simp)
 obtain ⟨B0,B1,B2,B3⟩ := hf'.cells hKd
 obtain ⟨C0,C1,C2,C3⟩ := hf.cells hKd
 obtain ⟨B0',B1',B2',B3'⟩ := hf'.cells hK2
 obtain ⟨C0',C1',C2',C3'⟩ := hf.cells hK2
 obtain ⟨B0'',B1'',B2'',B3''⟩ := hf'.cells hK4
 obtain ⟨C0'',C1'',C2'',C3''⟩ := hf.cells hK4
 have e2 : W2.cell? ⟨r,0,none⟩ = some (.slice A (ws.map wr).length c) := by rw [cell_heap (k2.keep r hrlt List.not_mem_nil)]; exact e0
 have e4 : ((W2.setCell ⟨v,0,none⟩ (.slice (some ⟨W.drew.heap.size,0,none⟩) (ws.map wr).length G)).setCell ⟨v,1,none⟩ (.bool (!dn))).cell? ⟨r,0,none⟩ = some (.slice A (ws.map wr).length c) := by
  rw [cell_heap (setCell_other _ _ _ _ _ hne),cell_heap (setCell_other _ _ _ _ _ hne)]; exact e2
 refine ⟨A,_,c,!dn,_,_,G,W2,_,_,⟨B3,C3,e0,hKd.cell hr rfl⟩,hap,⟨B3',C3',e2,hK2.cell hr rfl⟩,f0,⟨_,c0⟩,rfl,f1,⟨_,c1⟩,rfl,⟨B3'',C3'',e4,hK4.cell hrr rfl⟩,
  μ,_,s,qn,ws,dn,s,s.q.isEmpty,ws,dn,hK4,hf,hf',hs.put (by omega),hok,⟨⟨F4,put_get h4 (by decide)⟩,⟨F5,put_get h5 (by decide)⟩,⟨F6,put_get h6 (by decide)⟩,⟨F9,put_same _ _ _⟩⟩,hok.copy⟩
theorem pk26 {b7 p n q r t y z u v : Nat} (h : JB w0 b7 p n q r t y z u v W) : Pk26 b7 t p y q u W (fun w' => KeptW [] w0 w') := by
 obtain ⟨μ,I,s,qn,ws,dn,s',qn',ws',dn',hK,hf,hf',hs,hok,hs',hok'⟩ := h
 obtain ⟨F1,h1⟩ := hs.p
 obtain ⟨F2,h2⟩ := hs'.p
 obtain ⟨F3,h3⟩ := hs.q
 obtain ⟨F4,h4⟩ := hs'.q
 have hS : ∀ {w : World},Kst w0 μ I w → S26 b7 t p y q u w := fun hK => ⟨(hf.cells hK).1,(hf'.cells hK).1,(hf.cells hK).2.2.1,(hf'.cells hK).2.2.1⟩
 refine ⟨hS hK.drew,(enc_call hK.drew h1 hok.G).mono fun e w1 he => ?_⟩
 obtain ⟨A,l,c,a,rfl,hK1,_,d1⟩ := he
 refine ⟨A,l,c,rfl,hS hK1,(enc_call hK1 h2 hok'.G).mono fun e w2 he => ?_⟩
 obtain ⟨B,m,d,b,rfl,hK2,k2,d2⟩ := he
 refine ⟨B,m,d,rfl,hS hK2,(same_call hK2 (d1.mono k2.hf) d2).mono fun e w3 he => ?_⟩
 obtain ⟨rfl,hK3⟩ := he
 refine ⟨_,rfl,hS hK3,(key_call hK3 h3 hok.G).mono fun e w4 he => ?_⟩
 obtain ⟨rfl,hK4⟩ := he
 refine ⟨_,rfl,hS hK4,(key_call hK4 h4 hok'.G).mono fun e w5 he => ?_⟩
 obtain ⟨rfl,hK5⟩ := he
 refine ⟨_,rfl,hS hK5,?_,hK5.kept⟩
 have he : ∀ {s : PS},s.G → Wok (encS s) := fun {s} h => by
  have hl := h.wl
  have hfl := flat_len s.q fun v hv => (h.vs v hv).n
  have : ∀ q : List Vb,(∀ v ∈ q,v.Nm) → Wok (q.flatMap vE) := fun q hq x hx => by
   obtain ⟨v,hv,hx⟩ := List.mem_flatMap.1 hx
   have := vF_len (hq v hv)
   rcases List.mem_cons.1 hx with rfl | hx
   ·omega
   ·exact vF_wok (hq v hv) x hx
  exact wok_cons (by omega) (wok_cons (wok_wrap _) (wok_cons (wok_wrap _) (wok_cons (wok_wrap _) (wok_cons (wok_wrap _) (wok_cons (wok_wrap _) (wok_app (this s.q fun v hv => (h.vs v hv).n) (wok_cons (by omega) h.wok)))))))
 have hk : ∀ {s : PS},s.G → Wok (keyS s) := fun {s} h => by
  refine wok_app (wok_cons (wok_wrap _) (wok_cons (wok_wrap _) (wok_cons (wok_wrap _) (wok_cons (wok_wrap _) wok_nil)))) fun x hx => ?_
  obtain ⟨p,hp,hx⟩ := List.mem_flatMap.1 hx
  have hp := trip_ok h p hp
  exact wok_app (kH_wok hp.n _) (wok_app (kW_wok hp.n) (wok_app (wok_cons (wok_wrap _) wok_nil) hp.w)) x hx
 rw [bB_beq (he hok.G) (he hok'.G),bB_beq (hk hok.G) (hk hok'.G)]
 exact decide_eq_decide.2 (enc_key hok.G hok'.G)
end
theorem law_ok (w : World) {f1 f2 f3 : Bool} {o1 o2 o3 : List Opr} {A1 A2 A3 : Option Addr} {c1 c2 c3 : Nat} (hl : o1.length ≤ 20∧o2.length ≤ 10∧o3.length ≤ 10) (h1 : DR (hf w) (.lst f1 10 (o1.map Opr.row)) (.slice A1 o1.length c1)) (h2 : DR (hf w) (.lst f2 10 (o2.map Opr.row)) (.slice A2 o2.length c2)) (h3 : DR (hf w) (.lst f3 10 (o3.map Opr.row)) (.slice A3 o3.length c3))
  (k1 : ∀ o ∈ o1,o.Ok) (k2 : ∀ o ∈ o2,o.Ok) (k3 : ∀ o ∈ o3,o.Ok) : Calls Try.prog 7 #[.slice A1 o1.length c1,.slice A2 o2.length c2,.slice A3 o3.length c3] w fun e w' => e = .returned (.bool true)∧KeptW [] w w' := by
 refine copies_walk A1 A2 A3 _ _ _ c1 c2 c3 w (fun w' => KeptW [] w w') hl (fun pb nb qb rb b7 W => JA w b7 pb nb qb rb W) ?_ fun p n q r b7 W hM => ?_
 ·refine (fresh_ok (Kst.start w)).mono fun e w1 he => ?_
  obtain ⟨pb,nb,qb,rb,rfl,μ,I,_,hK,hs⟩ := he
  refine ⟨pb,nb,qb,rb,rfl,?_⟩
  have hKa := hK.alloc 9 (cs := (ptr4 pb nb qb rb).toList.map AV.v) (cur := ptr4 pb nb qb rb) (ty := 29) (b0s_vals _ fun v hv => by
   simp only [List.mem_cons,List.not_mem_nil,or_false] at hv
   rcases hv with rfl | rfl | rfl | rfl <;> rfl)
  obtain ⟨μ',hm,hf4,hKb⟩ := frz4 (k := 9) hKa (put_same _ _ _)
  refine (hKb.lent mix extOk s_awake f9_at (vals := []) .nil).mono fun e w2 he => ?_
  obtain ⟨vs,μ2,F1,G1,rfl,hK2,_,_,hb,_⟩ := he
  obtain ⟨rfl,_⟩ := b2s_vals_inv (F := F1) (G := G1) [.bool true] hb
  refine ⟨rfl,μ',_,⟨1,1,[],0,[]⟩,true,mem0,false,hK2,hf4,?_,start_ok 1 1 (by omega) (by omega)⟩
  rw [put_put]
  exact hs.put (by omega)
 ·refine ⟨fun _ W => JA w b7 p n q r W,hM,fun i W hi hJ => ?_,RrD w b7 p n q r,mkY_ok b7 p n q r,fun W hJ => ?_,fun y z u v t w4 hR => ?_⟩
  ·obtain ⟨μ,I,s,qn,ws,dn,hK,hf,hs,hok⟩ := hJ
   exact rnd_ok hK hf hs hok h1 k1 hi fun μ' I' s' qn' ws' dn' w' hm hK' hs' hok' _ => ⟨μ',I',s',qn',ws',dn',hK',hf.mono hm,hs',hok'⟩
  ·obtain ⟨μ,I,s,qn,ws,dn,hK,hf,hs,hok⟩ := hJ
   exact ⟨μ,I,s,qn,ws,dn,hK.drew,hf,hs,hok,fun y e => (by cases e),fun y e => (by cases e),fun y e => (by cases e),fun y e => (by cases e),fun y e => (by cases e)⟩
  ·refine ⟨JM w b7 p n q r t y z u v false,JM w b7 p n q r t y z u v true,fun _ => JB w b7 p n q r t y z u v,fun _ => JB w b7 p n q r t y z u v,pk12 (fin11 hR),fun W h => pk14 h,fun W h => pk15 h,fun i W hi hJ => ?_,fun W h => h,fun i W hi hJ => ?_,fun W h => pk26 h⟩
   ·obtain ⟨μ,I,s,qn,ws,dn,s',qn',ws',dn',hK,hf,hf',hs,hok,hs',hok'⟩ := hJ
    exact rnd_ok hK hf hs hok h2 k2 hi fun μ' I' s2 qn2 ws2 dn2 w' hm hK' hs2 hok2 hoth => ⟨μ',I',s2,qn2,ws2,dn2,s',qn',ws',dn',hK',hf.mono hm,hf'.mono hm,hs2,hok2,hs'.same fun i h1 h2 => hoth i (by omega) (by omega) (by omega) (by omega),hok'⟩
   ·obtain ⟨μ,I,s,qn,ws,dn,s',qn',ws',dn',hK,hf,hf',hs,hok,hs',hok'⟩ := hJ
    exact rnd_ok hK hf' hs' hok' h3 k3 hi fun μ' I' s2 qn2 ws2 dn2 w' hm hK' hs2 hok2 hoth => ⟨μ',I',s,qn,ws,dn,s2,qn2,ws2,dn2,hK',hf.mono hm,hf'.mono hm,hs.same fun i h1 h2 => hoth i (by omega) (by omega) (by omega) (by omega),hok,hs2,hok2⟩
end Go.Proofs.Ytkefjdmoikegbaa
