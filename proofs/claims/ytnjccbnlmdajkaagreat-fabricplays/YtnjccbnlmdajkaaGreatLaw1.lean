/- FabricPlays: the statement,from what the evaluator answers. No conditions. -/
import Derived.Test.YtnjccbnlmdajkaaGreatDoV
set_option linter.all false
namespace Go.Proofs.YtnjccbnlmdajkaaGreat.wo
open Go.Ev Go.ChangeShapes Go.RowKit
theorem own:ownKnob Tryz.prog.godebug=none:=by kernel_rfl
theorem mix:Tryz.prog.follows .mixedOrders=true:=by kernel_rfl
theorem laid:laidOutB Tryz.prog=true:=by kernel_rfl
theorem und:Tryz.prog.underlying 4=some .bool:=by kernel_rfl
theorem res:Tryz.f3.resultTypes= #[4]:=by kernel_rfl
theorem agH:YH Tryz.prog Tryz.f3.params.toList=true:=by kernel_rfl
theorem Ov{H:Type}{d:DataW H}{l:List (DataW H)}(h:d∈l):Rows.uptoBulk d<=Rows.uptoBulkAll l:=by
 induction l with
 |nil=>cases h
 |cons x r ih=>
  simp only[Rows.uptoBulkAll];rcases ft.1 h with h|h
  ·subst h;omega
  ·have:=ih h;omega
theorem pos{H:Type}(d:DataW H):1<=Rows.uptoBulk d:=by
 cases d with
 |lit l=>cases l<;>simp[Rows.uptoBulk]
 |_=>simp[Rows.uptoBulk]
theorem Yk{H:Type}(l:List (DataW H)):l.length<=Rows.uptoBulkAll l:=by
 induction l with
 |nil=>simp[Rows.uptoBulkAll]
 |cons x r ih=>have:=pos x;simp only[Rows.uptoBulkAll,ki];omega
theorem Yl{H:Type}:xa (Rows.uptoBulk (H:=H)) where
 str b:=by simp[Rows.uptoBulk]
 len e s:=by have:=Yk e;simp only[Rows.uptoBulk];omega
 elem e s d h:=by have:=Ov h;simp only[Rows.uptoBulk];omega
 part ps d h:=by have:=Ov h;simp only[Rows.uptoBulk];omega
theorem spec{H:Type}(ds:List (DataW H))(h:ds.length=Tryz.f3.params.toList.length):Rows.fabricPlaysSpec.fn H (ds++[])={results:=[.lit (.bool true)],args:=ds}:=by
 have h:ds.length=1:=h.trans (by kernel_rfl)
 match ds,h with
 |[_],_=>rfl
set_option maxRecDepth 100000 in
theorem lifted(os:Os)(started:os.Started)(H:Type)(enc:TypeId×Value->H):
  ReturnsInHanded {} Tryz.checked os 3 .any (Rows.fabricPlaysSpec.pre6 enc Tryz.prog Tryz.f3 Rows.fabricPlaysRow.domain false) (Rows.fabricPlaysSpec.post enc Tryz.prog Tryz.f3 false true false false):=by
 refine returnsInHanded_of_change (C:=Tryz.checked) own started (by kernel_rfl) Tryz.func3
  (ChangeSpec.witness6 (enc:=enc) (C:=Tryz.checked) false ⟨#[],#[.slice none 0 0],[]⟩ 8 (by kernel_rfl) (by kernel_rfl) (by kernel_rfl) (by kernel_rfl)) ?_
 intro W base args ds gs before hval hW _ _;obtain⟨rfl,_⟩:gs=[]/\True:=by
  obtain⟨_,_,_,hV,_⟩:=hW;exact⟨(trodVars_none hV).1,trivial⟩
 exact Pp (N:=maxLen) Yl mix Yj ab0 Tryz.func3 res und rfl rfl spec laid agH (zu) base args ds [] before hval hW (.inl rfl)
theorem said:Rows.FabricPlaysSaid:=
 OpenClaim.holds_of_wide 3 Tryz.f3 rfl rfl rfl rfl rfl rfl rfl ⟨rfl,rfl,rfl,rfl,rfl⟩ rfl rfl rfl rfl rfl (by kernel_rfl) Tryz.func3 (by kernel_rfl)
  (tn (by kernel_rfl)) (by unfold Func.isWrapper;first|(rw[ee (by decide+kernel)];kernel_rfl)|(rw[eg (by decide+kernel)];exact⟨rfl,rfl⟩))
  (fun os started H enc _=>lifted os started H enc)
end Go.Proofs.YtnjccbnlmdajkaaGreat.wo
namespace Go.Proofs.YtnjccbnlmdajkaaGreat
theorem fabricPlays_holds:Rows.FabricPlaysSaid:=wo.said
