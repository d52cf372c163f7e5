/- -/
import Derived.Test.YtdlelodnhjacgaaGreatDoorAb45
import Derived.Test.YtdlelodnhjacgaaGreatDoorCards
import Derived.Test.YtdlelodnhjacgaaGreatDoorTie
import Derived.WalkKit
import Derived.ProofKit
import Derived.OpenShut
import Derived.Deep.DeepHandedRow
import Derived.Lib.LaidTab
set_option linter.unusedSimpArgs false
set_option linter.unusedVariables false
set_option maxRecDepth 8000
namespace Go.Proofs.YtdlelodnhjacgaaGreatDoor.bindNoticesOrder
open Go.ChangeShapes Go.WideShapes Go.ChangeAt Go.RowKit Go.Ab
theorem own:ownKnob Tryz.prog.godebug=none:=by kernel_rfl
theorem Fw:laidOutB Tryz.prog=true:=by kernel_rfl
noncomputable def HL:Hp:=j4 Tryz.prog 8 6 Rows.bindNoticesOrderRow.laid ⟨.lf,6⟩
theorem H0:j4 Tryz.prog 8 6 Rows.bindNoticesOrderRow.laid ⟨.lf,6⟩=HL:=rfl
theorem HL0:HL.get 0=some Go.Ai.offsG:=by kernel_rfl
theorem HL1:HL.get 1=some Go.Ai.letsG:=by kernel_rfl
theorem HL2:HL.get 2=some Go.Ai.digsG:=by kernel_rfl
theorem HL3:HL.get 3=some Go.Ai.powG:=by kernel_rfl
theorem Rc(b:Nat)(bk:B)(h:(Go.Ai.H00 1).get b=some bk):HL.get b=some bk:=by
 rw [Go.Ai.H00get] at h;split at h
 ·rename_i hb;rw [hb,HL3];exact h
 split at h
 ·rename_i hb;rw [hb,HL2];exact h
 split at h
 ·rename_i hb;rw [hb,HL1];exact h
 split at h
 ·rename_i hb;rw [hb,HL0];exact h
 cases h
def Cx:Nat->Ty
 |0=>.unit
 |n+1=>.pair (.int .u64) (Cx n)
theorem Mo(g k:Nat)(_:g<6)(hk:uV g=some k):∃s d t T,(s,d)∈Rows.bindNoticesOrderRow.laid/\Tryz.prog.globalNamed s=some g/\(Tryz.prog.globals[g]?).map (·.type)=some t/\desc Tryz.prog 8 t=some T/\T.sz=k:=by
 unfold uV at hk;split at hk
 ·rename_i hg;subst hg;obtain rfl:=zsi hk;exact⟨_,_,336,.agg (Cx 20),.tail _ (.tail _ (.head _)),by kernel_rfl,by kernel_rfl,by kernel_rfl,by kernel_rfl⟩
 ·cases hk
theorem Uz:W9 Tryz.prog 8 Tryz.f3.params.toList=some [Go.Ai.rawET,Go.Ai.b3T]:=by kernel_rfl
theorem Ub:Tryz.f3.resultTypes=#[4]:=by kernel_rfl
theorem SO:(Tryz.f3.params.toList.all fun t=>Tryz.prog.readableRec t&&decide (t<Tryz.prog.types.size))=true:=by kernel_rfl
theorem Fi:Tryz.f3.params.toList.length=2:=by kernel_rfl
set_option maxRecDepth 100000 in
theorem contract (X:Type) (enc:TypeId × Value->X) (W:World) (base:Nat) (args:Array Value) (ds gs:List (DataW X)) (before:List MemPlace)
 (hval:∀(j:Nat) t v,Tryz.f3.params[j]?=some t->args[j]?=some v->Value.okWide Tryz.prog W .any base t v)
 (hW:DataW.Whole enc Tryz.prog Tryz.f3.params.toList Rows.bindNoticesOrderSpec.vars false W args.toList ds gs before) (hL:laidMetH Tryz.prog Rows.bindNoticesOrderRow.laid W):
 Calls Tryz.prog 3 args W fun e W'=>∃v,e=.returned v/\Rows.bindNoticesOrderSpec.post enc Tryz.prog Tryz.f3 false true false false W args v W':=by
 refine uO (n:=8) (G:=6) Fw SO Uz O Ub Tryz.underlying4 (fun l hl=>?_) H0 W base args _ gs before ?_ hval hW hL Mo
 ·rw [Fi] at hl
  match l,hl with
  |[_,_],_=>rfl
 ·rintro H ⟨x,m,u⟩ vs hw hx-hr -;exact Go.Ab.deep_law (GH:=Go.Ai.H00 1) (fun hok=>Go.Ai.notices_law hok) hw (fun b bk h=>hx.get b bk (Rc b bk h)) hr
noncomputable def cell1:DataW Unit->List Value
 |.lit (.int k n)=>[.int k n]
 |_=>[]
noncomputable def sB:DataW Unit->List Value
 |.agg l=>l.flatMap fun
  |.agg m=>m.flatMap cell1
  |x=>cell1 x
 |x=>cell1 x
noncomputable def layW:List (String × DataW Unit)->Array Obj->Array Obj
 |[],a=>a
 |(s,d)::r,a=>match Tryz.prog.globalNamed s with
  |some g=>layW r (a.modify g fun
   |.cells _ t frozen=>.cells (sB d).toArray t frozen
   |o=>o)
  |none=>layW r a
noncomputable def laidWorld (os:Os):World:=
 { World.holding Tryz.prog os ⟨#[],#[],[]⟩ with heap:=layW Rows.bindNoticesOrderRow.laid (World.holding Tryz.prog os ⟨#[],#[],[]⟩).heap }
def wargs:Array Value:=#[.agg #[.slice none 0 0,.int .u8 0,.int .u8 0,.int .u8 0,.int .u8 0],.agg #[.int .u8 0,.int .u8 0,.int .u8 0]]
theorem laid_met(os:Os):laidMet Tryz.prog Rows.bindNoticesOrderRow.laid ((laidWorld os).forCall (fun _ _=>0) ⟨#[],wargs,[]⟩).memory:=
 laidMet_of_run' 8 (by kernel_rfl) (by kernel_rfl)
theorem reads(os:Os){H:Type}(enc:TypeId × Value->H):∃places,DataW.whole enc Tryz.prog ((laidWorld os).forCall (fun _ _=>0) ⟨#[],wargs,[]⟩).memory Tryz.f3.params.toList Rows.bindNoticesOrderSpec.vars false wargs.toList 8=some ([.agg [.nil,.lit (.int .u8 0),.agg [.lit (.int .u8 0),.lit (.int .u8 0),.lit (.int .u8 0)]],.agg [.lit (.int .u8 0),.lit (.int .u8 0),.lit (.int .u8 0)]],[],places):=
 ⟨[],by kernel_rfl⟩
set_option maxRecDepth 100000 in
theorem lifted(os:Os)(started:os.Started)(H:Type)(enc:TypeId × Value->H)(F:Stop.Interp):
 ReturnsInHanded {} Tryz.checked os 3 .any ((OpenSpec.ofChange Rows.bindNoticesOrderSpec).preRow enc Tryz.prog Tryz.f3 Rows.bindNoticesOrderRow.domain false Rows.bindNoticesOrderRow.laid) (((OpenSpec.ofChange Rows.bindNoticesOrderSpec).at F).post enc Tryz.prog Tryz.f3 false true false false):=by
 obtain⟨places,hx⟩:=reads os enc;refine returnsInHanded_of_row (C:=Tryz.checked) (s:=OpenSpec.ofChange Rows.bindNoticesOrderSpec) own started (by kernel_rfl) Tryz.func3
  (witness_row_at (enc:=enc) (C:=Tryz.checked) false (laidWorld os) wargs rfl (by kernel_rfl) (by kernel_rfl) (by kernel_rfl)
   (OpenSpec.preRow_of_cond 8 hx (by kernel_rfl) (fun k hk=>by cases hk) (by kernel_rfl) (laid_met os))) ?_
 intro W base args ds gs before hval hW _ _ _ hL _ _;exact contract H enc W base args ds gs before hval hW hL
end Go.Proofs.YtdlelodnhjacgaaGreatDoor.bindNoticesOrder
