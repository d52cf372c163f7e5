/- -/
import Derived.Test.YtandgamnamkkhaaGreatDoorAb40
import Derived.Test.YtandgamnamkkhaaGreatDoorCards
import Derived.Test.YtandgamnamkkhaaGreatDoorTie
import Derived.WalkKit
import Derived.ProofKit
import Derived.OpenShut
import Derived.Deep.DeepHandedRow
import Derived.Lib.LaidTab
set_option linter.unusedSimpArgs false
set_option linter.unusedVariables false
set_option maxRecDepth 8000
namespace Go.Proofs.YtandgamnamkkhaaGreatDoor.bookChecks
open Go.ChangeShapes Go.WideShapes Go.ChangeAt Go.RowKit Go.Ab
theorem own:ownKnob Tryz.prog.godebug=none:=by kernel_rfl
theorem HU:laidOutB Tryz.prog=true:=by kernel_rfl
noncomputable def HL:Hp:=yP Tryz.prog 8 7 Rows.bookChecksRow.laid ⟨.lf,7⟩
theorem H0:yP Tryz.prog 8 7 Rows.bookChecksRow.laid ⟨.lf,7⟩=HL:=rfl
theorem Gs:HL.get 4=some Go.Ah.digs:=by kernel_rfl
theorem U3(b:Nat)(bk:B)(h:(Go.Ah.H00 1).get b=some bk):HL.get b=some bk:=by
 have e:(Go.Ah.H00 1).get b=if b=4 then some Go.Ah.digs else none:=by
  show (T.lf.set 4 (some Go.Ah.digs)).get b=_
  rw [T.get_set,T.get_lf]
 rw [e] at h;split at h
 ·rename_i hb;rw [hb,Gs];exact h
 ·cases h
theorem Gn:Yu Tryz.prog 8 Tryz.f3.params.toList=some [.slice Go.Ah.rawBT,Go.Ah.spo2T]:=by kernel_rfl
theorem En:Tryz.f3.resultTypes=#[4]:=by kernel_rfl
theorem B5:(Tryz.f3.params.toList.all fun t=>Tryz.prog.readableRec t&&decide (t<Tryz.prog.types.size))=true:=by kernel_rfl
theorem HJ:Tryz.f3.params.toList.length=2:=by kernel_rfl
set_option maxRecDepth 100000 in
theorem contract (X:Type) (enc:TypeId × Value->X) (W:World) (base:Nat) (args:Array Value) (ds gs:List (DataW X)) (qO:List MemPlace)
 (hval:∀(j:Nat) t v,Tryz.f3.params[j]?=some t->args[j]?=some v->Value.okWide Tryz.prog W .any base t v)
 (hW:DataW.Whole enc Tryz.prog Tryz.f3.params.toList Rows.bookChecksSpec.vars false W args.toList ds gs qO) (hL:laidMetH Tryz.prog Rows.bookChecksRow.laid W):
 Calls Tryz.prog 3 args W fun e W'=>∃v,e=.returned v/\Rows.bookChecksSpec.post enc Tryz.prog Tryz.f3 false true false false W args v W':=by
 refine fT (n:=8) (G:=7) HU B5 Gn rfl En Tryz.underlying4 (fun l hl=>?_) H0 W base args _ gs qO ?_ hval hW hL
 ·rw [HJ] at hl
  match l,hl with
  |[_,_],_=>rfl
 ·rintro H ⟨l,m,u⟩ vs hw hx-hr -;exact Go.Ab.deep_law (GH:=Go.Ah.H00 1) (fun hok=>Go.Ah.checks_law hok) hw (fun b bk h=>hx.get b bk (U3 b bk h)) hr
noncomputable def cell1:DataW Unit->List Value
 |.lit (.int k n)=>[.int k n]
 |_=>[]
noncomputable def Wr:DataW Unit->List Value
 |.agg l=>l.flatMap fun
  |.agg m=>m.flatMap cell1
  |x=>cell1 x
 |x=>cell1 x
noncomputable def layW:List (String × DataW Unit)->Array Obj->Array Obj
 |[],a=>a
 |(s,d)::r,a=>match Tryz.prog.globalNamed s with
  |some g=>layW r (a.modify g fun
   |.cells _ t frozen=>.cells (Wr d).toArray t frozen
   |o=>o)
  |none=>layW r a
noncomputable def laidWorld (os:Os):World:=
 { World.holding Tryz.prog os ⟨#[],#[],[]⟩ with heap:=layW Rows.bookChecksRow.laid (World.holding Tryz.prog os ⟨#[],#[],[]⟩).heap }
def wargs:Array Value:=#[.slice none 0 0,.agg #[.int .u8 0,.int .u8 0,.int .i8 0,.string ⟨#[]⟩,.int .u8 0,.int .u8 0,.int .i8 0,.string ⟨#[]⟩]]
theorem laid_met(os:Os):laidMet Tryz.prog Rows.bookChecksRow.laid ((laidWorld os).forCall (fun _ _=>0) ⟨#[],wargs,[]⟩).memory:=
 laidMet_of_run' 8 (by kernel_rfl) (by kernel_rfl)
theorem reads(os:Os){H:Type}(enc:TypeId × Value->H):∃places,DataW.whole enc Tryz.prog ((laidWorld os).forCall (fun _ _=>0) ⟨#[],wargs,[]⟩).memory Tryz.f3.params.toList Rows.bookChecksSpec.vars false wargs.toList 8=some ([.nil,.agg [.agg [.lit (.int .u8 0),.lit (.int .u8 0),.lit (.int .i8 0),.lit (.string [])],.agg [.lit (.int .u8 0),.lit (.int .u8 0),.lit (.int .i8 0),.lit (.string [])]]],[],places):=
 ⟨[],by kernel_rfl⟩
set_option maxRecDepth 100000 in
theorem lifted(os:Os)(started:os.Started)(H:Type)(enc:TypeId × Value->H)(F:Stop.Interp):
 ReturnsInHanded {} Tryz.checked os 3 .any ((OpenSpec.ofChange Rows.bookChecksSpec).preRow enc Tryz.prog Tryz.f3 Rows.bookChecksRow.domain false Rows.bookChecksRow.laid) (((OpenSpec.ofChange Rows.bookChecksSpec).at F).post enc Tryz.prog Tryz.f3 false true false false):=by
 obtain⟨places,hx⟩:=reads os enc;refine returnsInHanded_of_row (C:=Tryz.checked) (s:=OpenSpec.ofChange Rows.bookChecksSpec) own started (by kernel_rfl) Tryz.func3
  (witness_row_at (enc:=enc) (C:=Tryz.checked) false (laidWorld os) wargs rfl (by kernel_rfl) (by kernel_rfl) (by kernel_rfl)
   (OpenSpec.preRow_of_cond 8 hx (by kernel_rfl) (fun k hk=>by cases hk) (by kernel_rfl) (laid_met os))) ?_
 intro W base args ds gs qO hval hW _ _ _ hL _ _;exact contract H enc W base args ds gs qO hval hW hL
end Go.Proofs.YtandgamnamkkhaaGreatDoor.bookChecks
