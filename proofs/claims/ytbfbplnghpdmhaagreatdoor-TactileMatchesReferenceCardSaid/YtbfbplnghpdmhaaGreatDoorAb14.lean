/- -/
import Derived.Test.YtbfbplnghpdmhaaGreatDoorAb13
import Derived.Test.YtbfbplnghpdmhaaGreatDoorRows
set_option linter.unusedSimpArgs false
set_option linter.unusedVariables false
namespace Go.Ag
open Go.Ab Go.Proofs
set_option maxRecDepth 100000
theorem cp3:qG Tryz.prog 1 3=some f3:=by kernel_rfl
theorem cp7:qG Tryz.prog 1 7=some f7:=by kernel_rfl
theorem cp8:qG Tryz.prog 1 8=some f8:=by kernel_rfl
theorem cp9:qG Tryz.prog 1 9=some f9:=by kernel_rfl
theorem qbU:qG Tryz.prog 1 10=some Uw:=by kernel_rfl
theorem qbT:qG Tryz.prog 1 11=some So:=by kernel_rfl
theorem qbS:qG Tryz.prog 1 12=some Pz:=by kernel_rfl
theorem qbR:qG Tryz.prog 1 13=some Od:=by kernel_rfl
theorem qbQ:qG Tryz.prog 1 14=some MH:=by kernel_rfl
theorem qbP:qG Tryz.prog 1 15=some MG:=by kernel_rfl
theorem qbO:qG Tryz.prog 1 16=some Ly:=by kernel_rfl
theorem qbN:qG Tryz.prog 1 17=some Lp:=by kernel_rfl
theorem qbM:qG Tryz.prog 1 18=some Ln:=by kernel_rfl
theorem qbL:qG Tryz.prog 1 20=some MD:=by kernel_rfl
theorem qbK:qG Tryz.prog 1 21=some MC:=by kernel_rfl
theorem qbJ:qG Tryz.prog 1 24=some MB:=by kernel_rfl
theorem qbI:qG Tryz.prog 1 28=some MA:=by kernel_rfl
theorem qbH:qG Tryz.prog 1 29=some L9:=by kernel_rfl
theorem qbG:qG Tryz.prog 1 30=some eU:=by kernel_rfl
theorem qbF:qG Tryz.prog 1 31=some Io:=by kernel_rfl
theorem uP:qG Tryz.prog 1 32=some In:=by kernel_rfl
theorem qbE:qG Tryz.prog 1 33=some Ht:=by kernel_rfl
theorem qbD:qG Tryz.prog 1 34=some Hs:=by kernel_rfl
theorem qbC:qG Tryz.prog 1 35=some Hm:=by kernel_rfl
theorem qbB:qG Tryz.prog 1 36=some Hd:=by kernel_rfl
theorem qbA:qG Tryz.prog 1 37=some C8:=by kernel_rfl
theorem qbz:qG Tryz.prog 1 38=some Gz:=by kernel_rfl
theorem HY:qG Tryz.prog 1 39=some Gy:=by kernel_rfl
theorem qby:qG Tryz.prog 1 40=some Gs:=by kernel_rfl
theorem qbx:qG Tryz.prog 1 41=some Gq:=by kernel_rfl
theorem qbw:qG Tryz.prog 1 42=some Gp:=by kernel_rfl
theorem qbv:qG Tryz.prog 1 43=some Gl:=by kernel_rfl
theorem HX:qG Tryz.prog 1 44=some Gd:=by kernel_rfl
theorem qbu:qG Tryz.prog 1 45=some Fx:=by kernel_rfl
theorem qbt:qG Tryz.prog 1 46=some L8:=by kernel_rfl
theorem qbs:qG Tryz.prog 1 47=some L7:=by kernel_rfl
theorem qbr:qG Tryz.prog 1 48=some L6:=by kernel_rfl
theorem HW:qG Tryz.prog 1 49=some L5:=by kernel_rfl
theorem qbq:qG Tryz.prog 1 50=some Va:=by kernel_rfl
theorem qbp:qG Tryz.prog 1 51=some Et:=by kernel_rfl
theorem qbo:qG Tryz.prog 1 52=some L1:=by kernel_rfl
theorem qbn:qG Tryz.prog 1 53=some En:=by kernel_rfl
theorem qbm:qG Tryz.prog 1 55=some El:=by kernel_rfl
theorem qbl:qG Tryz.prog 1 56=some Ek:=by kernel_rfl
theorem qbk:qG Tryz.prog 1 57=some LY:=by kernel_rfl
theorem qbj:qG Tryz.prog 1 58=some Dz:=by kernel_rfl
theorem qbi:qG Tryz.prog 1 59=some Dy:=by kernel_rfl
theorem qbh:qG Tryz.prog 1 60=some Dx:=by kernel_rfl
theorem qbg:qG Tryz.prog 1 61=some Dq:=by kernel_rfl
theorem qbf:qG Tryz.prog 1 62=some Dg:=by kernel_rfl
theorem qbe:qG Tryz.prog 1 63=some Df:=by kernel_rfl
theorem qbd:qG Tryz.prog 1 64=some De:=by kernel_rfl
theorem qbc:qG Tryz.prog 1 65=some Dd:=by kernel_rfl
theorem qbb:qG Tryz.prog 1 66=some Dc:=by kernel_rfl
theorem qba:qG Tryz.prog 1 67=some Cz:=by kernel_rfl
theorem qa9:qG Tryz.prog 1 68=some Cy:=by kernel_rfl
theorem qa8:qG Tryz.prog 1 69=some Cm:=by kernel_rfl
theorem HV:qG Tryz.prog 1 70=some Ch:=by kernel_rfl
theorem qa7:qG Tryz.prog 1 71=some Bq:=by kernel_rfl
theorem qa6:qG Tryz.prog 1 72=some Bp:=by kernel_rfl
theorem qa5:qG Tryz.prog 1 73=some Bo:=by kernel_rfl
theorem qa4:qG Tryz.prog 1 74=some Bm:=by kernel_rfl
theorem qa3:qG Tryz.prog 1 75=some Bg:=by kernel_rfl
theorem qa2:qG Tryz.prog 1 76=some Ax:=by kernel_rfl
theorem qa1:qG Tryz.prog 1 77=some An:=by kernel_rfl
theorem qa0:qG Tryz.prog 1 78=some Am:=by kernel_rfl
theorem qaZ:qG Tryz.prog 1 79=some Ad:=by kernel_rfl
theorem qaY:qG Tryz.prog 1 80=some Ac:=by kernel_rfl
theorem qaX:qG Tryz.prog 1 81=some f81:=by kernel_rfl
theorem qaW:qG Tryz.prog 1 82=some Aa:=by kernel_rfl
theorem HU:qG Tryz.prog 1 83=some U9:=by kernel_rfl
theorem qaV:qG Tryz.prog 1 84=some C2:=by kernel_rfl
theorem qaU:qG Tryz.prog 1 85=some U1:=by kernel_rfl
theorem qaT:qG Tryz.prog 1 86=some LV:=by kernel_rfl
theorem qaS:qG Tryz.prog 1 87=some U0:=by kernel_rfl
theorem qaR:qG Tryz.prog 1 88=some UZ:=by kernel_rfl
theorem qaQ:qG Tryz.prog 1 89=some LU:=by kernel_rfl
theorem qaP:qG Tryz.prog 1 90=some UY:=by kernel_rfl
theorem qaO:qG Tryz.prog 1 91=some LT:=by kernel_rfl
theorem qaN:qG Tryz.prog 1 93=some LS:=by kernel_rfl
theorem qaM:qG Tryz.prog 1 94=some UX:=by kernel_rfl
theorem qaL:qG Tryz.prog 1 95=some UW:=by kernel_rfl
theorem qaK:qG Tryz.prog 1 96=some UV:=by kernel_rfl
theorem qaJ:qG Tryz.prog 1 97=some UU:=by kernel_rfl
theorem qaI:qG Tryz.prog 1 98=some UT:=by kernel_rfl
theorem qaH:qG Tryz.prog 1 99=some UO:=by kernel_rfl
theorem NE:qG Tryz.prog 1 100=some G5:=by kernel_rfl
theorem ND:qG Tryz.prog 1 101=some G4:=by kernel_rfl
theorem NC:qG Tryz.prog 1 102=some G3:=by kernel_rfl
theorem NB:qG Tryz.prog 1 103=some G2:=by kernel_rfl
theorem NA:qG Tryz.prog 1 104=some G1:=by kernel_rfl
theorem M9:qG Tryz.prog 1 105=some G0:=by kernel_rfl
theorem M8:qG Tryz.prog 1 106=some GZ:=by kernel_rfl
theorem uR:qG Tryz.prog 1 107=some GY:=by kernel_rfl
theorem M7:qG Tryz.prog 1 108=some GX:=by kernel_rfl
theorem M6:qG Tryz.prog 1 109=some GW:=by kernel_rfl
theorem M5:qG Tryz.prog 1 110=some f110:=by kernel_rfl
theorem qpa:qG Tryz.prog 1 111=some GV:=by kernel_rfl
theorem M4:qG Tryz.prog 1 112=some GU:=by kernel_rfl
theorem M3:qG Tryz.prog 1 113=some GT:=by kernel_rfl
theorem M2:qG Tryz.prog 1 114=some t8:=by kernel_rfl
theorem M1:qG Tryz.prog 1 116=some t7:=by kernel_rfl
theorem M0:qG Tryz.prog 1 117=some GS:=by kernel_rfl
theorem MZ:qG Tryz.prog 1 118=some GR:=by kernel_rfl
theorem uQ:qG Tryz.prog 1 119=some GQ:=by kernel_rfl
theorem MY:qG Tryz.prog 1 120=some tZ:=by kernel_rfl
theorem MX:qG Tryz.prog 1 121=some GP:=by kernel_rfl
theorem MW:qG Tryz.prog 1 122=some tY:=by kernel_rfl
theorem MV:qG Tryz.prog 1 123=some GO:=by kernel_rfl
theorem MU:qG Tryz.prog 1 124=some GN:=by kernel_rfl
theorem MT:qG Tryz.prog 1 125=some f125:=by kernel_rfl
theorem qo9:qG Tryz.prog 1 133=some GM:=by kernel_rfl
theorem qo8:qG Tryz.prog 1 134=some GL:=by kernel_rfl
theorem MS:qG Tryz.prog 1 136=some vS:=by kernel_rfl
theorem MR:qG Tryz.prog 1 137=some tX:=by kernel_rfl
theorem MQ:qG Tryz.prog 1 138=some tW:=by kernel_rfl
theorem MP:qG Tryz.prog 1 139=some GK:=by kernel_rfl
end Go.Ag

namespace Go.Ab
namespace T
variable{α:Type}
def list:T α->List (Nat × α)
 |lf=>[]
 |nd v l r=>(match v with|some x=>[(0,x)]|none=>[])++(l.list.map (fun p=>(2*p.1+1,p.2))++r.list.map (fun p=>(2*p.1+2,p.2)))
theorem mem_list:∀(t:T α) (n:Nat) (x:α),t.get n=some x->(n,x)∈t.list
 |lf,_,_,h=>by cases h
 |nd v l r,n,x,h=>by
  rw [get_nd] at h;simp only [list,List.mem_append,List.mem_map];split at h
  ·rename_i e;subst e;subst h;exact .inl (by simp)
  ·split at h
   ·exact .inr (.inl ⟨(n/2,x),mem_list l _ _ h,by simp;omega⟩)
   ·exact .inr (.inr ⟨(n/2-1,x),mem_list r _ _ h,by simp;omega⟩)
end T
theorem E4{P:Program}{G:Nat}{t:T SFn}(h:∀e∈t.list,qG P G e.1=some e.2/\qB P e.1=true):JH P G t.get:=fun f sf hf=>h (f,sf) (T.mem_list t f sf hf)
end Go.Ab

namespace Go.Ag
open Go.Ab Go.Proofs
set_option maxRecDepth 100000
theorem NW:TL.list=[(3,f3),(7,f7),(15,MG),(31,Io),(63,Df),(95,UW),(47,L7),(79,Ad),(111,GV),(39,Gy),(71,Bq),(103,G2),(55,El),(87,U0),(119,GQ),(11,So),(35,Hm),(67,Cz),(99,UO),(51,Et),(83,U9),(43,Gl),(75,Bg),(139,GK),(107,GY),(59,Dy),(91,LT),(123,GO),(9,f9),(17,Lp),(33,Ht),(65,Dd),(97,UU),(49,L5),(81,f81),(113,GT),(41,Gq),(73,Bo),(137,tX),(105,G0),(57,LY),(89,LU),(121,GP),(13,Od),(21,MC),(37,C8),(69,Cm),(133,GM),(101,G4),(53,En),(85,U1),(117,GS),(29,L9),(45,Fx),(77,An),(109,GW),(61,Dq),(93,LS),(125,f125),(8,f8),(16,Ly),(32,In),(64,De),(96,UV),(48,L6),(80,Ac),(112,GU),(24,MB),(40,Gs),(72,Bp),(136,vS),(104,G1),(56,Ek),(88,UZ),(120,tZ),(12,Pz),(20,MD),(36,Hd),(68,Cy),(100,G5),(52,L1),(84,C2),(116,t7),(28,MA),(44,Gd),(76,Ax),(108,GX),(60,Dx),(124,GN),(10,Uw),(18,Ln),(34,Hs),(66,Dc),(98,UT),(50,Va),(82,Aa),(114,t8),(42,Gp),(74,Bm),(138,tW),(106,GZ),(58,Dz),(90,UY),(122,tY),(14,MH),(38,Gz),(70,Ch),(134,GL),(102,G3),(86,LV),(118,GR),(30,eU),(46,L8),(78,Am),(110,f110),(62,Dg),(94,UX)]:=by kernel_rfl
theorem is3:qB Tryz.prog 3=true:=by kernel_rfl
theorem is7:qB Tryz.prog 7=true:=by kernel_rfl
theorem is8:qB Tryz.prog 8=true:=by kernel_rfl
theorem is9:qB Tryz.prog 9=true:=by kernel_rfl
theorem qrm:qB Tryz.prog 10=true:=by kernel_rfl
theorem qrl:qB Tryz.prog 11=true:=by kernel_rfl
theorem qrk:qB Tryz.prog 12=true:=by kernel_rfl
theorem qrj:qB Tryz.prog 13=true:=by kernel_rfl
theorem qri:qB Tryz.prog 14=true:=by kernel_rfl
theorem qrh:qB Tryz.prog 15=true:=by kernel_rfl
theorem qrg:qB Tryz.prog 16=true:=by kernel_rfl
theorem qrf:qB Tryz.prog 17=true:=by kernel_rfl
theorem qre:qB Tryz.prog 18=true:=by kernel_rfl
theorem qrd:qB Tryz.prog 20=true:=by kernel_rfl
theorem qrc:qB Tryz.prog 21=true:=by kernel_rfl
theorem qrb:qB Tryz.prog 24=true:=by kernel_rfl
theorem qra:qB Tryz.prog 28=true:=by kernel_rfl
theorem qq9:qB Tryz.prog 29=true:=by kernel_rfl
theorem qq8:qB Tryz.prog 30=true:=by kernel_rfl
theorem ZM:qB Tryz.prog 31=true:=by kernel_rfl
theorem qq7:qB Tryz.prog 32=true:=by kernel_rfl
theorem ZL:qB Tryz.prog 33=true:=by kernel_rfl
theorem qq6:qB Tryz.prog 34=true:=by kernel_rfl
theorem qq5:qB Tryz.prog 35=true:=by kernel_rfl
theorem qq4:qB Tryz.prog 36=true:=by kernel_rfl
theorem qq3:qB Tryz.prog 37=true:=by kernel_rfl
theorem qq2:qB Tryz.prog 38=true:=by kernel_rfl
theorem qq1:qB Tryz.prog 39=true:=by kernel_rfl
theorem qq0:qB Tryz.prog 40=true:=by kernel_rfl
theorem qqZ:qB Tryz.prog 41=true:=by kernel_rfl
theorem qqY:qB Tryz.prog 42=true:=by kernel_rfl
theorem qqX:qB Tryz.prog 43=true:=by kernel_rfl
theorem qqW:qB Tryz.prog 44=true:=by kernel_rfl
theorem qqV:qB Tryz.prog 45=true:=by kernel_rfl
theorem qqU:qB Tryz.prog 46=true:=by kernel_rfl
theorem qqT:qB Tryz.prog 47=true:=by kernel_rfl
theorem qqS:qB Tryz.prog 48=true:=by kernel_rfl
theorem qqR:qB Tryz.prog 49=true:=by kernel_rfl
theorem qqQ:qB Tryz.prog 50=true:=by kernel_rfl
theorem qqP:qB Tryz.prog 51=true:=by kernel_rfl
theorem qqO:qB Tryz.prog 52=true:=by kernel_rfl
theorem qqN:qB Tryz.prog 53=true:=by kernel_rfl
theorem qqM:qB Tryz.prog 55=true:=by kernel_rfl
theorem qqL:qB Tryz.prog 56=true:=by kernel_rfl
theorem qqK:qB Tryz.prog 57=true:=by kernel_rfl
theorem qqJ:qB Tryz.prog 58=true:=by kernel_rfl
theorem qqI:qB Tryz.prog 59=true:=by kernel_rfl
theorem qqH:qB Tryz.prog 60=true:=by kernel_rfl
theorem qqG:qB Tryz.prog 61=true:=by kernel_rfl
theorem qqF:qB Tryz.prog 62=true:=by kernel_rfl
theorem qqE:qB Tryz.prog 63=true:=by kernel_rfl
theorem qqD:qB Tryz.prog 64=true:=by kernel_rfl
theorem qqC:qB Tryz.prog 65=true:=by kernel_rfl
theorem qqB:qB Tryz.prog 66=true:=by kernel_rfl
theorem qqA:qB Tryz.prog 67=true:=by kernel_rfl
theorem qqz:qB Tryz.prog 68=true:=by kernel_rfl
theorem qqy:qB Tryz.prog 69=true:=by kernel_rfl
theorem F8:qB Tryz.prog 70=true:=by kernel_rfl
theorem qqx:qB Tryz.prog 71=true:=by kernel_rfl
theorem qqw:qB Tryz.prog 72=true:=by kernel_rfl
theorem qqv:qB Tryz.prog 73=true:=by kernel_rfl
theorem qqu:qB Tryz.prog 74=true:=by kernel_rfl
theorem qqt:qB Tryz.prog 75=true:=by kernel_rfl
theorem qqs:qB Tryz.prog 76=true:=by kernel_rfl
theorem qqr:qB Tryz.prog 77=true:=by kernel_rfl
theorem qqq:qB Tryz.prog 78=true:=by kernel_rfl
theorem qqp:qB Tryz.prog 79=true:=by kernel_rfl
theorem qqo:qB Tryz.prog 80=true:=by kernel_rfl
theorem qqn:qB Tryz.prog 81=true:=by kernel_rfl
theorem qqm:qB Tryz.prog 82=true:=by kernel_rfl
theorem qql:qB Tryz.prog 83=true:=by kernel_rfl
theorem F7:qB Tryz.prog 84=true:=by kernel_rfl
theorem qqk:qB Tryz.prog 85=true:=by kernel_rfl
theorem qqj:qB Tryz.prog 86=true:=by kernel_rfl
theorem qqi:qB Tryz.prog 87=true:=by kernel_rfl
theorem qqh:qB Tryz.prog 88=true:=by kernel_rfl
theorem qqg:qB Tryz.prog 89=true:=by kernel_rfl
theorem qqf:qB Tryz.prog 90=true:=by kernel_rfl
theorem qqe:qB Tryz.prog 91=true:=by kernel_rfl
theorem qqd:qB Tryz.prog 93=true:=by kernel_rfl
theorem qqc:qB Tryz.prog 94=true:=by kernel_rfl
theorem qqb:qB Tryz.prog 95=true:=by kernel_rfl
theorem qqa:qB Tryz.prog 96=true:=by kernel_rfl
theorem qp9:qB Tryz.prog 97=true:=by kernel_rfl
theorem qp8:qB Tryz.prog 98=true:=by kernel_rfl
theorem qp7:qB Tryz.prog 99=true:=by kernel_rfl
theorem qcM:qB Tryz.prog 100=true:=by kernel_rfl
theorem qcL:qB Tryz.prog 101=true:=by kernel_rfl
theorem qcK:qB Tryz.prog 102=true:=by kernel_rfl
theorem qcJ:qB Tryz.prog 103=true:=by kernel_rfl
theorem qcI:qB Tryz.prog 104=true:=by kernel_rfl
theorem qcH:qB Tryz.prog 105=true:=by kernel_rfl
theorem qcG:qB Tryz.prog 106=true:=by kernel_rfl
theorem qcF:qB Tryz.prog 107=true:=by kernel_rfl
theorem qcE:qB Tryz.prog 108=true:=by kernel_rfl
theorem qcD:qB Tryz.prog 109=true:=by kernel_rfl
theorem qcC:qB Tryz.prog 110=true:=by kernel_rfl
theorem qcB:qB Tryz.prog 111=true:=by kernel_rfl
theorem qcA:qB Tryz.prog 112=true:=by kernel_rfl
theorem qcz:qB Tryz.prog 113=true:=by kernel_rfl
theorem qcy:qB Tryz.prog 114=true:=by kernel_rfl
theorem qcx:qB Tryz.prog 116=true:=by kernel_rfl
theorem qcw:qB Tryz.prog 117=true:=by kernel_rfl
theorem qcv:qB Tryz.prog 118=true:=by kernel_rfl
theorem qcu:qB Tryz.prog 119=true:=by kernel_rfl
theorem qct:qB Tryz.prog 120=true:=by kernel_rfl
theorem qcs:qB Tryz.prog 121=true:=by kernel_rfl
theorem qcr:qB Tryz.prog 122=true:=by kernel_rfl
theorem qcq:qB Tryz.prog 123=true:=by kernel_rfl
theorem qcp:qB Tryz.prog 124=true:=by kernel_rfl
theorem qco:qB Tryz.prog 125=true:=by kernel_rfl
theorem qcn:qB Tryz.prog 133=true:=by kernel_rfl
theorem qcm:qB Tryz.prog 134=true:=by kernel_rfl
theorem qcl:qB Tryz.prog 136=true:=by kernel_rfl
theorem qck:qB Tryz.prog 137=true:=by kernel_rfl
theorem qcj:qB Tryz.prog 138=true:=by kernel_rfl
theorem qci:qB Tryz.prog 139=true:=by kernel_rfl
theorem qcb:JH Tryz.prog 1 TL.get:=by
 refine E4 ?_;rw [NW];refine zfm ⟨⟨cp3,is3⟩,?_⟩;refine zfm ⟨⟨cp7,is7⟩,?_⟩;refine zfm ⟨⟨qbP,qrh⟩,?_⟩;refine zfm ⟨⟨qbF,ZM⟩,?_⟩;refine zfm ⟨⟨qbe,qqE⟩,?_⟩;refine zfm ⟨⟨qaL,qqb⟩,?_⟩;refine zfm ⟨⟨qbs,qqT⟩,?_⟩;refine zfm ⟨⟨qaZ,qqp⟩,?_⟩;refine zfm ⟨⟨qpa,qcB⟩,?_⟩;refine zfm ⟨⟨HY,qq1⟩,?_⟩;refine zfm ⟨⟨qa7,qqx⟩,?_⟩;refine zfm ⟨⟨NB,qcJ⟩,?_⟩;refine zfm ⟨⟨qbm,qqM⟩,?_⟩;refine zfm ⟨⟨qaS,qqi⟩,?_⟩;refine zfm ⟨⟨uQ,qcu⟩,?_⟩;refine zfm ⟨⟨qbT,qrl⟩,?_⟩;refine zfm ⟨⟨qbC,qq5⟩,?_⟩;refine zfm ⟨⟨qba,qqA⟩,?_⟩;refine zfm ⟨⟨qaH,qp7⟩,?_⟩;refine zfm ⟨⟨qbp,qqP⟩,?_⟩;refine zfm ⟨⟨HU,qql⟩,?_⟩;refine zfm ⟨⟨qbv,qqX⟩,?_⟩;refine zfm ⟨⟨qa3,qqt⟩,?_⟩;refine zfm ⟨⟨MP,qci⟩,?_⟩;refine zfm ⟨⟨uR,qcF⟩,?_⟩;refine zfm ⟨⟨qbi,qqI⟩,?_⟩;refine zfm ⟨⟨qaO,qqe⟩,?_⟩;refine zfm ⟨⟨MV,qcq⟩,?_⟩;refine zfm ⟨⟨cp9,is9⟩,?_⟩;refine zfm ⟨⟨qbN,qrf⟩,?_⟩;refine zfm ⟨⟨qbE,ZL⟩,?_⟩;refine zfm ⟨⟨qbc,qqC⟩,?_⟩;refine zfm ⟨⟨qaJ,qp9⟩,?_⟩;refine zfm ⟨⟨HW,qqR⟩,?_⟩;refine zfm ⟨⟨qaX,qqn⟩,?_⟩;refine zfm ⟨⟨M3,qcz⟩,?_⟩;refine zfm ⟨⟨qbx,qqZ⟩,?_⟩;refine zfm ⟨⟨qa5,qqv⟩,?_⟩;refine zfm ⟨⟨MR,qck⟩,?_⟩;refine zfm ⟨⟨M9,qcH⟩,?_⟩;refine zfm ⟨⟨qbk,qqK⟩,?_⟩;refine zfm ⟨⟨qaQ,qqg⟩,?_⟩;refine zfm ⟨⟨MX,qcs⟩,?_⟩;refine zfm ⟨⟨qbR,qrj⟩,?_⟩;refine zfm ⟨⟨qbK,qrc⟩,?_⟩;refine zfm ⟨⟨qbA,qq3⟩,?_⟩;refine zfm ⟨⟨qa8,qqy⟩,?_⟩;refine zfm ⟨⟨qo9,qcn⟩,?_⟩;refine zfm ⟨⟨ND,qcL⟩,?_⟩;refine zfm ⟨⟨qbn,qqN⟩,?_⟩;refine zfm ⟨⟨qaU,qqk⟩,?_⟩;refine zfm ⟨⟨M0,qcw⟩,?_⟩;refine zfm ⟨⟨qbH,qq9⟩,?_⟩;refine zfm ⟨⟨qbu,qqV⟩,?_⟩;refine zfm ⟨⟨qa1,qqr⟩,?_⟩;refine zfm ⟨⟨M6,qcD⟩,?_⟩;refine zfm ⟨⟨qbg,qqG⟩,?_⟩;refine zfm ⟨⟨qaN,qqd⟩,?_⟩;refine zfm ⟨⟨MT,qco⟩,?_⟩;refine zfm ⟨⟨cp8,is8⟩,?_⟩;refine zfm ⟨⟨qbO,qrg⟩,?_⟩
 refine zfm ⟨⟨uP,qq7⟩,?_⟩;refine zfm ⟨⟨qbd,qqD⟩,?_⟩;refine zfm ⟨⟨qaK,qqa⟩,?_⟩;refine zfm ⟨⟨qbr,qqS⟩,?_⟩;refine zfm ⟨⟨qaY,qqo⟩,?_⟩;refine zfm ⟨⟨M4,qcA⟩,?_⟩;refine zfm ⟨⟨qbJ,qrb⟩,?_⟩;refine zfm ⟨⟨qby,qq0⟩,?_⟩;refine zfm ⟨⟨qa6,qqw⟩,?_⟩;refine zfm ⟨⟨MS,qcl⟩,?_⟩;refine zfm ⟨⟨NA,qcI⟩,?_⟩;refine zfm ⟨⟨qbl,qqL⟩,?_⟩;refine zfm ⟨⟨qaR,qqh⟩,?_⟩;refine zfm ⟨⟨MY,qct⟩,?_⟩;refine zfm ⟨⟨qbS,qrk⟩,?_⟩;refine zfm ⟨⟨qbL,qrd⟩,?_⟩;refine zfm ⟨⟨qbB,qq4⟩,?_⟩;refine zfm ⟨⟨qa9,qqz⟩,?_⟩;refine zfm ⟨⟨NE,qcM⟩,?_⟩;refine zfm ⟨⟨qbo,qqO⟩,?_⟩;refine zfm ⟨⟨qaV,F7⟩,?_⟩;refine zfm ⟨⟨M1,qcx⟩,?_⟩;refine zfm ⟨⟨qbI,qra⟩,?_⟩;refine zfm ⟨⟨HX,qqW⟩,?_⟩;refine zfm ⟨⟨qa2,qqs⟩,?_⟩;refine zfm ⟨⟨M7,qcE⟩,?_⟩;refine zfm ⟨⟨qbh,qqH⟩,?_⟩;refine zfm ⟨⟨MU,qcp⟩,?_⟩;refine zfm ⟨⟨qbU,qrm⟩,?_⟩;refine zfm ⟨⟨qbM,qre⟩,?_⟩;refine zfm ⟨⟨qbD,qq6⟩,?_⟩;refine zfm ⟨⟨qbb,qqB⟩,?_⟩;refine zfm ⟨⟨qaI,qp8⟩,?_⟩;refine zfm ⟨⟨qbq,qqQ⟩,?_⟩;refine zfm ⟨⟨qaW,qqm⟩,?_⟩;refine zfm ⟨⟨M2,qcy⟩,?_⟩;refine zfm ⟨⟨qbw,qqY⟩,?_⟩;refine zfm ⟨⟨qa4,qqu⟩,?_⟩;refine zfm ⟨⟨MQ,qcj⟩,?_⟩;refine zfm ⟨⟨M8,qcG⟩,?_⟩;refine zfm ⟨⟨qbj,qqJ⟩,?_⟩;refine zfm ⟨⟨qaP,qqf⟩,?_⟩;refine zfm ⟨⟨MW,qcr⟩,?_⟩;refine zfm ⟨⟨qbQ,qri⟩,?_⟩;refine zfm ⟨⟨qbz,qq2⟩,?_⟩;refine zfm ⟨⟨HV,F8⟩,?_⟩;refine zfm ⟨⟨qo8,qcm⟩,?_⟩;refine zfm ⟨⟨NC,qcK⟩,?_⟩;refine zfm ⟨⟨qaT,qqj⟩,?_⟩;refine zfm ⟨⟨MZ,qcv⟩,?_⟩;refine zfm ⟨⟨qbG,qq8⟩,?_⟩;refine zfm ⟨⟨qbt,qqU⟩,?_⟩;refine zfm ⟨⟨qa0,qqq⟩,?_⟩;refine zfm ⟨⟨M5,qcC⟩,?_⟩;refine zfm ⟨⟨qbf,qqF⟩,?_⟩;refine zfm ⟨⟨qaM,qqc⟩,?_⟩;intro x hx;cases hx
end Go.Ag

namespace Go.Ab
section
variable{G:Nat}{μ μ0:Nat->Pl}{K K0:Nat->Prop}{Ĥ:Hp}{w:World}{Z:Nat->Prop}
end
section
variable{P:Program}{G:Nat}{GH:Hp}{tb:Nat->Option SFn}
end
def rY(E:qp)(d:Nat):Option Opd->Option Nat
 |none=>some d
 |some x=>match ro E x with
  |some (.one (.f (.c (.int _ (.ofNat i)))))=>some i
  |_=>none
section
variable{p:Par}{base rs:Nat}{Q:qp->Bx->Nat->Prop}{r:List SOper}{W:Wt}{A:List Nat}{E:qp}{S:Bx}{nk:Nat}{id:Nat}{dst:Option Nat}{aid:Option Nat}{ws:List Nat}{keep:Bool}
theorem X2{Z:Nat->Prop}{β:qw}{H:Hp}{F:T V}(hE:ER Z β H E F){d i y:Nat}{x:Option Opd}(h:rY E d x=some i)(hy:i<=y):xu F d y x=some i:=by
 cases x with
 |none=>obtain rfl:=zsi h;simp only [xu,if_pos hy]
 |some x=>
  simp only [rY] at h;split at h
  ·rename_i hx;obtain rfl:=zsi h;simp only [xu,zS hE hx];rw [if_pos ⟨Int.natCast_nonneg _,Int.ofNat_le.2 hy⟩];rfl
  ·cases h
theorem YT{esz:Nat}{x:Opd}{lo hi:Option Opd}{k o n l h o' n':Nat}(hx:ro E x=some (.one (.own k o n esz)))(hlo:rY E 0 lo=some l)(hhi:rY E n hi=some h)(h1:l<=h)(h2:h<=n)(ho:o+l*esz=o')(hn:h-l=n')(hd:DPW p base rs Q r W A (xn E dst (.one (.own k o' n' esz))) S nk):DPW p base rs Q (⟨id,dst,.p (.slice esz x lo hi none),none,aid,ws,keep⟩::r) W A E S nk:=by
 subst ho;subst hn;refine Q1 (fun {Z β H F} hE=>?_) hd;obtain⟨c,hc,hr⟩:=xg hE hx;rcases hr with⟨g1,rfl,rfl,rfl⟩|⟨b,N,cap,ex,g1,rfl,g2,g3⟩
 ·have e1:h=0:=by omega
  have e2:l=0:=by omega
  subst e1;subst e2;refine⟨.one .nils,?_,_,rfl,.inl ⟨g1,rfl,by simp,rfl⟩⟩;simp only [qy,hc,jx,X2 hE hlo (Nat.le_refl 0),X2 hE hhi (Nat.le_refl 0)];rfl
 ·refine⟨.one (.slc b (o+l*esz) (h-l) (cap-l) esz ex),?_,_,rfl,.inr ⟨b,N,cap-l,ex,g1,rfl,oM,?_⟩⟩
  ·have hm:xu F cap cap none=some cap:=by simp [xu]
   simp only [qy,hc,jx];rw [if_neg (by simp),hm];simp only [X2 hE hhi (show h<=cap by omega),X2 hE hlo h1];simp
  ·have:(cap-l)*esz+l*esz=cap*esz:=by rw [<-Nat.add_mul];congr 1;omega
   omega
theorem qad{esz:Nat}{x:Opd}{lo hi:Option Opd}{n l h n':Nat}{m q:List FD}(hx:ro E x=some (.one (.f (.sl esz n m))))(hlo:rY E 0 lo=some l)(hhi:rY E n hi=some h)(h1:l<=h)(h2:h<=n)(hn:h-l=n')(hq:xN m (l*esz) (n'*esz)=some q)(hd:DPW p base rs Q r W A (xn E dst (.one (.f (.sl esz n' q)))) S nk):DPW p base rs Q (⟨id,dst,.p (.slice esz x lo hi none),none,aid,ws,keep⟩::r) W A E S nk:=by
 subst hn;refine Q1 (fun {Z β H F} hE=>?_) hd;obtain⟨c,hc,hr⟩:=xg hE hx;obtain⟨hle,hqe⟩:=zW hq;cases hr with
 |nil=>
  have e1:h=0:=by omega
  have e2:l=0:=by omega
  subst e1;subst e2;obtain rfl:q=[]:=by rw [hqe];simp
  refine⟨.one .nils,?_,_,rfl,.nil esz⟩;simp only [qy,hc,jx,X2 hE hlo (Nat.le_refl 0),X2 hE hhi (Nat.le_refl 0)];rfl
 |sl hz hl hcap hld hel=>
  rename_i b o cap ex cs;have hlen:m.length=cs.length:=by rw [hl,jn hld]
  refine⟨.one (.slc b (o+l*esz) (h-l) (cap-l) esz ex),?_,_,rfl,.sl (cs:=(cs.drop (l*esz)).take ((h-l)*esz)) (fun h0=>hz ?_) ?_ oM (kY hld oM) fun i d c hd hc=>?_⟩
  ·have hm:xu F cap cap none=some cap:=by simp [xu]
   simp only [qy,hc,jx];rw [if_neg (by simp),hm];simp only [X2 hE hhi (show h<=cap by omega),X2 hE hlo h1];simp
  ·have:(h-l)*esz<=n*esz:=Nat.mul_le_mul_right _ oM;omega
  ·rw [hqe,List.length_take,List.length_drop];omega
  ·rw [hqe] at hd;have ha:=((qg.mk hlen hel).drop (l*esz)).take ((h-l)*esz);obtain⟨c',hc',hr'⟩:=ha.at i d hd;rw [hc] at hc';obtain rfl:=zsi hc';exact hr'
end
def jJ(β:qw)(k:Nat)(σ:Nat->Option Slot):qw:=fun κ=>if κ.1=k then σ κ.2 else β κ
theorem zk(β:qw)(k i:Nat)(σ:Nat->Option Slot):jJ β k σ (k,i)=σ i:=by simp [jJ]
theorem vo(β:qw){k:Nat}{κ:zF}(σ:Nat->Option Slot)(h:κ.1≠k):jJ β k σ κ=β κ:=by simp [jJ,h]
def iC(k j:Nat):DC->DC
 |.ptr a o=>match Nat.beq a k with
  |true=>.ptr j o
  |false=>.ptr a o
 |.own a o n e=>match Nat.beq a k with
  |true=>.own j o n e
  |false=>.own a o n e
 |d=>d
def rtV(k j:Nat):DV->DV
 |.one d=>.one (iC k j d)
 |.agg l=>.agg (l.map (iC k j))
 |.tup l=>.tup l
def Wf(k j:Nat):Bk->Bk
 |.cells l=>.cells (l.map (iC k j))
 |.data l=>.data l
 |.tree l=>.tree l
 |.mp ks l=>.mp ks l
 |.mt es=>.mt es
section
variable{p:Par}{Z:Nat->Prop}{β:qw}{H H':Hp}{S S0:Bx}{nk:Nat}
theorem SR.bleT(h:SR p Z β H S nk)(σ:Nat->Option Slot):xP β (jJ β nk σ):=fun κ t hk=>by
 have:=h.lt1 hk;rw [vo _ _ (by omega)];exact hk
theorem SR.tree (h:SR p Z β H S nk) (hS0:∀k x,lk S0 k=some x->∃y,lk S k=some y) (hS1:∀κ x,qR S0 κ=some x->∃s,β κ=some s/\jd p Z H β x s) {rows:List (List FD)} {σ:Nat->Option Slot} (hnx:H.nx<=H'.nx) (hw:WF H')
 (hg:∀b,(Z b\/∃κ x N,qR S0 κ=some x/\β κ=some (.blk b N))->H'.get b=H.get b)
 (hlt:∀i b N,σ i=some (.blk b N)->b<H'.nx)
 (hlo:∀i b N,σ i=some (.blk b N)->p.lo<=b)
 (hinj:∀i j b N N',σ i=some (.blk b N)->σ j=some (.blk b N')->i=j)
 (hdis:∀i b N (κ:zF) x M,σ i=some (.blk b N)->lk S0 κ.1=some x->β κ≠some (.blk b M))
 (hbox0:∃s,σ 0=some s/\jd p Z H' (jJ β nk σ) (.cells (zh nk 0 rows)) s)
 (hbox:∀i r,rows[i]?=some r->∃s,σ (i+1)=some s/\jd p Z H' (jJ β nk σ) (.data r) s):
 SR p Z (jJ β nk σ) H' ((nk,.tree rows)::S0) (nk+1)/\xo Z H Z H'/\xP β (jJ β nk σ):=by
 have hB:=h.bleT σ;have hzg:∀b',Z b'->H'.get b'=H.get b':=fun b' hb'=>hg b' (.inl hb');have hZ:xo Z H Z H':=xo.of_get (fun _ h=>h) hzg;refine⟨⟨hw,Nat.le_trans h.lo hnx,fun b' hb'=>Nat.lt_of_lt_of_le (h.z b' hb') hnx,h.zlo,h.zz,fun b' bk hb'=>?_,fun κ hκ=>?_,fun κ b' N hκ=>?_,fun κ y hκ=>?_,fun κ κ' y y' b' N N' hj hj' hs hs'=>?_,fun κ b' N hκ=>?_,fun κ hκ h0=>by rw [vo _ _ (by have:=h.ancn;omega)];exact h.anch κ hκ h0,Nat.le_succ_of_le h.ancn⟩,hZ,hB⟩
 ·obtain⟨h1,h2⟩:=h.glob b' bk hb';exact⟨h1,by rw [hzg b' h1];exact h2⟩
 ·rw [vo _ _ (by omega)];exact h.nk κ (by omega)
 ·by_cases e:κ.1=nk
  ·simp only [jJ,if_pos e] at hκ;exact hlt _ _ _ hκ
  ·rw [vo _ _ e] at hκ;exact Nat.lt_of_lt_of_le (h.bd κ b' N hκ) hnx
 ·obtain⟨j,i⟩:=κ;by_cases e:j=nk
  ·subst e;have hl:lk ((j,.tree rows)::S0) j=some (.tree rows):=by rw [qT,if_pos rfl]
   cases i with
   |zero=>
    simp only [qR,hl] at hκ;obtain rfl:=zsi hκ;obtain⟨s,h1,h2⟩:=hbox0;exact⟨s,by rw [zk];exact h1,h2⟩
   |succ i=>
    simp only [qR,hl] at hκ;cases hr:rows[i]? with
    |none=>rw [hr] at hκ;cases hκ
    |some r=>
     rw [hr] at hκ;obtain rfl:=zsi hκ;obtain⟨s,h1,h2⟩:=hbox i r hr;exact⟨s,by rw [zk];exact h1,h2⟩
  ·have hκ':qR S0 (j,i)=some y:=by
    rw [<-hκ];exact ya (by rw [qT,if_neg (fun h=>e h.symm)])
   obtain⟨s,hs,hbx⟩:=hS1 (j,i) y hκ';refine⟨s,hB _ s hs,hbx.mono hB hnx fun b' hb'=>?_⟩;rcases hb' with hb'|⟨N,rfl⟩
   ·exact hzg b' hb'
   ·exact hg b' (.inr ⟨(j,i),y,N,hκ',hs⟩)
 ·obtain⟨j,i⟩:=κ;obtain⟨j',i'⟩:=κ';simp only at hj hj';by_cases e1:j=nk
  ·subst e1;rw [zk] at hs;by_cases e2:j'=j
   ·subst e2;rw [zk] at hs';rw [hinj i i' b' N N' hs hs']
   ·rw [vo _ _ e2] at hs';rw [qT,if_neg (fun h=>e2 h.symm)] at hj';exact absurd hs' (hdis i b' N (j',i') y' N' hs hj')
  ·rw [vo _ _ e1] at hs;rw [qT,if_neg (fun h=>e1 h.symm)] at hj;by_cases e2:j'=nk
   ·subst e2;rw [zk] at hs';exact absurd hs (hdis i' b' N' (j,i) y N hs' hj)
   ·rw [vo _ _ e2] at hs';rw [qT,if_neg (fun h=>e2 h.symm)] at hj';obtain⟨z1,g1⟩:=hS0 j y hj;obtain⟨z2,g2⟩:=hS0 j' y' hj';exact h.inj _ _ z1 z2 b' N N' g1 g2 hs hs'
 ·by_cases e:κ.1=nk
  ·simp only [jJ,if_pos e] at hκ;exact hlo _ _ _ hκ
  ·rw [vo _ _ e] at hκ;exact h.blo κ b' N hκ
theorem BJ{k:Nat}{σ:Nat->Option Slot}(h:SR p Z β H S nk)(h0:σ 0=β (k,0))(hZ:xo Z H Z H'){d:DC}{c:C}(hr:RD Z H β d c):RD Z H' (jJ β nk σ) (iC k nk d) c:=by
 have hB:=h.bleT σ;cases d with
 |ptr a o=>
  simp only [iC];by_cases e:a=k
  ·subst e;rw [jS];obtain⟨b,N,h1,h2⟩:=hr;exact⟨b,N,by rw [zk,h0];exact h1,h2⟩
  ·rw [jv e];exact hr.mono hZ hB
 |own a o n e'=>
  simp only [iC];by_cases e:a=k
  ·subst e;rw [jS];rcases hr with⟨h1,h2⟩|⟨b,N,cap,ex,h1,h2⟩
   ·exact .inl ⟨by rw [zk,h0];exact h1,h2⟩
   ·exact .inr ⟨b,N,cap,ex,by rw [zk,h0];exact h1,h2⟩
  ·rw [jv e];exact hr.mono hZ hB
 |f d=>exact RD.mono (d:=.f d) hZ hB hr
 |g b o=>exact hr
 |fptr l=>exact RD.mono (d:=.fptr l) hZ hB hr
 |fn f l=>exact RD.mono (d:=.fn f l) hZ hB hr
 |any=>trivial
 |om a=>exact RD.mono (d:=.om a) hZ (h.bleT σ) hr
 |yl a=>exact RD.mono (d:=.yl a) hZ (h.bleT σ) hr
 |fz f ls=>exact RD.mono (d:=.fz f ls) hZ hB hr
 |trow a i o n=>exact RD.mono (d:=.trow a i o n) hZ hB hr
 |tptr a i o=>exact RD.mono (d:=.tptr a i o) hZ hB hr
theorem iB{k:Nat}{σ:Nat->Option Slot}(h:SR p Z β H S nk)(h0:σ 0=β (k,0))(hZ:xo Z H Z H'):∀{l:List DC} {cs:List C},qg (RD Z H β) l cs->qg (RD Z H' (jJ β nk σ)) (l.map (iC k nk)) cs
 |[],[],_=>trivial
 |_::_,_::_,hr=>⟨BJ h h0 hZ hr.1,iB h h0 hZ hr.2⟩
 |[],_::_,hr=>hr.elim
 |_::_,[],hr=>hr.elim
theorem TX{k:Nat}{σ:Nat->Option Slot}{E:qp}{F:T V}(h:SR p Z β H S nk)(h0:σ 0=β (k,0))(hZ:xo Z H Z H')(hE:ER Z β H E F):ER Z (jJ β nk σ) H' (yB (rtV k nk) E) F:=fun n d hd=>by
 rw [wL] at hd;cases hl:lk E n with
 |none=>rw [hl] at hd;cases hd
 |some y=>
  rw [hl] at hd;obtain rfl:=zsi hd;obtain⟨v,hv,hr⟩:=hE n y hl;refine⟨v,hv,?_⟩;cases y with
  |one d=>obtain⟨c,rfl,hr⟩:=hr;exact⟨c,rfl,BJ h h0 hZ hr⟩
  |agg m=>obtain⟨c,rfl,hr⟩:=hr;exact⟨c,rfl,iB h h0 hZ hr⟩
  |tup m=>exact xG.mono (d:=.tup m) hZ (h.bleT σ) hr
theorem UE{k j:Nat}{S:Bx}{κ:zF}{y:Bk}(hy:qR (yB (Wf k j) S) κ=some y):∃x,qR S κ=some x/\(y=Wf k j x\/y=x):=by
 obtain⟨z,hz⟩:=yG hy;rw [wL] at hz;cases hl:lk S κ.1 with
 |none=>rw [hl] at hz;cases hz
 |some x=>
  have hlk:lk (yB (Wf k j) S) κ.1=some (Wf k j x):=by rw [wL,hl];rfl
  obtain⟨a,i⟩:=κ;simp only at hl hlk;cases i with
  |zero=>
   simp only [qR,hl];simp only [qR,hlk] at hy;cases x with
   |cells m=>exact⟨_,rfl,.inl (zsi hy).symm⟩
   |data m=>exact⟨_,rfl,.inl (zsi hy).symm⟩
   |tree rows=>exact⟨_,rfl,.inr (zsi hy).symm⟩
   |mp ks l=>exact⟨_,rfl,.inr (zsi hy).symm⟩
   |mt es=>exact⟨_,rfl,.inr (zsi hy).symm⟩
  |succ i=>
   simp only [qR,hl];simp only [qR,hlk] at hy;cases x with
   |cells m=>cases hy
   |data m=>cases hy
   |tree rows=>
    cases hr:rows[i]? with
    |none=>simp only [Wf,hr] at hy;cases hy
    |some r=>simp only [Wf,hr] at hy;exact⟨.data r,by simp only [hr];rfl,.inr (zsi hy).symm⟩
   |mp ks l=>cases hy
   |mt es=>exact⟨_,hy,.inr rfl⟩
theorem SR.rtS{k:Nat}{σ:Nat->Option Slot}{rows:List (List FD)}(h:SR p Z β H S nk)(h0:σ 0=β (k,0))(hZ:xo Z H Z H')(hS0:∀κ x,qR S0 κ=some x->qR S κ=some x)(hne:∀κ x,qR S0 κ=some x->κ.1≠nk)(hT:SR p Z (jJ β nk σ) H' ((nk,.tree rows)::S0) (nk+1))(hg:∀b,(∃κ x N,qR S0 κ=some x/\β κ=some (.blk b N))->H'.get b=H.get b)(hnx:H.nx<=H'.nx):SR p Z (jJ β nk σ) H' ((nk,.tree rows)::yB (Wf k nk) S0) (nk+1):=by
 refine⟨hT.wf,hT.lo,hT.z,hT.zlo,hT.zz,hT.glob,hT.nk,hT.bd,fun κ y hκ=>?_,fun κ κ' y y' b N N' hj hj' hs hs'=>?_,hT.blo,hT.anch,hT.ancn⟩
 ·by_cases e:κ.1=nk
  ·refine hT.box κ y ?_;rw [<-hκ];exact ya (by rw [qT,qT,if_pos e.symm,if_pos e.symm])
  ·have hκ':qR (yB (Wf k nk) S0) κ=some y:=by
    rw [<-hκ];exact ya (by rw [qT,if_neg (fun h=>e h.symm)])
   obtain⟨x,hx,hyx⟩:=UE hκ';have hxT:qR ((nk,.tree rows)::S0) κ=some x:=by
    rw [<-hx];exact ya (by rw [qT,if_neg (fun h=>e h.symm)])
   obtain⟨s,hs,hbx⟩:=hT.box κ x hxT;rcases hyx with rfl|rfl
   ·refine⟨s,hs,?_⟩;cases s with
    |nil=>cases x<;>simpa [jd,Wf,Bk.len] using hbx
    |blk b N=>
     cases x with
     |cells m=>
      obtain⟨s0,hs0,hb0⟩:=h.box κ _ (hS0 κ _ hx);have:=h.bleT σ κ s0 hs0;rw [hs] at this;obtain rfl:=zsi this;obtain⟨g1,g2,g3,cs,rest,g4,g5,g6⟩:=hb0;exact⟨g1,g2,oM,cs,rest,g4.same (hg b ⟨κ,_,N,hx,hs0⟩),g5,iB h h0 hZ g6⟩
     |data m=>exact hbx
     |tree m=>exact hbx
     |mp ks l=>exact hbx
     |mt es=>exact hbx
   ·exact⟨s,hs,hbx⟩
 ·have f:∀a w,lk ((nk,.tree rows)::yB (Wf k nk) S0) a=some w->∃w',lk ((nk,.tree rows)::S0) a=some w':=fun a w hw=>by
   rw [qT] at hw ⊢;split at hw
   ·rename_i e;exact⟨_,by rw [if_pos e]⟩
   ·rename_i e;rw [wL] at hw;cases hl:lk S0 a with
    |none=>rw [hl] at hw;cases hw
    |some q=>exact⟨q,by rw [if_neg e]⟩
  obtain⟨z1,e1⟩:=f _ y hj;obtain⟨z2,e2⟩:=f _ y' hj';exact hT.inj κ κ' z1 z2 b N N' e1 e2 hs hs'
end
theorem d2(k:Nat):∀(i:Nat) (rows:List (List FD)) (j:Nat) (r r':List FD),rows[j]?=some r->r'.length=r.length->zh k i (rows.set j r')=zh k i rows
 |_,[],_,_,_,h,_=>by simp at h
 |i,q::rs,0,r,r',h,hl=>by simp at h;subst h;simp [zh,hl]
 |i,q::rs,j+1,r,r',h,hl=>by
  simp only [List.set_cons_succ,zh];rw [d2 k (i+1) rs j r r' (by simpa using h) hl]
theorem Wg{Z:Nat->Prop}{H H':Hp}{β β':qw}{k k':Nat}{rows rows':List (List FD)}{cs cs':List C}(hl:rows'.length=cs'.length)(h:∀i r c,rows'[i]?=some r->cs'[i]?=some c->RD Z H' β' (.trow k' i 0 r.length) c):qg (RD Z H' β') (zh k' 0 rows') cs':=by
 refine qg.mk (by rw [kP];exact hl) fun i d c hd hc=>?_;rw [Xg] at hd;cases hr:rows'[i]? with
 |none=>rw [hr] at hd;cases hd
 |some r=>
  rw [hr] at hd;simp only [Option.map_some,zoi,Nat.zero_add] at hd;subst hd;exact h i r c hr hc
section
variable{p:Par}{base rs:Nat}{Q:qp->Bx->Nat->Prop}{r:List SOper}{W:Wt}{A:List Nat}{E:qp}{S:Bx}{nk:Nat}{id:Nat}{dst:Option Nat}{aid:Option Nat}{ws:List Nat}{keep:Bool}
theorem AR.tree{Z:Nat->Prop}{β:qw}{H H':Hp}{σ:Nat->Option Slot}(hA:AR p base rs A Z β H)(hnx:H.nx<=H'.nx)(hg:∀j,j<rs->j∉A->H'.get (base+j)=H.get (base+j))(hb:∀j,j<rs->j∉A->∀i N,σ i≠some (.blk (base+j) N)):AR p base rs A Z (jJ β nk σ) H':=by
 refine⟨hA.1,fun j hj hjA=>?_⟩;obtain⟨h1,h2,h3,h4⟩:=hA.2 j hj hjA;refine⟨by omega,by rw [hg j hj hjA];exact h2,h3,fun κ M=>?_⟩;by_cases e:κ.1=nk
 ·simp only [jJ,if_pos e];exact hb j hj hjA _ M
 ·rw [vo _ _ e];exact h4 κ M
theorem FY{Z:Nat->Prop}{β:qw}{H H':Hp}{n b:Nat}(hS:SR p Z β H S nk)(hz:¬Z b)(hβ:∀κ N,β κ≠some (.blk b N))(hlo:p.lo<=b)(hb:b<H'.nx)(hnx:H.nx<=H'.nx)(hw:WF H')(hg:∀b',b'≠b->H'.get b'=H.get b')(hr:H'.get b=some (.row (n*1) [.nils] .lf true)):
 ∃σ,SR p Z (jJ β nk σ) H' ((nk,.tree (List.replicate n []))::S) (nk+1)/\xo Z H Z H'/\xP β (jJ β nk σ)/\σ 0=some (.blk b n)/\∀i c N,σ i=some (.blk c N)->c=b:=by
 have hs0:∀i c N,(fun i=>match i with|0=>some (Slot.blk b n)|i+1=>if i<n then some Slot.nil else none) i=some (Slot.blk c N)->c=b/\i=0:=fun i c N h=>by
  cases i with
  |zero=>exact⟨(Slot.blk.inj (zsi h)).1.symm,rfl⟩
  |succ i=>
   simp only at h;split at h<;>cases h
 refine⟨fun i=>match i with|0=>some (.blk b n)|i+1=>if i<n then some .nil else none,?_⟩
 obtain⟨g1,g2,g3⟩:=hS.tree (S0:=S) (H':=H') (rows:=List.replicate n []) (σ:=fun i=>match i with|0=>some (.blk b n)|i+1=>if i<n then some .nil else none) (fun k x h=>⟨x,h⟩) hS.box hnx hw
  (fun c hc=>hg c fun e=>by
   rcases hc with hc|⟨κ,x,N,_,hc⟩
   ·exact hz (e▸hc)
   ·exact hβ κ N (e▸hc))
  (fun i c N h=>by rw [(hs0 i c N h).1];exact hb)
  (fun i c N h=>by rw [(hs0 i c N h).1];exact hlo)
  (fun i j c N N' h h'=>by rw [(hs0 i c N h).2,(hs0 j c N' h').2])
  (fun i c N κ x M h _=>by rw [(hs0 i c N h).1];exact hβ κ M)
  ⟨_,rfl,hz,hlo,hb,List.replicate n .nils,[],by
   rw [List.append_nil];have:=o9 (z:=[.nils]) (M:=n*1) (by simp) b H' hr;have e:(List.range (n*1)).map (fun i=>[C.nils].getD (i % [C.nils].length) .nilp)=List.replicate n C.nils:=by
    refine List.ext_getElem? fun i=>?_;rw [List.getElem?_map];by_cases hi:i<n
    ·rw [List.getElem?_range (by omega),List.getElem?_replicate,if_pos hi];simp [Nat.mod_one]
    ·rw [List.getElem?_eq_none (by simp;omega),List.getElem?_replicate,if_neg hi];rfl
   rw [e] at this;exact this,(by simp [Yi,Bk.shape]),by
   refine Wg (k:=0) (rows:=[]) (cs:=[]) (H:=H) (β:=β) (by simp) fun i r c h1 h2=>?_;rw [List.getElem?_replicate] at h1 h2;split at h1
   ·rename_i hi;rw [if_pos hi] at h2;obtain rfl:=zsi h1;obtain rfl:=zsi h2;exact .inl ⟨by rw [zk];simp only [if_pos hi],rfl,rfl,rfl⟩
   ·cases h1⟩
  (fun i r h=>by
   rw [List.getElem?_replicate] at h;split at h
   ·rename_i hi;obtain rfl:=zsi h;exact⟨.nil,by simp only [if_pos hi],rfl⟩
   ·cases h)
 exact⟨g1,g2,g3,rfl,fun i c N h=>(hs0 i c N h).1⟩
theorem B9{bytes n:Nat}{lo co:Opd}{k k':IntKind}(hl:ro E lo=some (.one (.f (.c (.int k (n:Nat))))))(hc:ro E co=some (.one (.f (.c (.int k' (n:Nat))))))(hb:bytes*n<=281474976710656)(hm:n<4611686018427387904){Z:Nat->Prop}{β:qw}{H:Hp}{F:T V}(hE:ER Z β H E F):xD F (.mkslice 1 bytes [.nils] lo co)=some (.row (n*1) [.nils] .lf true,fun b=>.one (.slc b 0 n n 1 true)):=by
 simp only [xD,zS hE hl,zS hE hc];rw [if_pos ⟨by omega,by omega,by omega,by omega⟩];simp
theorem qaf {bytes n:Nat} {lo co:Opd} {k k':IntKind} (hl:ro E lo=some (.one (.f (.c (.int k (n:Nat)))))) (hc:ro E co=some (.one (.f (.c (.int k' (n:Nat)))))) (hb:bytes*n<=281474976710656) (hm:n<4611686018427387904)
 (h:DPW p base rs Q r W A (xn E dst (.one (.own nk 0 n 1))) ((nk,.tree (List.replicate n []))::S) (nk+1)):DPW p base rs Q (⟨id,dst,.a (.mkslice 1 bytes [.nils] lo co),none,none,ws,keep⟩::r) W A E S nk:=.mk fun Z β H F c hS hE hC hA=>by
 simp only [qE,qv,if_true,B9 hl hc hb hm hE];have hfr:H.get H.nx=none:=hS.wf.fresh (Nat.le_refl _);have hg:∀b',b'≠H.nx->(H.push (.row (n*1) [.nils] .lf true)).get b'=H.get b':=fun b' hb'=>by rw [Hp.get_push,if_neg hb']
 obtain⟨σ,hS',hZ,hB,s0,s1⟩:=FY (n:=n) (b:=H.nx) (H':=H.push (.row (n*1) [.nils] .lf true)) hS (fun hz=>absurd (hS.z _ hz) (by omega)) (fun k N hk=>absurd (hS.bd k _ N hk) (by omega)) hS.lo (by simp) (by simp) (hS.wf.push _) hg (by rw [Hp.get_push,if_pos rfl]);refine h.run Z _ _ _ c hS' ((hE.mono hZ hB).set dst ⟨_,rfl,.inr ⟨H.nx,n,n,true,by rw [zk];exact s0,rfl,Nat.le_refl _,by omega⟩⟩) (hC.new hZ hB hg hfr) (hA.tree (by simp) (fun j hj hjA=>hg _ ?_) fun j hj hjA i N e=>?_)
 ·have:=(hA.2 j hj hjA).1;omega
 ·have:=s1 i _ N e;have:=(hA.2 j hj hjA).1;omega
theorem SR.updT{Z:Nat->Prop}{β:qw}{H H':Hp}(h:SR p Z β H S nk){k i b N:Nat}{rows:List (List FD)}{q q':List FD}{cs rest:List C}(hk:lk S k=some (.tree rows))(hi:rows[i]?=some q)(hs:β (k,i+1)=some (.blk b N))(hl:q'.length=q.length)(hx:qg (RF Z H) q' cs)(hg:∀b',b'≠b->H'.get b'=H.get b')(hnx:H'.nx=H.nx)(hr:xX H' b (cs++rest))(hN:(cs++rest).length=N):
 SR p Z β H' (put k (.tree (rows.set i q')) S) nk/\xo Z H Z H':=by
 have hk2:=QA hk hi;obtain⟨s,hs',hbx⟩:=h.box (k,i+1) _ hk2;rw [hs] at hs';obtain rfl:=zsi hs';obtain⟨hz,hlo,hlt,_⟩:=hbx;have hzg:∀b',Z b'->H'.get b'=H.get b':=fun b' hb'=>hg b' fun e=>hz (e▸hb');have hZ:xo Z H Z H':=xo.of_get (fun _ h=>h) hzg;have hil:i<rows.length:=(zgs hi).1;have hoth:∀(κ:zF) y,κ≠(k,i+1)->qR S κ=some y->∃s,β κ=some s/\jd p Z H' β y s:=fun κ y hne hy=>by
  obtain⟨s,hsj,hbj⟩:=h.box κ y hy;obtain⟨z,hz⟩:=yG hy;refine⟨s,hsj,hbj.mono (xP.refl _) oM fun b' hb'=>?_⟩;rcases hb' with hb'|⟨M,rfl⟩
  ·exact hzg b' hb'
  ·exact hg b' fun e'=>hne (h.inj κ (k,i+1) z _ b M N hz hk (e'▸hsj) hs)
 refine⟨⟨fun b' bk hb'=>?_,by rw [hnx];exact h.lo,fun b' hb'=>by rw [hnx];exact h.z b' hb',h.zlo,h.zz,fun b' bk hb'=>?_,h.nk,fun k b' N hk=>by rw [hnx];exact h.bd k b' N hk,fun κ y hκ=>?_,fun j j' y y' b' M M' hj hj' hsj hsj'=>?_,h.blo,h.anch,h.ancn⟩,hZ⟩
 ·rw [hnx];by_cases e:b'=b
  ·omega
  ·rw [hg b' e] at hb';exact h.wf b' bk hb'
 ·obtain⟨h1,h2⟩:=h.glob b' bk hb';exact⟨h1,by rw [hzg b' h1];exact h2⟩
 ·obtain⟨j,t⟩:=κ;by_cases e:j=k
  ·subst e;have hl':lk (put j (.tree (rows.set i q')) S) j=some (.tree (rows.set i q')):=by rw [yF,if_pos rfl,hk];rfl
   cases t with
   |zero=>
    simp only [qR,hl',d2 j 0 rows i q q' hi hl] at hκ;exact hoth (j,0) y (by simp) (by simp only [qR,hk];exact hκ)
   |succ t=>
    simp only [qR,hl',List.getElem?_set] at hκ;by_cases et:i=t
    ·subst et;rw [if_pos rfl,if_pos hil] at hκ;obtain rfl:=zsi hκ;exact⟨_,hs,hz,hlo,oM,cs,rest,hr,hN,qg.mono (fun _ _=>RF.mono hZ) hx⟩
    ·rw [if_neg et] at hκ;exact hoth (j,t+1) y (fun h=>et (by simp at h;omega)) (by simp only [qR,hk];exact hκ)
  ·have:qR S (j,t)=some y:=by rw [<-hκ];exact (ya (by rw [yF,if_neg e])).symm
   exact hoth (j,t) y (fun h=>e (Prod.mk.inj h).1) this
 ·rw [yF] at hj hj';have f:∀a z,(if a=k then Option.map (fun _=>Bk.tree (rows.set i q')) (lk S a) else lk S a)=some z->∃z',lk S a=some z':=fun a z hz=>by
   split at hz
   ·cases hl:lk S a with
    |none=>rw [hl] at hz;cases hz
    |some q=>exact⟨q,rfl⟩
   ·exact⟨z,hz⟩
  obtain⟨z1,e1⟩:=f j.1 y hj;obtain⟨z2,e2⟩:=f j'.1 y' hj';exact h.inj j j' z1 z2 b' M M' e1 e2 hsj hsj'
theorem WP {a v:Opd} {k i o:Nat} {rows:List (List FD)} {q:List FD} {x:FD} (ha:ro E a=some (.one (.tptr k i o))) (hv:ro E v=some (.one (.f x))) (hk:lk S k=some (.tree rows)) (hi:rows[i]?=some q) (ho:o<q.length) (hw:jH S k W=true)
 (h:DPW p base rs Q r W A (xn E dst .undef) (put k (.tree (rows.set i (q.set o x))) S) nk):DPW p base rs Q (⟨id,dst,.e (.store 1 a v),none,aid,ws,keep⟩::r) W A E S nk:=.mk fun Z β H F c hS hE hC hA=>by
 obtain⟨ca,hca,b,N,hb,rfl⟩:=xg hE ha;obtain⟨cv,hcv,hrv⟩:=xg hE hv;obtain⟨s,hs,hbx⟩:=hS.box (k,i+1) _ (QA hk hi);rw [hb] at hs;obtain rfl:=zsi hs;obtain⟨hz,hlo,hlt,cs,rest,hrow,hN,hrel⟩:=hbx;have hN:(cs++rest).length=_:=hN;have hlen:q.length=cs.length:=qg.len hrel;obtain⟨H',e1,e2,e3,e4⟩:=hrow.stores (cs:=[cv]) (i:=o) (by simp;omega);rw [Qk [cv] cs rest o (by simp;omega)] at e2;obtain⟨hS',hZ⟩:=hS.updT (q':=q.set o x) (cs:=yO cs o [cv]) (rest:=rest) hk hi hb (by simp) (qg.set hrel o hrv) e3 e4 e2 (by rw [List.length_append,wZ,<-List.length_append];exact hN);simp only [qE,qv,if_true,xq,hca,hcv,jG];rw [if_pos (by simp),e1];have hC':=hC.upd (k:=(k,i+1)) hS hk hZ e3 hb hw;exact⟨hC'.watch ws,h.run Z β H' _ c hS' ((hE.mono hZ (xP.refl _)).set dst y6) hC' (hA.upd e4 e3 hb)⟩
theorem qaj {x y:Opd} {k i n:Nat} {rows:List (List FD)} {q l:List FD} {d:DV} (hx:ro E x=some (.one (.trow k i 0 n))) (hy:ro E y=some d) (hk:lk S k=some (.tree rows)) (hi:rows[i]?=some q) (hq:q.length=n) (hd:u6 S 1 d n l) (hw:jH S k W=true)
 (h:DPW p base rs Q r W A (xn E dst (.int n)) (put k (.tree (rows.set i l)) S) nk):DPW p base rs Q (⟨id,dst,.e (.copy 1 x y),none,aid,ws,keep⟩::r) W A E S nk:=.mk fun Z β H F c hS hE hC hA=>by
 obtain⟨news,hn1,hn2,hn3⟩:=rK hS hE hy hd;rw [Nat.mul_one] at hn3;have hil:i<rows.length:=(zgs hi).1;obtain⟨cx,hcx,hrx⟩:=xg hE hx;simp only [qE,qv,if_true,xq,hcx,hn1];rcases hrx with⟨g1,rfl,_,rfl⟩|⟨b,N,cap,ex,hb,rfl,hcap,hcN⟩
 ·have e1:q=[]:=List.eq_nil_of_length_eq_zero hq;have e2:l=[]:=List.eq_nil_of_length_eq_zero (by rw [hn2.len,hn3]);subst e1;subst e2;have hset:rows.set i []=rows:=by
   refine List.ext_getElem? fun j=>?_;rw [List.getElem?_set];split
   ·rename_i e;subst e;rw [hi]
   ·rfl
  rw [hset] at h;have hSp:SR p Z β H (put k (.tree rows) S) nk:=hS.keepS fun j z hj=>by
   rw [yF] at hj;split at hj
   ·rename_i e;subst e;rw [hk] at hj ⊢;exact hj
   ·exact hj
  exact⟨hC.watch ws,h.run Z β H _ c hSp (hE.set dst ⟨_,rfl,.c _ rfl⟩) hC hA⟩
 ·obtain⟨s,hs,hbx⟩:=hS.box (k,i+1) _ (QA hk hi);rw [hb] at hs;obtain rfl:=zsi hs;obtain⟨hz,hlo,hlt,cs,rest,hrow,hN,hrel⟩:=hbx;have hN:(cs++rest).length=_:=hN;have hlen:q.length=cs.length:=qg.len hrel;have htk:news.take (min n n*1)=news:=List.take_of_length_le oM;obtain⟨H',e1,e2,e3,e4⟩:=hrow.stores (cs:=news) (i:=0) (by simp;omega);rw [Qk news cs rest 0 (by omega)] at e2;have hset:yO cs 0 news=news:=by
   have:=vb [] cs news [] oM;simpa using this
  rw [hset] at e2;obtain⟨hS',hZ⟩:=hS.updT (q':=l) (cs:=news) (rest:=rest) hk hi hb (by rw [hn2.len];omega) hn2 e3 e4 e2 (by rw [<-hN];simp;omega);simp only [if_true,htk,e1];have hC':=hC.upd (k:=(k,i+1)) hS hk hZ e3 hb hw;have hmin:((min n n:Nat):Int)=(n:Int):=by rw [Nat.min_self]
  simp only [Option.map_some,hmin];exact⟨hC'.watch ws,h.run Z β H' _ c hS' ((hE.mono hZ (xP.refl _)).set dst ⟨_,rfl,.c _ rfl⟩) hC' (hA.upd e4 e3 hb)⟩
theorem G7 {a v:Opd} {k k' o n:Nat} {rows:List (List FD)} {q:List FD} (ha:ro E a=some (.one (.ptr k o))) (hv:ro E v=some (.one (.own k' 0 n 1))) (hk:lk S k=some (.tree rows)) (hk':lk S k'=some (.data q)) (hn:q.length=n) (ho:o<rows.length) (hw:jH S k W=true)
 (h:DPW p base rs Q r W A (xn (yB (rtV k nk) E) dst .undef) ((nk,.tree (rows.set o q))::yB (Wf k nk) (zE k' (zE k S))) (nk+1)):DPW p base rs Q (⟨id,dst,.e (.store 1 a v),none,aid,ws,keep⟩::r) W A E S nk:=.mk fun Z β H F c hS hE hC hA=>by
 obtain⟨ca,hca,b,N,hb,rfl⟩:=xg hE ha;obtain⟨cv,hcv,hrv⟩:=xg hE hv;have hk0:qR S (k,0)=some (.cells (zh k 0 rows)):=by simp only [qR,hk]
 have hkk:k'≠k:=fun e=>by subst e;rw [hk] at hk';cases hk'
 obtain⟨s,hs,hbx⟩:=hS.box (k,0) _ hk0;rw [hb] at hs;obtain rfl:=zsi hs;obtain⟨hz,hlo,hlt,cs,rest,hrow,hN,hrel⟩:=hbx;have hN:(cs++rest).length=_:=hN;have hlen:(zh k 0 rows).length=cs.length:=qg.len hrel;rw [kP] at hlen;obtain⟨H',e1,e2,e3,e4⟩:=hrow.stores (cs:=[cv]) (i:=o) (by simp;omega);rw [Qk [cv] cs rest o (by simp;omega)] at e2;have hwf:WF H':=fun b' bk hb'=>by
  rw [e4];by_cases e:b'=b
  ·omega
  ·rw [e3 b' e] at hb';exact hS.wf b' bk hb'
 let κ:Nat->Option zF:=fun i=>match i with
  |0=>some (k,0)
  |i+1=>if i=o then some (k',0) else if i<rows.length then some (k,i+1) else none
 let σ:Nat->Option Slot:=fun i=>(κ i).bind β;have hσ:∀i s,σ i=some s->∃a,κ i=some a/\β a=some s:=fun i s h=>by
  simp only [σ,Option.bind_eq_some_iff] at h;exact h
 have hκlive:∀i a,κ i=some a->(a.1=k\/a.1=k')/\∃x,lk S a.1=some x:=fun i a h=>by
  cases i with
  |zero=>obtain rfl:=zsi h;exact⟨.inl rfl,_,hk⟩
  |succ i=>
   simp only [κ] at h;split at h
   ·obtain rfl:=zsi h;exact⟨.inr rfl,_,hk'⟩
   ·split at h
    ·obtain rfl:=zsi h;exact⟨.inl rfl,_,hk⟩
    ·cases h
 have hκinj:∀i j a,κ i=some a->κ j=some a->i=j:=fun i j a h1 h2=>by
  cases i with
  |zero=>
   obtain rfl:=zsi h1;cases j with
   |zero=>rfl
   |succ j=>
    simp only [κ] at h2;split at h2
    ·have:=zsi h2;simp at this;exact absurd this hkk
    ·split at h2
     ·have:=zsi h2;simp at this
     ·cases h2
  |succ i=>
   cases j with
   |zero=>
    obtain rfl:=zsi h2;simp only [κ] at h1;split at h1
    ·have:=zsi h1;simp at this;exact absurd this hkk
    ·split at h1
     ·have:=zsi h1;simp at this
     ·cases h1
   |succ j=>
    simp only [κ] at h1 h2;split at h1
    ·rename_i ei;obtain rfl:=zsi h1;split at h2
     ·omega
     ·split at h2
      ·have:=zsi h2;simp at this
      ·cases h2
    ·split at h1
     ·obtain rfl:=zsi h1;split at h2
      ·have:=zsi h2;simp at this
      ·split at h2
       ·have:=zsi h2;simp at this;omega
       ·cases h2
     ·cases h1
 have hσ0:σ 0=β (k,0):=by simp [σ,κ]
 have hera:∀j x,lk (zE k' (zE k S)) j=some x->lk S j=some x/\j≠k/\j≠k':=fun j x hj=>by
  rw [yT,yT] at hj;split at hj
  ·cases hj
  ·split at hj
   ·cases hj
   ·exact⟨hj,by assumption,by assumption⟩
 have hera2:∀a x,qR (zE k' (zE k S)) a=some x->qR S a=some x/\a.1≠k/\a.1≠k':=fun a x ha=>by
  rw [QB,QB] at ha;split at ha
  ·cases ha
  ·split at ha
   ·cases ha
   ·exact⟨ha,by assumption,by assumption⟩
 have hgL:∀b',(Z b'\/∃a x N,qR (zE k' (zE k S)) a=some x/\β a=some (.blk b' N))->H'.get b'=H.get b':=fun b' hb'=>e3 b' fun e=>by
  rcases hb' with hb'|⟨a,x,M,ha,hb'⟩
  ·exact hz (e▸hb')
  ·obtain⟨h1,h2,_⟩:=hera2 a x ha;obtain⟨y,hy⟩:=yG h1;exact h2 (by rw [hS.inj a (k,0) y _ b M N hy hk (e▸hb') hb])
 have hBe:=hS.bleT σ;have hZe:xo Z H Z H':=xo.of_get (fun _ h=>h) fun b' hb'=>hgL b' (.inl hb');obtain⟨hT,hZ,hB⟩:=hS.tree (S0:=zE k' (zE k S)) (H':=H') (rows:=rows.set o q) (σ:=σ) (fun j x hj=>⟨x,(hera j x hj).1⟩) (fun a x ha=>hS.box a x (hera2 a x ha).1) oM hwf hgL
  (fun i c M h=>by obtain⟨a,_,h2⟩:=hσ i _ h;rw [e4];exact hS.bd a c M h2)
  (fun i c M h=>by obtain⟨a,_,h2⟩:=hσ i _ h;exact hS.blo a c M h2)
  (fun i j c M M' h1 h2=>by
   obtain⟨a1,g1,g2⟩:=hσ i _ h1;obtain⟨a2,g3,g4⟩:=hσ j _ h2;obtain⟨_,x1,l1⟩:=hκlive i a1 g1;obtain⟨_,x2,l2⟩:=hκlive j a2 g3;have:=hS.inj a1 a2 x1 x2 c M M' l1 l2 g2 g4;subst this;exact hκinj i j a1 g1 g3)
  (fun i c M a x M' h1 ha hb'=>by
   obtain⟨a1,g1,g2⟩:=hσ i _ h1;obtain⟨w,x1,l1⟩:=hκlive i a1 g1;obtain⟨l2,n1,n2⟩:=hera a.1 x ha;have:=hS.inj a1 a x1 x c M M' l1 l2 g2 hb';subst this;exact w.elim n1 n2)
  ⟨_,hσ0.trans hb,hz,hlo,by omega,yO cs o [cv],rest,e2,by rw [List.length_append,wZ,<-List.length_append];exact hN,by
   refine Wg (k:=0) (rows:=[]) (cs:=[]) (H:=H) (β:=β) (by rw [wZ];simp;omega) fun i t d h1 h2=>?_;simp only [yO,List.getElem?_set] at h1 h2;by_cases ei:o=i
   ·subst ei;rw [if_pos rfl,if_pos (by omega)] at h1 h2;obtain rfl:=zsi h1;obtain rfl:=zsi h2;have hs1:σ (o+1)=β (k',0):=by simp [σ,κ]
    rw [hn];rcases hrv with⟨w1,w2⟩|⟨b1,N1,cap,ex,w1,w2⟩
    ·exact .inl ⟨by rw [zk,hs1];exact w1,w2⟩
    ·exact .inr ⟨b1,N1,cap,ex,by rw [zk,hs1];exact w1,w2⟩
   ·rw [if_neg ei] at h1 h2;have hil:i<rows.length:=(zgs h1).1;have ei':¬i=o:=fun h=>ei h.symm;have hs1:σ (i+1)=β (k,i+1):=by simp only [σ,κ,if_neg ei',if_pos hil,Option.bind_some]
    obtain⟨c',hc',hr'⟩:=hrel.at i (.trow k i 0 t.length) (by rw [Xg,h1];simp);rw [h2] at hc';obtain rfl:=zsi hc';rcases hr' with⟨w1,w2⟩|⟨b1,N1,cap,ex,w1,w2⟩
    ·exact .inl ⟨by rw [zk,hs1];exact w1,w2⟩
    ·exact .inr ⟨b1,N1,cap,ex,by rw [zk,hs1];exact w1,w2⟩⟩
  (fun i t h1=>by
   have fin:∀a x,qR S a=some x->a≠(k,0)->(∃y,lk S a.1=some y)->∃s,β a=some s/\jd p Z H' (jJ β nk σ) x s:=fun a x ha hne ⟨y,hy⟩=>by
    obtain⟨s,hs,hbx⟩:=hS.box a x ha;refine⟨s,hs,hbx.mono hBe oM fun b' hb'=>?_⟩;rcases hb' with hb'|⟨M,rfl⟩
    ·exact hgL b' (.inl hb')
    ·exact e3 b' fun e=>hne (hS.inj a (k,0) y _ b M N hy hk (e▸hs) hb)
   simp only [List.getElem?_set] at h1;by_cases ei:o=i
   ·subst ei;rw [if_pos rfl,if_pos ho] at h1;obtain rfl:=zsi h1;have hs1:σ (o+1)=β (k',0):=by simp [σ,κ]
    rw [hs1];exact fin (k',0) _ (xV hk' rfl) (fun h=>hkk (Prod.mk.inj h).1) ⟨_,hk'⟩
   ·rw [if_neg ei] at h1;have hil:i<rows.length:=(zgs h1).1;have ei':¬i=o:=fun h=>ei h.symm;have hs1:σ (i+1)=β (k,i+1):=by simp only [σ,κ,if_neg ei',if_pos hil,Option.bind_some]
    rw [hs1];exact fin (k,i+1) _ (QA hk h1) (by simp) ⟨_,hk⟩)
 have hT':=hS.rtS (k:=k) hσ0 hZ (fun a x ha=>(hera2 a x ha).1) (fun a x ha e=>by
  obtain⟨y,hy⟩:=yG (hera2 a x ha).1;have:=hS.lt hy;omega) hT (fun b' ⟨a,x,M,h1,h2⟩=>hgL b' (.inr ⟨a,x,M,h1,h2⟩)) oM
 simp only [qE,qv,if_true,xq,hca,hcv,jG];rw [if_pos (by simp),e1];have hC':=(hC.upd (k:=(k,0)) hS hk hZ e3 hb hw).step (xo.refl Z H') hB fun _ _ _ _ _ _ _ _ _ _ _ _ _ h=>h;refine⟨hC'.watch ws,h.run Z _ H' _ c hT' ((TX hS hσ0 hZ hE).set dst y6) hC' (hA.tree (by omega) (fun j hj hjA=>e3 _ fun e=>(hA.2 j hj hjA).2.2.2 (k,0) N (by rw [e];exact hb)) fun j hj hjA i M hM=>?_)⟩;obtain⟨a,_,g2⟩:=hσ i _ hM;exact (hA.2 j hj hjA).2.2.2 a M g2
end
section
variable{p:Par}{base rs:Nat}{Q:qp->Bx->Nat->Prop}{r:List SOper}{W:Wt}{A:List Nat}{E:qp}{S:Bx}{nk:Nat}{id:Nat}{dst:Option Nat}{aid:Option Nat}{ws:List Nat}{keep:Bool}
theorem CR.repl0{Z:Nat->Prop}{β β':qw}{H H':Hp}{b k:Nat}{c:zR}{x:Bk}(hS:SR p Z β H S nk)(hk:lk S k=some x)(hC:CR W Z β H c)(hZ:xo Z H Z H')(hB:xP β β')(hg:∀b',b'≠b->(∀N,β (k,0)≠some (.blk b' N))->H'.get b'=H.get b')(hb:(∃N,β (k,0)=some (.blk b N))\/H.nx<=b)(hw:jH S k W=true):CR W Z β' H' c:=hC.step hZ hB fun y hy j o n e b' N' i q hj _ _ hq=>by
 obtain⟨⟨z,hz⟩,hne⟩:=Xd hw y hy j o n e;have h2:∀N,β (k,0)≠some (.blk b' N):=fun N e'=>hne (by rw [hS.inj j (k,0) z x b' N' N hz hk hj e']);have h1:b'≠b:=fun e'=>by
  rcases hb with⟨M,hM⟩|hb
  ·exact h2 M (e'▸hM)
  ·have:=hS.bd j b' N' hj;omega
 unfold Hp.cell at hq ⊢;rw [hg b' h1 h2];exact hq
theorem RH {bytes:Nat} {s v:Opd} {k kv k' n m:Nat} {rows:List (List FD)} {q:List FD} (hs:ro E s=some (.one (.own k 0 n 1))) (hv:ro E v=some (.one (.own kv 0 1 1))) (hk:lk S k=some (.tree rows)) (hn:rows.length=n) (hkv:lk S kv=some (.cells [.own k' 0 m 1])) (hk':lk S k'=some (.data q)) (hq:q.length=m) (hbb:(n+1)*bytes<=140737488355328) (h62:n+1<4611686018427387904) (hw:jH S k W=true)
 (h:DPW p base rs Q r W A (xn E dst (.one (.own nk 0 (n+1) 1))) ((nk,.tree (rows++[q]))::zE k' (zE kv (zE k S))) (nk+1)):DPW p base rs Q (⟨id,dst,.e (.append 1 bytes s v),none,aid,ws,keep⟩::r) W A E S nk:=.mk fun Z β H F c hS hE hC hA=>by
 obtain⟨cs',hcs',hrs⟩:=xg hE hs;obtain⟨cv',hcv',hrv⟩:=xg hE hv;have hk0:qR S (k,0)=some (.cells (zh k 0 rows)):=by simp only [qR,hk]
 have hkk:k'≠k:=fun e=>by subst e;rw [hk] at hk';cases hk'
 obtain⟨cv,hsrc,hcv⟩:∃cv,zG H 1 (v.ev F)=some (1,[cv])/\RD Z H β (.own k' 0 m 1) cv:=by
  rcases hrv with⟨_,h0,_⟩|⟨b,N,cap,ex,hb,rfl,_,_⟩
  ·cases h0
  ·obtain⟨s,hs,hbx⟩:=hS.box (kv,0) _ (xV hkv rfl);rw [hb] at hs;obtain rfl:=zsi hs;obtain⟨_,_,_,cs,rest,hrow,hN,hrel⟩:=hbx;have hN:(cs++rest).length=_:=hN
   match cs,hrel with
   |[cv],hrel=>
    refine⟨cv,?_,hrel.1⟩;have:=yw hrow.2 (m:=1) (by simp);rw [hcv'];simp only [zG,if_true,Nat.mul_one,this];rfl
 obtain⟨sk,hsk,hbx⟩:=hS.box (k,0) _ hk0;simp only [qE,qv,if_true,xq,hsrc,hcs'];let κ:Nat->Option zF:=fun i=>if i<n then some (k,i+1) else if i=n then some (k',0) else none
 have hκlive:∀i a,κ i=some a->(a.1=k\/a.1=k')/\a≠(k,0)/\∃x,lk S a.1=some x:=fun i a h=>by
  simp only [κ] at h;split at h
  ·obtain rfl:=zsi h;exact⟨.inl rfl,by simp,_,hk⟩
  ·split at h
   ·obtain rfl:=zsi h;exact⟨.inr rfl,fun h=>hkk (Prod.mk.inj h).1,_,hk'⟩
   ·cases h
 have hκinj:∀i j a,κ i=some a->κ j=some a->i=j:=fun i j a h1 h2=>by
  simp only [κ] at h1 h2;split at h1
  ·obtain rfl:=zsi h1;split at h2
   ·have:=zsi h2;simp at this;omega
   ·split at h2
    ·have:=zsi h2;simp at this
    ·cases h2
  ·split at h1
   ·obtain rfl:=zsi h1;split at h2
    ·have:=zsi h2;simp at this
    ·split at h2
     ·omega
     ·cases h2
   ·cases h1
 have hera:∀j x,lk (zE k' (zE kv (zE k S))) j=some x->lk S j=some x/\j≠k/\j≠k':=fun j x hj=>by
  rw [yT,yT,yT] at hj;split at hj
  ·cases hj
  ·split at hj
   ·cases hj
   ·split at hj
    ·cases hj
    ·exact⟨hj,by assumption,by assumption⟩
 have hera2:∀a x,qR (zE k' (zE kv (zE k S))) a=some x->qR S a=some x/\a.1≠k/\a.1≠k':=fun a x ha=>by
  rw [QB,QB,QB] at ha;split at ha
  ·cases ha
  ·split at ha
   ·cases ha
   ·split at ha
    ·cases ha
    ·exact⟨ha,by assumption,by assumption⟩
 have hzk:∀b' N,Z b'->β (k,0)≠some (.blk b' N):=fun b' N hz e=>by
  rw [hsk] at e;obtain rfl:=zsi e;exact hbx.1 hz
 have hfin:∀(H':Hp) (b:Nat) (olds rest:List C) (cap:Nat) (ex:Bool),(qg (RD Z H β) (zh k 0 rows) olds)->((∃N,β (k,0)=some (.blk b N))\/(b=H.nx))->b<H'.nx->H.nx<=H'.nx->WF H'->(∀b',b'≠b->(∀N,β (k,0)≠some (.blk b' N))->H'.get b'=H.get b')->xX H' b ((olds++[cv])++rest)->n+1<=cap->cap*1<=((olds++[cv])++rest).length->
  zA ws c H'/\qE p.P p.G base (fun F' H'=>∃E' S' nk' Z' β',SR p Z' β' H' S' nk'/\ER Z' β' H' E' F'/\Q E' S' nk') r c (xI F dst (.one (.slc b 0 (n+1) cap 1 ex))) H':=by
  intro H' b olds rest cap ex hol hb hbl hnx hwf hg hrow hcap hcl;have hb':(∃N,β (k,0)=some (.blk b N))\/H.nx<=b:=hb.imp (fun h=>h) fun e=>by omega
  have hlen:=hol.len;rw [kP] at hlen;let σ:Nat->Option Slot:=fun i=>match i with
   |0=>some (.blk b ((olds++[cv])++rest).length)
   |i+1=>(κ i).bind β
  have hσ:∀i s,σ (i+1)=some s->∃a,κ i=some a/\β a=some s:=fun i s h=>by
   simp only [σ,Option.bind_eq_some_iff] at h;exact h
  have hrowne:∀i c' M,σ (i+1)=some (.blk c' M)->c'≠b/\c'<H.nx/\∀N,β (k,0)≠some (.blk c' N):=fun i c' M h=>by
   obtain⟨a,g1,g2⟩:=hσ i _ h;obtain⟨_,n1,x,l1⟩:=hκlive i a g1;have hb0:∀N,β (k,0)≠some (.blk c' N):=fun N e=>n1 (hS.inj a (k,0) x _ c' M N l1 hk g2 e);have:=hS.bd a c' M g2;refine⟨fun e=>?_,this,hb0⟩;rcases hb with⟨N,hN⟩|hN
   ·exact hb0 N (e▸hN)
   ·omega
  have hzb:¬Z b:=by
   rcases hb with⟨N,hN⟩|hN
   ·exact fun hz=>hzk b N hz hN
   ·exact fun hz=>absurd (hS.z _ hz) oM
  have hlob:p.lo<=b:=by
   rcases hb with⟨N,hN⟩|hN
   ·exact hS.lo2 hk0 hN
   ·have:=hS.lo;omega
  have hgL:∀b',(Z b'\/∃a x N,qR (zE k' (zE kv (zE k S))) a=some x/\β a=some (.blk b' N))->H'.get b'=H.get b':=fun b' hb1=>by
   rcases hb1 with hb1|⟨a,x,M,ha,hb1⟩
   ·exact hg b' (fun e=>hzb (e▸hb1)) fun N=>hzk b' N hb1
   ·obtain⟨h1,h2,_⟩:=hera2 a x ha;obtain⟨y,hy⟩:=yG h1;have h3:∀N,β (k,0)≠some (.blk b' N):=fun N e=>h2 (by rw [hS.inj a (k,0) y _ b' M N hy hk hb1 e]);refine hg b' (fun e=>?_) h3;rcases hb with⟨N,hN⟩|hN
    ·exact h3 N (e▸hN)
    ·have:=hS.bd a b' M hb1;omega
  have hBe:=hS.bleT σ;obtain⟨hT,hZ,hB⟩:=hS.tree (S0:=zE k' (zE kv (zE k S))) (H':=H') (rows:=rows++[q]) (σ:=σ) (fun j x hj=>⟨x,(hera j x hj).1⟩) (fun a x ha=>hS.box a x (hera2 a x ha).1) hnx hwf hgL
   (fun i c' M h=>by
    cases i with
    |zero=>obtain⟨rfl,_⟩:=Slot.blk.inj (zsi h);exact hbl
    |succ i=>have:=(hrowne i c' M h).2.1;omega)
   (fun i c' M h=>by
    cases i with
    |zero=>obtain⟨rfl,_⟩:=Slot.blk.inj (zsi h);exact hlob
    |succ i=>obtain⟨a,_,h2⟩:=hσ i _ h;exact hS.blo a c' M h2)
   (fun i j c' M M' h1 h2=>by
    cases i with
    |zero=>
     obtain⟨rfl,_⟩:=Slot.blk.inj (zsi h1);cases j with
     |zero=>rfl
     |succ j=>exact absurd rfl (hrowne j _ _ h2).1
    |succ i=>
     cases j with
     |zero=>obtain⟨rfl,_⟩:=Slot.blk.inj (zsi h2);exact absurd rfl (hrowne i _ _ h1).1
     |succ j=>
      obtain⟨a1,g1,g2⟩:=hσ i _ h1;obtain⟨a2,g3,g4⟩:=hσ j _ h2;obtain⟨_,_,x1,l1⟩:=hκlive i a1 g1;obtain⟨_,_,x2,l2⟩:=hκlive j a2 g3;have:=hS.inj a1 a2 x1 x2 c' M M' l1 l2 g2 g4;subst this;rw [hκinj i j a1 g1 g3])
   (fun i c' M a x M' h1 ha hb1=>by
    obtain⟨l2,n1,n2⟩:=hera a.1 x ha;cases i with
    |zero=>
     obtain⟨rfl,_⟩:=Slot.blk.inj (zsi h1);rcases hb with⟨N,hN⟩|hN
     ·exact n1 (by rw [hS.inj a (k,0) x _ _ M' N l2 hk hb1 hN])
     ·have:=hS.bd a _ M' hb1;omega
    |succ i=>
     obtain⟨a1,g1,g2⟩:=hσ i _ h1;obtain⟨w,_,x1,l1⟩:=hκlive i a1 g1;have:=hS.inj a1 a x1 x c' M M' l1 l2 g2 hb1;subst this;exact w.elim n1 n2)
   ⟨_,rfl,hzb,hlob,hbl,olds++[cv],rest,hrow,rfl,by
    refine Wg (k:=0) (rows:=[]) (cs:=[]) (H:=H) (β:=β) (by simp;omega) fun i t d h1 h2=>?_;by_cases ei:i<n
    ·rw [List.getElem?_append_left (by omega)] at h1 h2;have hs1:σ (i+1)=β (k,i+1):=by simp only [σ,κ,if_pos ei,Option.bind_some]
     obtain⟨c',hc',hr'⟩:=hol.at i (.trow k i 0 t.length) (by rw [Xg,h1];simp);rw [h2] at hc';obtain rfl:=zsi hc';rcases hr' with⟨w1,w2⟩|⟨b1,N1,cap,ex,w1,w2⟩
     ·exact .inl ⟨by rw [zk,hs1];exact w1,w2⟩
     ·exact .inr ⟨b1,N1,cap,ex,by rw [zk,hs1];exact w1,w2⟩
    ·have hi:i=n:=by
      have:=(zgs h1).1;simp at this;omega
     subst hi;rw [List.getElem?_append_right (by omega),hn] at h1;rw [List.getElem?_append_right (by omega),<-hlen,hn] at h2;simp at h1 h2;subst h1;subst h2;have hs1:σ (i+1)=β (k',0):=by simp [σ,κ]
     rw [hq];rcases hcv with⟨w1,w2⟩|⟨b1,N1,cap,ex,w1,w2⟩
     ·exact .inl ⟨by rw [zk,hs1];exact w1,w2⟩
     ·exact .inr ⟨b1,N1,cap,ex,by rw [zk,hs1];exact w1,w2⟩⟩
   (fun i t h1=>by
    have fin:∀a x,κ i=some a->qR S a=some x->∃s,σ (i+1)=some s/\jd p Z H' (jJ β nk σ) x s:=fun a x hκ ha=>by
     obtain⟨s,hs,hbx⟩:=hS.box a x ha;have hσi:σ (i+1)=some s:=by simp only [σ,hκ,Option.bind_some,hs]
     refine⟨s,hσi,hbx.mono hBe hnx fun b' hb'=>?_⟩;rcases hb' with hb'|⟨M,rfl⟩
     ·exact hgL b' (.inl hb')
     ·obtain⟨w1,_,w3⟩:=hrowne i b' M hσi;exact hg b' w1 w3
    by_cases ei:i<n
    ·rw [List.getElem?_append_left (by omega)] at h1;exact fin (k,i+1) _ (by simp only [κ,if_pos ei]) (QA hk h1)
    ·have hi:i=n:=by
      have:=(zgs h1).1;simp at this;omega
     subst hi;rw [List.getElem?_append_right (by omega),hn] at h1;simp at h1;subst h1;exact fin (k',0) _ (by simp [κ]) (xV hk' rfl))
  have hC':=hC.repl0 hS hk hZ hB hg hb' hw;refine⟨hC'.watch ws,h.run Z _ H' _ c hT ((hE.mono hZ hB).set dst ⟨_,rfl,.inr ⟨b,_,cap,ex,by rw [zk],rfl,hcap,by omega⟩⟩) hC' (hA.tree hnx (fun j hj hjA=>?_) fun j hj hjA i M hM=>?_)⟩
  ·obtain⟨h1,h2,h3,h4⟩:=hA.2 j hj hjA;refine hg _ (fun e=>?_) fun N=>h4 (k,0) N;rcases hb with⟨N,hN⟩|hN
   ·exact h4 (k,0) N (by rw [e];exact hN)
   ·omega
  ·obtain⟨h1,h2,h3,h4⟩:=hA.2 j hj hjA;cases i with
   |zero=>
    obtain⟨e,_⟩:=Slot.blk.inj (zsi hM);rcases hb with⟨N,hN⟩|hN
    ·exact h4 (k,0) N (by rw [<-e];exact hN)
    ·omega
   |succ i=>
    obtain⟨a,_,g2⟩:=hσ i _ hM;exact h4 a M g2
 rcases hrs with⟨hnil,h0,_,rfl⟩|⟨b,N,cap,ex,hb,rfl,hcap,hcN⟩
 ·have hr0:rows=[]:=List.eq_nil_of_length_eq_zero oM;subst hr0;obtain rfl:n=0:=h0;simp only [zq];rw [if_neg (by decide),if_pos ⟨by omega,by omega⟩];exact hfin (H.push (.row 1 [cv] .lf true)) H.nx [] [] 1 false trivial (.inr rfl) (by simp) (by simp) (hS.wf.push _) (fun b' hb' _=>by rw [Hp.get_push,if_neg hb']) (by simpa using xX.new (H:=H) [cv]) (by omega) (by simp)
 ·rw [hb] at hsk;obtain rfl:=zsi hsk;obtain⟨hz,hlo,hlt,cells,rest,hrow,hN,hrel⟩:=hbx;have hN:(cells++rest).length=_:=hN;have hlen:(zh k 0 rows).length=cells.length:=qg.len hrel;rw [kP] at hlen;simp only [zq];rw [if_neg (by simp)];by_cases hfit:n+1<=cap
  ·rw [if_pos hfit,Nat.zero_add,Nat.mul_one];obtain⟨rest',x,hrest⟩:∃rest' x,rest=x::rest':=by
    cases rest with
    |nil=>simp at hN;omega
    |cons x rest'=>exact⟨rest',x,rfl⟩
   subst hrest;obtain⟨H',e1,e2,e3,e4⟩:=hrow.stores (cs:=[cv]) (i:=n) (by simp;omega);rw [e1];have hset:yO (cells++x::rest') n [cv]=(cells++[cv])++rest':=by
    have:=vb cells [x] [cv] rest' rfl;rw [<-hlen,hn] at this;simpa using this
   rw [hset] at e2;refine hfin H' b cells rest' cap ex hrel (.inl ⟨N,hb⟩) oM oM (fun b' bk hb'=>?_) (fun b' hb' _=>e3 b' hb') e2 hfit ?_
   ·rw [e4];by_cases e:b'=b
    ·omega
    ·rw [e3 b' e] at hb';exact hS.wf b' bk hb'
   ·simp at hN ⊢;omega
  ·rw [if_neg hfit,if_pos ⟨hbb,h62⟩];have hld:H.loads b 0 (n*1)=some cells:=by
    have:=yw hrow.2 (m:=n*1) (by simp;omega);rw [this,List.take_append_of_le_length (by omega),List.take_of_length_le (by omega)]
   rw [hld];have hrow':=xX.new (H:=H) (cells++[cv]);cases ex with
   |true=>
    simp only [if_true];exact hfin _ H.nx cells [] (n+1) false hrel (.inr rfl) (by simp) (by simp) (hS.wf.push _) (fun b' hb' _=>by rw [Hp.get_push,if_neg hb']) (by rw [List.append_nil];exact hrow') (Nat.le_refl _) (by simp;omega)
   |false=>
    simp only [Bool.false_eq_true,if_false,hrow.mut,if_true];refine hfin _ H.nx cells [] (n+1) false hrel (.inr rfl) (by simp) (by simp) (fun b' bk hb'=>?_) (fun b' hb' hne=>?_) (by rw [List.append_nil];exact hrow'.same (by rw [Hp.get_del,if_neg (by omega)])) (Nat.le_refl _) (by simp;omega)
    ·rw [Hp.get_del] at hb';split at hb'
     ·cases hb'
     ·exact hS.wf.push _ b' bk hb'
    ·rw [Hp.get_del,if_neg (fun (e:b'=b)=>hne N (by rw [e];exact hb)),Hp.get_push,if_neg hb']
end
section
variable{p:Par}{n:Nat}{Q:Exit->qp->Bx->Nat->Prop}{E:qp}{S:Bx}{nk:Nat}
theorem EX{Z:Nat->Prop}{β:qw}{H:Hp}(hS:SR p Z β H S nk):∃σ,SR p Z (jJ β nk σ) H ((nk,.tree [])::S) (nk+1)/\xP β (jJ β nk σ)/\σ 0=some .nil:=by
 have hno:∀i c N,(fun i=>match i with|0=>some Slot.nil|_+1=>none) i=some (Slot.blk c N)->False:=fun i c N h=>by
  cases i<;>cases h
 obtain⟨g1,g2,g3⟩:=hS.tree (S0:=S) (H':=H) (rows:=[]) (σ:=fun i=>match i with|0=>some .nil|_+1=>none) (fun k x h=>⟨x,h⟩) hS.box (Nat.le_refl _) hS.wf (fun _ _=>rfl) (fun i c N h=>(hno i c N h).elim) (fun i c N h=>(hno i c N h).elim) (fun i j c N N' h=>(hno i c N h).elim) (fun i c N κ x M h=>(hno i c N h).elim) ⟨_,rfl,rfl⟩ (fun i r h=>by simp at h)
 exact⟨_,g1,g3,rfl⟩
theorem HD{s:SC}(kb i:Nat){l:List DC}(hk:lk S kb=some (.cells l))(hi:l[i]?=some (.f (.c .nils)))(h:DPS p n s Q E ((nk,.tree [])::put kb (.cells (l.set i (.own nk 0 0 1))) S) (nk+1)):DPS p n s Q E S nk:=.mk fun Z β H F hS hE=>by
 obtain⟨σ,hT,hB,h0⟩:=EX hS;have hkn:=hS.lt hk;have hkT:lk ((nk,.tree [])::S) kb=some (.cells l):=by rw [qT,if_neg (by omega)];exact hk
 refine h.run Z _ H F ?_ (hE.mono (xo.refl Z H) hB);have hput:∀j,lk ((nk,.tree [])::put kb (.cells (l.set i (.own nk 0 0 1))) S) j=lk (put kb (.cells (l.set i (.own nk 0 0 1))) ((nk,.tree [])::S)) j:=fun j=>by
  simp only [put,jv (show nk≠kb by omega)]
 refine⟨hT.wf,hT.lo,hT.z,hT.zlo,hT.zz,hT.glob,hT.nk,hT.bd,fun κ y hκ=>?_,fun κ κ' y y' b N N' hj hj'=>?_,hT.blo,hT.anch,hT.ancn⟩
 ·rw [ya (hput κ.1),Zt hkT rfl] at hκ;split at hκ
  ·rename_i e;split at hκ
   ·rename_i e2;obtain rfl:=v8 e e2;obtain rfl:=zsi hκ;obtain⟨s,hs,hbx⟩:=hT.box (kb,0) _ (xV hkT rfl);refine⟨s,hs,?_⟩;cases s with
    |nil=>
     have:l=[]:=List.eq_nil_of_length_eq_zero hbx;subst this;cases hi
    |blk b N=>
     obtain⟨g1,g2,g3,cs,rest,g4,g5,g6⟩:=hbx;refine⟨g1,g2,g3,cs,rest,g4,g5,?_⟩;obtain⟨c,hc,hr⟩:=qg.at g6 i _ hi;cases hr;have hset:cs.set i .nils=cs:=by
      refine List.ext_getElem? fun j=>?_;rw [List.getElem?_set];split
      ·rename_i ej;subst ej;rw [hc];first|rfl|rw [if_pos (zgs hc).1]
      ·rfl
     show qg _ _ _
     rw [<-hset];exact qg.set g6 i (.inl ⟨by rw [zk];exact h0,rfl,rfl,rfl⟩)
   ·cases hκ
  ·exact hT.box κ y hκ
 ·rw [hput] at hj hj';rw [yF] at hj hj';have f:∀a z,(if a=kb then Option.map (fun _=>Bk.cells (l.set i (.own nk 0 0 1))) (lk ((nk,.tree [])::S) a) else lk ((nk,.tree [])::S) a)=some z->∃z',lk ((nk,.tree [])::S) a=some z':=fun a z hz=>by
   split at hz
   ·cases hl:lk ((nk,.tree [])::S) a with
    |none=>rw [hl] at hz;cases hz
    |some q=>exact⟨q,rfl⟩
   ·exact⟨z,hz⟩
  obtain⟨z1,e1⟩:=f κ.1 y hj;obtain⟨z2,e2⟩:=f κ'.1 y' hj';exact hT.inj κ κ' z1 z2 b N N' e1 e2
end
def dF(P:Program)(G:Nat)(GH:Hp)(f:FuncId)(ds:List DV)(R:DV->Bx->Nat->Prop):Prop:=∀(H:Hp) (Z:Nat->Prop) (args:List V),WF H->(∀b,Z b->b<H.nx)->(∀b bk,GH.get b=some bk->Z b/\H.get b=some bk)->qg (xG Z H wU) ds args->
 qJ P G f args H fun v H'=>H.nx<=H'.nx/\(∀b,b<H.nx->H'.get b=H.get b)/\∃d S' nk' Z' β',SR (Par.base P G GH Z H.nx) Z' β' H' S' nk'/\xG Z' H' β' d v/\R d S' nk'
section
variable{p:Par}{E:qp}{S:Bx}{nk:Nat}
theorem UB{Z:Nat->Prop}{β:qw}{H:Hp}{d:DV}{v:V}(hr:xG Z H β d v)(hd:WE d=true):kf v=true/\zy Z H β d v:=by
 cases d with
 |one d=>obtain⟨c,rfl,hr⟩:=hr;exact⟨rfl,c,rfl,hr⟩
 |agg l=>obtain⟨c,rfl,hr⟩:=hr;exact⟨rfl,c,rfl,hr⟩
 |tup l=>cases hd
theorem Wm{Z:Nat->Prop}{β:qw}{H:Hp}{F:T V}(hS:SR p Z β H S nk)(hE:ER Z β H E F):∀{l:List SRes} {ds:List DV},Yc p E S l=some ds->qW WE ds=true->∃vs,vE F H l=some vs/\qg (zy Z H β) ds vs
 |[],ds,h,_=>by obtain rfl:=zsi h;exact⟨[],rfl,trivial⟩
 |r::l,ds,h,hf=>by
  simp only [Yc] at h;split at h
  ·rename_i d q h1 h2;obtain rfl:=zsi h;have f1:=yk hf d (by simp);have f2:qW WE q=true:=by simp only [qW,f1] at hf;exact hf
   obtain⟨v,e1,e2⟩:=pB hS hE h1;obtain⟨vs,e3,e4⟩:=Wm hS hE h2 f2;obtain⟨o1,o2⟩:=UB e2 f1;exact⟨v::vs,by simp only [vE,e1,e3,o1,if_true],o2,e4⟩
  ·cases h
def Kq:DV->Bool
 |.tup l=>qW WE l
 |_=>true
theorem Jf{Z:Nat->Prop}{β:qw}{H:Hp}{F:T V}(hS:SR p Z β H S nk)(hE:ER Z β H E F){rs:List SRes}{d:DV}(h:j6 p E S rs=some d)(hf:Kq d=true):∃v,ye F H rs=some v/\xG Z H β d v:=by
 unfold j6 at h;have one:∀d',Yc p E S rs=some [d']->WE d'=true->∃v,ye F H rs=some v/\xG Z H β d' v:=fun d' hd' hf'=>by
  obtain⟨vs,h1,h2⟩:=Wm hS hE hd' (by simp [qW,hf'])
  match vs,h1,h2 with
  |[v],h1,h2=>exact⟨v,by simp only [ye,h1],xG.of1 h2.1⟩
 split at h
 ·rename_i c hd';obtain rfl:=zsi h;exact one _ hd' rfl
 ·rename_i l hd';obtain rfl:=zsi h;exact one _ hd' rfl
 ·cases h
 ·rename_i ds hn1 hn2 hn3 hds;obtain rfl:=zsi h;obtain⟨vs,h1,h2⟩:=Wm hS hE hds hf;refine⟨.tup vs,?_,vs,rfl,h2⟩;have hl:=h2.len;unfold ye;rw [h1]
  match vs,hl with
  |[],_=>rfl
  |[v],hl=>
   match ds,hl with
   |[.one d],_=>exact (hn1 d rfl).elim
   |[.agg d],_=>exact (hn2 d rfl).elim
   |[.tup d],_=>exact (hn3 d rfl).elim
  |_::_::_,_=>rfl
 ·cases h
end
def cI(p:Par)(rs:List SRes)(R:DV->Bx->Nat->Prop):Exit->qp->Bx->Nat->Prop
 |.normal,E,S,nk=>∃d,j6 p E S rs=some d/\Kq d=true/\∃S0,yC S0 S/\R d S0 nk
 |.ret,E,S,nk=>∃d,j6 p E S rs=some d/\Kq d=true/\∃S0,yC S0 S/\R d S0 nk
 |_,_,_,_=>False
theorem QF{P:Program}{G:Nat}{GH:Hp}{f:FuncId}{sf:SFn}(hf:qG P G f=some sf){ds:List DV}{R:DV->Bx->Nat->Prop}(hn:Nat.ble ds.length sf.n=true)(hG:∀b bk,GH.get b=some bk->bk.ro=some bk)(h:∀Z0 lo,DPS (Par.base P G GH Z0 lo) sf.n sf.code (cI (Par.base P G GH Z0 lo) sf.res R) (Q6 ds 0) [] 0):dF P G GH f ds R:=by
 intro H Z args hw hz hg ha;have hro:qJ P G f args H.ro fun v H1=>∃d S' nk' Z' β',SR (Par.base P G GH Z H.nx) Z' β' H1 S' nk'/\xG Z' H1 β' d v/\R d S' nk':=by
  have hwr:WF H.ro:=fun b bk hb=>by
   rw [Hp.get_ro,Option.bind_eq_some_iff] at hb;obtain⟨x,hx,_⟩:=hb;exact hw b x hx
  refine (Jt hf (by rw [<-ha.len];exact Nat.le_of_ble_eq_true hn) ?_);have hS:SR (Par.base P G GH Z H.nx) Z wU H.ro [] 0:=⟨hwr,Nat.le_refl _,hz,fun b hb=>.inl hb,fun b hb=>hb,fun b bk hb=>(by rcases hb with hb|⟨_,hb⟩;exact⟨(hg b bk hb).1,by rw [Hp.get_ro,(hg b bk hb).2];exact hG b bk hb⟩;cases hb),fun _ _=>rfl,fun _ _ _ hk=>(by cases hk),fun κ x hk=>(by obtain⟨y,hy⟩:=yG hk;cases hy),fun _ _ _ _ _ _ _ hk=>(by cases hk),fun _ _ _ hk=>(by cases hk),fun _ _ _=>rfl,Nat.le_refl _⟩
  have hE:ER Z wU H.ro (Q6 ds 0) (vz args 0):=ZX 0 (ha.mono fun _ _ hr=>xG.mono (xo.of_le (fun _ h=>h) (Le.ro H)) (xP.refl wU) hr);refine yR ((h Z H.nx).run Z wU H.ro _ hS hE) fun e F' H' ⟨E',S',nk',Z',β',h1,h2,h3⟩=>?_;have fin:(∃d,j6 (Par.base P G GH Z H.nx) E' S' sf.res=some d/\Kq d=true/\∃S0,yC S0 S'/\R d S0 nk')->∃v,ye F' H' sf.res=some v/\∃d S' nk' Z' β',SR (Par.base P G GH Z H.nx) Z' β' H' S' nk'/\xG Z' H' β' d v/\R d S' nk':=fun⟨d,hd,hfr,S0,hsub,hR⟩=>by
   obtain⟨v,hv,hr⟩:=Jf h1 h2 hd hfr;exact⟨v,hv,d,S0,nk',Z',β',h1.keepS hsub,hr,hR⟩
  cases e with
  |normal=>obtain⟨v,hv,hr⟩:=fin h3;simp only [Xj,hv];exact hr
  |ret=>obtain⟨v,hv,hr⟩:=fin h3;simp only [Xj,hv];exact hr
  |_=>exact h3.elim
 refine (qJ.none (qJ.wf (qJ.grow hro))).mono ?_;rintro v H' ⟨⟨⟨H1,⟨d,S',nk',Z',β',hS1,hr,hR⟩,e1,e2,e3,e4,e5⟩,hw'⟩,hno⟩;have hnx:H'.nx=H1.nx:=by rw [e1];rfl
 have hold:∀b,b<H.nx->H'.get b=H.get b:=fun b hb=>by
  cases hgb:H.get b with
  |none=>exact hno b hb hgb
  |some bk=>exact e3 b bk hgb
 have hZ:xo Z' H1 Z' H':=xo.of_le (fun _ h=>h) e5;refine⟨by omega,hold,d,S',nk',Z',β',⟨hw',by simp only;omega,fun b hb=>by rw [hnx];exact hS1.z b hb,hS1.zlo,hS1.zz,fun b bk hb=>⟨(hS1.glob b bk hb).1,?_⟩,hS1.nk,fun κ b N hκ=>by rw [hnx];exact hS1.bd κ b N hκ,fun κ x hκ=>?_,hS1.inj,hS1.blo,hS1.anch,hS1.ancn⟩,hr.mono hZ (xP.refl β'),hR⟩
 ·rcases hb with hb|⟨_,hb⟩
  ·rw [hold b (hz b (hg b bk hb).1)];exact (hg b bk hb).2
  ·cases hb
 ·obtain⟨s,hs,hbx⟩:=hS1.box κ x hκ;refine⟨s,hs,?_⟩;cases s with
  |nil=>exact hbx
  |blk b N=>
   obtain⟨h1,h2,h3,cs,rest,h4,h5,h6⟩:=hbx;exact⟨h1,h2,oM,cs,rest,h4.same (e4 b h2),h5,Bk.rel_mono hZ (xP.refl _) h6⟩
def TR(n:Nat):List (Nat × Nat)->List (Nat × Nat)
 |[]=>[]
 |(k,o)::r=>(k+n,o)::TR n r
def Ya(n:Nat):DC->DC
 |.ptr k o=>.ptr (k+n) o
 |.own k o m e=>.own (k+n) o m e
 |.tptr k i o=>.tptr (k+n) i o
 |.trow k i o m=>.trow (k+n) i o m
 |.fn f l=>.fn f (TR n l)
 |.om k=>.om (k+n)
 |.yl k=>.yl (k+n)
 |d=>d
def TT:Nat->DV->DV
 |n,.one d=>.one (Ya n d)
 |n,.agg l=>.agg (l.map (Ya n))
 |_,.tup l=>.tup l
def shV(n:Nat):DV->DV
 |.one d=>.one (Ya n d)
 |.agg l=>.agg (l.map (Ya n))
 |.tup l=>.tup (l.map (TT n))
def V8(n:Nat):Bk->Bk
 |.cells l=>.cells (l.map (Ya n))
 |.data l=>.data l
 |.tree l=>.tree l
 |.mp ks l=>.mp ks (l.map (Ya n))
 |.mt es=>.mt (wh (Ya n) es)
theorem dX(n:Nat)(x:Bk):(V8 n x).shape=x.shape:=by cases x<;>rfl
def gZ(n:Nat):Bx->Bx->Bx
 |[],T=>T
 |(k,x)::r,T=>(k+n,V8 n x)::gZ n r T
section
variable{Z:Nat->Prop}{H:Hp}{β β':qw}{n:Nat}
theorem BC(hβ:∀k i,β' (k+n,i)=β (k,i)):∀{l l':List (Nat × Nat)},jW β l l'->jW β' (TR n l) l'
 |[],[],_=>trivial
 |(_,_)::_,(_,_)::_,h=>⟨h.1,by obtain⟨N,hN⟩:=h.2.1;exact⟨N,by rw [hβ];exact hN⟩,BC hβ h.2.2⟩
 |[],_::_,h=>h.elim
 |(_,_)::_,[],h=>h.elim
theorem g9(hβ:∀k i,β' (k+n,i)=β (k,i)){d:DC}{c:C}(h:RD Z H β d c):RD Z H β' (Ya n d) c:=by
 cases d with
 |ptr k o=>obtain⟨b,N,h1,h2⟩:=h;exact⟨b,N,by rw [hβ];exact h1,h2⟩
 |tptr k i o=>obtain⟨b,N,h1,h2⟩:=h;exact⟨b,N,by rw [hβ];exact h1,h2⟩
 |own k o m e=>
  rcases h with⟨h1,h2⟩|⟨b,N,cap,ex,h1,h2⟩
  ·exact .inl ⟨by rw [hβ];exact h1,h2⟩
  ·exact .inr ⟨b,N,cap,ex,by rw [hβ];exact h1,h2⟩
 |trow k i o m=>
  rcases h with⟨h1,h2⟩|⟨b,N,cap,ex,h1,h2⟩
  ·exact .inl ⟨by rw [hβ];exact h1,h2⟩
  ·exact .inr ⟨b,N,cap,ex,by rw [hβ];exact h1,h2⟩
 |fn f l=>obtain⟨l',h1,h2⟩:=h;exact⟨l',h1,BC hβ h2⟩
 |f d=>exact h
 |g b o=>exact h
 |fptr l=>exact h
 |any=>trivial
 |om k=>obtain⟨b,N,h1,h2⟩:=h;exact⟨b,N,by rw [hβ];exact h1,h2⟩
 |yl k=>obtain⟨b,N,h1,h2⟩:=h;exact⟨b,N,by rw [hβ];exact h1,h2⟩
 |fz f ls=>exact h
theorem Wb(hβ:∀k i,β' (k+n,i)=β (k,i)):∀{l:List DC} {cs:List C},qg (RD Z H β) l cs->qg (RD Z H β') (l.map (Ya n)) cs
 |[],[],_=>trivial
 |_::_,_::_,h=>⟨g9 hβ h.1,Wb hβ h.2⟩
 |[],_::_,h=>h.elim
 |_::_,[],h=>h.elim
theorem TS(hβ:∀k i,β' (k+n,i)=β (k,i)){d:DV}{v:V}(h:zy Z H β d v):zy Z H β' (TT n d) v:=by
 cases d with
 |one d=>obtain⟨c,rfl,h⟩:=h;exact⟨c,rfl,g9 hβ h⟩
 |agg l=>obtain⟨c,rfl,h⟩:=h;exact⟨c,rfl,Wb hβ h⟩
 |tup l=>exact h.elim
theorem TQ(hβ:∀k i,β' (k+n,i)=β (k,i)){d:DV}{v:V}(h:xG Z H β d v):xG Z H β' (shV n d) v:=by
 cases d with
 |one d=>obtain⟨c,rfl,h⟩:=h;exact⟨c,rfl,g9 hβ h⟩
 |agg l=>obtain⟨c,rfl,h⟩:=h;exact⟨c,rfl,Wb hβ h⟩
 |tup l=>
  obtain⟨c,rfl,h⟩:=h;refine⟨c,rfl,?_⟩;have key:∀{l:List DV} {cs:List V},qg (zy Z H β) l cs->qg (zy Z H β') (l.map (TT n)) cs:=by
   intro l;induction l with
   |nil=>intro cs h;cases cs with
    |nil=>trivial
    |cons _ _=>exact h.elim
   |cons d l ih=>intro cs h;cases cs with
    |nil=>exact h.elim
    |cons c cs=>exact⟨TS hβ h.1,ih h.2⟩
  exact key h
theorem BB(k:Nat):∀(i:Nat) (rows:List (List FD)),(zh k i rows).map (Ya n)=zh (k+n) i rows
 |_,[]=>rfl
 |i,r::rs=>by simp only [zh,List.map_cons,BB k (i+1) rs,Ya]
end
theorem lE(n:Nat)(T:Bx)(hT:∀k x,lk T k=some x->k<n):∀(S:Bx) (k:Nat),lk (gZ n S T) k=if k<n then lk T k else (lk S (k-n)).map (V8 n)
 |[],k=>by
  simp only [gZ,lk];split
  ·rfl
  ·rename_i hk;cases hl:lk T k with
   |none=>rfl
   |some x=>exact absurd (hT k x hl) hk
 |(j,x)::S,k=>by
  simp only [gZ,qT];rw [lE n T hT S k];by_cases hk:k<n
  ·rw [if_pos hk,if_pos hk,if_neg (by omega)]
  ·rw [if_neg hk,if_neg hk];by_cases e:j+n=k
   ·rw [if_pos e,if_pos (by omega)];rfl
   ·rw [if_neg e,if_neg (by omega)]
theorem OR(n:Nat)(T:Bx)(hT:∀k x,lk T k=some x->k<n)(S:Bx)(κ:zF):qR (gZ n S T) κ=if κ.1<n then qR T κ else (qR S (κ.1-n,κ.2)).map (V8 n):=by
 obtain⟨k,i⟩:=κ;have hl:=lE n T hT S k;by_cases hk:k<n
 ·rw [if_pos hk] at hl ⊢;exact ya hl
 ·rw [if_neg hk] at hl;simp only [if_neg hk];cases i with
  |zero=>
   simp only [qR,hl];cases hs:lk S (k-n) with
   |none=>rfl
   |some x=>
    cases x with
    |tree rows=>simp only [Option.map_some,V8,BB];rw [Nat.sub_add_cancel (by omega)]
    |cells l=>rfl
    |data l=>rfl
    |mp ks l=>rfl
    |mt es=>
     simp only [Option.map_some,V8];rw [YP (Ya n) (k-n) k (fun _=>rfl) (fun i m=>by simp only [Ya];rw [Nat.sub_add_cancel (by omega)])]
  |succ i=>
   simp only [qR,hl];cases hs:lk S (k-n) with
   |none=>rfl
   |some x=>
    cases x with
    |tree rows=>
     simp only [Option.map_some,V8];cases rows[i]?<;>rfl
    |cells l=>rfl
    |data l=>rfl
    |mp ks l=>rfl
    |mt es=>
     show wg (wh (Ya n) es)[i]?=(wg es[i]?).map (V8 n)
     rw [Wz];cases hm:wg es[i]? with
     |none=>rfl
     |some x=>obtain⟨_,r,_,rfl⟩:=wr hm;rfl
section
variable{p:Par}{base rs:Nat}{Q:qp->Bx->Nat->Prop}{r:List SOper}{W:Wt}{A:List Nat}{E:qp}{S:Bx}{nk:Nat}{id:Nat}{dst:Option Nat}{aid:Option Nat}{ws:List Nat}{keep:Bool}
theorem jr{f:FuncId}{args:List Opd}{ds:List DV}{R:DV->Bx->Nat->Prop}(hvs:Zc E args=some ds)(hf:qW WJ ds=true)(hc:dF p.P p.G p.GH f ds R)(h:∀d S' nk',R d S' nk'->DPW p base rs Q r W A (xn E dst (shV nk d)) (gZ nk S' S) (nk'+nk)):DPW p base rs Q (⟨id,dst,.cf f args,none,aid,ws,keep⟩::r) W A E S nk:=.mk fun Z β H F c hS hE hC hA=>by
 simp only [qE,qv,if_true];refine (hc H Z _ hS.wf hS.z (fun b bk hb=>hS.glob b bk (.inl hb)) (KB hf (kS hE hvs))).mono ?_;rintro v H' ⟨hnx,hg,d,S',nk',Z',β',hS',hr,hR⟩;have hz1:∀b,Z b->Z' b:=hS'.zz;have hz2:∀b,Z' b->b<H.nx->Z b:=fun b hb hl=>(hS'.zlo b hb).elim (fun h=>h) fun h=>by simp only at h;omega
 have hZ:xo Z H Z' H':=xo.of_get hz1 fun b hb=>hg b (hS.z b hb);let β'':qw:=fun κ=>if κ.1<nk then β κ else β' (κ.1-nk,κ.2)
 have hβ:∀k i,β'' (k+nk,i)=β' (k,i):=fun k i=>by simp only [β'',if_neg (show¬k+nk<nk by omega),Nat.add_sub_cancel]
 have hlo:∀κ,κ.1<nk->β'' κ=β κ:=fun κ h=>by simp [β'',h]
 have hhi:∀κ:zF,¬κ.1<nk->β'' κ=β' (κ.1-nk,κ.2):=fun κ h=>by simp [β'',h]
 have hB:xP β β'':=fun κ s hκ=>by rw [hlo κ (hS.lt1 hκ)];exact hκ
 have hT:∀k x,lk S k=some x->k<nk:=fun k x hk=>hS.lt hk;have hnew:∀(κ:zF) x b N,lk S' κ.1=some x->β' κ=some (.blk b N)->(∃y,qR S' κ=some y)->H.nx<=b:=fun κ x b N _ hb ⟨y,hy⟩=>hS'.lo2 hy hb;have hSS:SR p Z' β'' H' (gZ nk S' S) (nk'+nk):=by
  refine⟨hS'.wf,Nat.le_trans hS.lo hnx,hS'.z,fun b hb=>?_,fun b hb=>hz1 b (hS.zz b hb),fun b bk hb=>?_,fun κ hκ=>?_,fun κ b N hκ=>?_,fun κ x hκ=>?_,fun κ κ' x x' b N N' hκ hκ' h1 h2=>?_,fun κ b N hκ=>?_,fun κ hκ h0=>by rw [hlo κ (Nat.lt_of_lt_of_le hκ hS.ancn)];exact hS.anch κ hκ h0,by have:=hS.ancn;omega⟩
  ·rcases hS'.zlo b hb with h|h
   ·exact hS.zlo b h
   ·exact .inr (Nat.le_trans hS.lo h)
  ·obtain⟨h1,h2⟩:=hS.glob b bk hb;exact⟨hz1 b h1,by rw [hg b (hS.z b h1)];exact h2⟩
  ·rw [hhi κ (by omega)];exact hS'.nk _ (by simp only;omega)
  ·by_cases hk:κ.1<nk
   ·rw [hlo κ hk] at hκ;exact Nat.lt_of_lt_of_le (hS.bd κ b N hκ) hnx
   ·rw [hhi κ hk] at hκ;exact hS'.bd _ b N hκ
  ·rw [OR nk S hT] at hκ;by_cases hk:κ.1<nk
   ·rw [if_pos hk] at hκ;obtain⟨s,hs,hbx⟩:=hS.box κ x hκ;refine⟨s,hB κ s hs,?_⟩;cases s with
    |nil=>exact hbx
    |blk b N=>
     obtain⟨g1,g2,g3,cs,rest,g4,g5,g6⟩:=hbx;exact⟨fun h=>g1 (hz2 b h g3),g2,oM,cs,rest,g4.same (hg b g3),g5,Bk.rel_mono hZ hB g6⟩
   ·rw [if_neg hk] at hκ;cases hs:qR S' (κ.1-nk,κ.2) with
    |none=>rw [hs] at hκ;cases hκ
    |some y=>
     rw [hs] at hκ;obtain rfl:=zsi hκ;obtain⟨s,hs',hbx⟩:=hS'.box _ y hs;refine⟨s,by rw [hhi κ hk];exact hs',?_⟩;cases s with
     |nil=>cases y<;>simpa [jd,V8,Bk.len,wh] using hbx
     |blk b N=>
      obtain⟨g1,g2,g3,cs,rest,g4,g5,g6⟩:=hbx;refine⟨g1,Nat.le_trans hS.lo g2,g3,cs,rest,by rw [dX];exact g4,by rw [dX];exact g5,?_⟩;cases y with
      |cells l=>exact Wb hβ g6
      |data l=>exact g6
      |tree l=>exact g6.elim
      |mp ks l=>exact Wb hβ g6
      |mt es=>exact g6.elim
  ·rw [lE nk S hT] at hκ hκ';by_cases hk:κ.1<nk
   ·rw [if_pos hk] at hκ;rw [hlo κ hk] at h1;by_cases hk':κ'.1<nk
    ·rw [if_pos hk'] at hκ';rw [hlo κ' hk'] at h2;exact hS.inj κ κ' x x' b N N' hκ hκ' h1 h2
    ·rw [hhi κ' hk'] at h2;exact absurd (hS'.blo _ _ _ h2) fun hge=>by have:=hS.bd κ b N h1;simp only at hge;omega
   ·rw [if_neg hk] at hκ;rw [hhi κ hk] at h1;by_cases hk':κ'.1<nk
    ·rw [hlo κ' hk'] at h2;exact absurd (hS'.blo _ _ _ h1) fun hge=>by have:=hS.bd κ' b N' h2;simp only at hge;omega
    ·rw [if_neg hk'] at hκ';rw [hhi κ' hk'] at h2;cases e1:lk S' (κ.1-nk) with
     |none=>rw [e1] at hκ;cases hκ
     |some z1=>
      cases e2:lk S' (κ'.1-nk) with
      |none=>rw [e2] at hκ';cases hκ'
      |some z2=>
       have:=hS'.inj (κ.1-nk,κ.2) (κ'.1-nk,κ'.2) z1 z2 b N N' e1 e2 h1 h2;obtain⟨q1,q2⟩:=Prod.mk.inj this;obtain⟨a,i⟩:=κ;obtain⟨a',i'⟩:=κ';simp only at hk hk' q1 q2;rw [q2,show a=a' by omega]
  ·by_cases hk:κ.1<nk
   ·rw [hlo κ hk] at hκ;exact hS.blo κ b N hκ
   ·rw [hhi κ hk] at hκ;exact Nat.le_trans hS.lo (hS'.blo _ b N hκ)
 have hC':=hC.same hZ hB hg hS.wf;refine⟨hC'.watch ws,(h d S' nk' hR).run _ β'' H' _ c hSS ((hE.mono hZ hB).set dst (TQ hβ hr)) hC' ⟨hA.1,fun j hj hjA=>?_⟩⟩;obtain⟨h1,h2,h3,h4⟩:=hA.2 j hj hjA;refine⟨by omega,by rw [hg _ h1];exact h2,fun h=>h3 (hz2 _ h h1),fun κ N hκ=>?_⟩;by_cases hk:κ.1<nk
 ·rw [hlo κ hk] at hκ;exact h4 κ N hκ
 ·rw [hhi κ hk] at hκ;have:=hS'.blo _ _ _ hκ;simp only at this;omega
end
def vV(β β':qw):Prop:=∀k s,β (k,0)=some s->β' (k,0)=some s
def VA:DC->Bool
 |.trow _ _ _ _=>false
 |.tptr _ _ _=>false
 |_=>true
def s8:DV->Bool
 |.one d=>VA d
 |.agg l=>qW VA l
 |.tup _=>false
def FV:DV->Bool
 |.tup l=>qW s8 l
 |.one d=>VA d
 |.agg l=>qW VA l
def YO:qp->Bool
 |[]=>true
 |(_,d)::E=>match FV d with
  |true=>YO E
  |false=>false
section
variable{Z Z':Nat->Prop}{H H':Hp}{β β':qw}
theorem NH(hb:vV β β'):∀{l l':List (Nat × Nat)},jW β l l'->jW β' l l'
 |[],[],_=>trivial
 |(_,_)::_,(_,_)::_,⟨h1,⟨N,h2⟩,h3⟩=>⟨h1,⟨N,hb _ _ h2⟩,NH hb h3⟩
theorem RD.mono0(h:xo Z H Z' H')(hb:vV β β'){d:DC}{c:C}(ht:VA d=true)(hr:RD Z H β d c):RD Z' H' β' d c:=by
 cases d with
 |f d=>exact RF.mono h hr
 |g b o=>exact hr
 |ptr k o=>obtain⟨b,N,h1,h2⟩:=hr;exact⟨b,N,hb _ _ h1,h2⟩
 |own k o n esz=>
  rcases hr with⟨h1,h2⟩|⟨b,N,cap,ex,h1,h2⟩
  ·exact .inl ⟨hb _ _ h1,h2⟩
  ·exact .inr ⟨b,N,cap,ex,hb _ _ h1,h2⟩
 |fptr l=>obtain⟨b,o,cs,h1,h2,h3,h4⟩:=hr;exact⟨b,o,cs,h1,(h b h2).1,h.loads h2 h3,h4.mono fun _ _=>RF.mono h⟩
 |fn f caps=>obtain⟨caps',h1,h2⟩:=hr;exact⟨caps',h1,NH hb h2⟩
 |any=>trivial
 |om k=>obtain⟨b,N,h1,h2⟩:=hr;exact⟨b,N,hb _ _ h1,h2⟩
 |yl k=>obtain⟨b,N,h1,h2⟩:=hr;exact⟨b,N,hb _ _ h1,h2⟩
 |fz f ls=>obtain⟨caps,h1,h2⟩:=hr;exact⟨caps,h1,h2.mono h⟩
 |tptr k i o=>cases ht
 |trow k i o n=>cases ht
theorem RDL.mono0(h:xo Z H Z' H')(hb:vV β β'):∀{l:List DC} {cs:List C},qW VA l=true->qg (RD Z H β) l cs->qg (RD Z' H' β') l cs
 |[],[],_,_=>trivial
 |d::l,c::cs,ha,hr=>by
  have h1:=yk ha d (by simp);have h2:qW VA l=true:=by simp only [qW,h1] at ha;exact ha
  exact⟨RD.mono0 h hb h1 hr.1,RDL.mono0 h hb h2 hr.2⟩
 |[],_::_,_,hr=>hr.elim
 |_::_,[],_,hr=>hr.elim
theorem zy.mono0(h:xo Z H Z' H')(hb:vV β β'){d:DV}{v:V}(ht:s8 d=true)(hr:zy Z H β d v):zy Z' H' β' d v:=by
 cases d with
 |one d=>obtain⟨c,h1,h2⟩:=hr;exact⟨c,h1,RD.mono0 h hb ht h2⟩
 |agg l=>obtain⟨c,h1,h2⟩:=hr;exact⟨c,h1,RDL.mono0 h hb ht h2⟩
 |tup l=>cases ht
theorem RDV1L.mono0(h:xo Z H Z' H')(hb:vV β β'):∀{l:List DV} {vs:List V},qW s8 l=true->qg (zy Z H β) l vs->qg (zy Z' H' β') l vs
 |[],[],_,_=>trivial
 |d::l,c::cs,ha,hr=>by
  have h1:=yk ha d (by simp);have h2:qW s8 l=true:=by simp only [qW,h1] at ha;exact ha
  exact⟨zy.mono0 h hb h1 hr.1,RDV1L.mono0 h hb h2 hr.2⟩
 |[],_::_,_,hr=>hr.elim
 |_::_,[],_,hr=>hr.elim
theorem xG.mono0(h:xo Z H Z' H')(hb:vV β β'){d:DV}{v:V}(ht:FV d=true)(hr:xG Z H β d v):xG Z' H' β' d v:=by
 cases d with
 |one d=>exact zy.mono0 (d:=.one d) h hb ht hr
 |agg l=>exact zy.mono0 (d:=.agg l) h hb ht hr
 |tup l=>obtain⟨vs,h1,h2⟩:=hr;exact⟨vs,h1,RDV1L.mono0 h hb ht h2⟩
theorem B7:∀{E:qp} {n:Nat} {d:DV},YO E=true->lk E n=some d->FV d=true
 |[],_,_,_,h=>by cases h
 |(k,x)::E,n,d,ht,h=>by
  simp only [YO] at ht;split at ht
  ·rename_i hx;rw [qT] at h;split at h
   ·obtain rfl:=zsi h;exact hx
   ·exact B7 ht h
  ·cases ht
theorem ER.mono0(h:xo Z H Z' H')(hb:vV β β'){E:qp}{F:T V}(ht:YO E=true)(hr:ER Z β H E F):ER Z' β' H' E F:=fun n d hd=>by
 obtain⟨v,h1,h2⟩:=hr n d hd;exact⟨v,h1,xG.mono0 h hb (B7 ht hd) h2⟩
end
def DX(p:Par)(f:FuncId)(ds:List DV)(S:Bx)(nk:Nat)(R:DV->Bx->Nat->Prop):Prop:=∀Z β H args,SR p Z β H S nk->qg (xG Z H β) ds args->
 qJ p.P p.G f args H fun v H'=>∃d S' nk' Z' β',SR p Z' β' H' S' nk'/\xG Z' H' β' d v/\xo Z H Z' H'/\vV β β'/\R d S' nk'
theorem DX.mono{p:Par}{f:FuncId}{ds:List DV}{S:Bx}{nk:Nat}{R R':DV->Bx->Nat->Prop}(h:DX p f ds S nk R)(hr:∀d S nk,R d S nk->R' d S nk):DX p f ds S nk R':=fun Z β H args h1 h2=>(h Z β H args h1 h2).mono fun _ _ ⟨d,S',nk',Z',β',g1,g2,g3,g4,g5⟩=>⟨d,S',nk',Z',β',g1,g2,g3,g4,hr _ _ _ g5⟩
abbrev Par.hold(p:Par)(Z:Nat->Prop)(nk:Nat)(β:qw)(H:Hp):Par:=⟨p.P,p.G,p.GH,Z,p.lo,nk,β,H,none⟩
theorem SR.hold{p:Par}{Z:Nat->Prop}{β:qw}{H:Hp}{S:Bx}{nk:Nat}(h:SR p Z β H S nk):SR (p.hold Z nk β H) Z β H S nk:=
 ⟨h.wf,h.lo,h.z,fun _ hb=>.inl hb,fun _ hb=>hb,fun b bk hb=>hb.elim (fun hb=>h.glob b bk (.inl hb)) fun hb=>hb,h.nk,h.bd,h.box,h.inj,h.blo,fun _ _ _=>rfl,Nat.le_refl _⟩
theorem SR.free{p:Par}{Z Z':Nat->Prop}{β β':qw}{H H':Hp}{S S':Bx}{nk nk':Nat}(h:SR p Z β H S nk)(h':SR (p.hold Z nk β H) Z' β' H' S' nk'):SR p Z' β' H' S' nk'/\xo Z H Z' H'/\vV β β':=by
 have hz:∀b,Z b->Z' b:=h'.zz;refine⟨⟨h'.wf,h'.lo,h'.z,fun b hb=>(h'.zlo b hb).elim (h.zlo b) .inr,fun b hb=>hz b (h.zz b hb),fun b bk hb=>h'.glob b bk (.inr (h.glob b bk hb)),h'.nk,h'.bd,h'.box,h'.inj,h'.blo,fun κ hκ h0=>?_,Nat.le_trans h.ancn h'.ancn⟩,fun b hb=>⟨hz b hb,fun i c hc=>?_⟩,fun k s hκ=>?_⟩
 ·exact (h'.anch κ (Nat.lt_of_lt_of_le hκ h.ancn) h0).trans (h.anch κ hκ h0)
 ·unfold Hp.cell at hc ⊢;cases hg:H.get b with
  |none=>rw [hg] at hc;cases hc
  |some bk=>rw [(h'.glob b bk (.inr ⟨hb,hg⟩)).2];rw [hg] at hc;exact hc
 ·exact (h'.anch (k,0) (h.lt1 hκ) rfl).trans hκ
theorem qo1 {p:Par} {f:FuncId} {sf:SFn} (hf:qG p.P p.G f=some sf) {ds:List DV} {S:Bx} {nk:Nat} {R:DV->Bx->Nat->Prop} (hn:Nat.ble ds.length sf.n=true)
 (h:∀Z β H,DPS (p.hold Z nk β H) sf.n sf.code (cI (p.hold Z nk β H) sf.res R) (Q6 ds 0) S nk):DX p f ds S nk R:=by
 intro Z β H args hS ha;refine Jt hf (by rw [<-ha.len];exact Nat.le_of_ble_eq_true hn) ?_;refine yR ((h Z β H).run Z β H _ hS.hold (ZX 0 ha)) fun e F' H' ⟨E',S',nk',Z',β',h1,h2,h3⟩=>?_;have fin:(∃d,j6 (p.hold Z nk β H) E' S' sf.res=some d/\Kq d=true/\∃S0,yC S0 S'/\R d S0 nk')->∃v,ye F' H' sf.res=some v/\∃d S' nk' Z' β',SR p Z' β' H' S' nk'/\xG Z' H' β' d v/\xo Z H Z' H'/\vV β β'/\R d S' nk':=fun⟨d,hd,hfr,S0,hsub,hR⟩=>by
  obtain⟨v,hv,hr⟩:=Jf h1 h2 hd hfr;obtain⟨g1,g2,g3⟩:=hS.free (h1.keepS hsub);exact⟨v,hv,d,S0,nk',Z',β',g1,hr,g2,g3,hR⟩
 cases e with
 |normal=>obtain⟨v,hv,hr⟩:=fin h3;simp only [Xj,hv];exact hr
 |ret=>obtain⟨v,hv,hr⟩:=fin h3;simp only [Xj,hv];exact hr
 |_=>exact h3.elim
def noW:Wt->Bool
 |[]=>true
 |(_,none)::W=>noW W
 |_::_=>false
theorem CR.noW{W:Wt}{Z Z':Nat->Prop}{β β':qw}{H H':Hp}{c:zR}(h:CR W Z β H c)(hW:∀y∈W,y.2=none)(hZ:xo Z H Z' H'):CR W Z' β' H' c:=fun x hx=>by
 obtain⟨y,hy,hw⟩:=h x hx;refine⟨y,hy,?_⟩;have e:=hW y hy;obtain⟨y1,y2⟩:=y;simp only at e;subst e;obtain⟨b,hb,hq⟩:=hw;exact⟨b,(hZ b hb).1,fun H'' hh=>hq H'' fun i c hc=>hh i c ((hZ b hb).2 i c hc)⟩
theorem Xn:∀{W:Wt},noW W=true->∀y∈W,y.2=none
 |[],_,y,hy=>by cases hy
 |(_,none)::W,h,y,hy=>by
  rcases List.mem_cons.1 hy with rfl|hy
  ·rfl
  ·exact Xn (W:=W) h y hy
 |(_,some _)::_,h,_,_=>by cases h
def KN:List (Nat × Nat)->List DV
 |[]=>[]
 |(k,o)::r=>.one (.ptr k o)::KN r
theorem JC{Z:Nat->Prop}{β:qw}{H:Hp}:∀{l l':List (Nat × Nat)},jW β l l'->qg (xG Z H β) (KN l) (l'.map Ji)
 |[],[],_=>trivial
 |(k,o)::r,(b,o')::r',⟨h1,⟨N,h2⟩,h3⟩=>⟨⟨_,rfl,b,N,h2,by rw [h1]⟩,JC h3⟩
section
variable{p:Par}{base rs:Nat}{Q:qp->Bx->Nat->Prop}{r:List SOper}{W:Wt}{A:List Nat}{E:qp}{S:Bx}{nk:Nat}{id:Nat}{dst:Option Nat}{aid:Option Nat}{ws:List Nat}{keep:Bool}
theorem vA{f:FuncId}{args:List Opd}{ds:List DV}{R:DV->Bx->Nat->Prop}(hvs:Zc E args=some ds)(hW:noW W=true)(hT:YO E=true)(hc:DX p f ds S nk R)(h:∀d S' nk',R d S' nk'->DPW p base 0 Q r W A (xn E dst d) S' nk'):DPW p base rs Q (⟨id,dst,.cf f args,none,aid,ws,keep⟩::r) W A E S nk:=.mk fun Z β H F c hS hE hC hA=>by
 simp only [qE,qv,if_true];refine (hc Z β H _ hS (kS hE hvs)).mono ?_;rintro v H' ⟨d,S',nk',Z',β',hS',hr,hZ,hB,hR⟩;have hC':CR W Z' β' H' c:=hC.noW (Xn hW) hZ;exact⟨hC'.watch ws,(h d S' nk' hR).run Z' β' H' _ c hS' ((hE.mono0 hZ hB hT).set dst hr) hC' ⟨hA.1,fun j hj=>absurd hj oM⟩⟩
theorem DM{x:Opd}{f:FuncId}{caps:List (Nat × Nat)}{args:List Opd}{ds:List DV}{R:DV->Bx->Nat->Prop}(hx:ro E x=some (.one (.fn f caps)))(hf:qB p.P f=true)(hvs:Zc E args=some ds)(hW:noW W=true)(hT:YO E=true)(hc:DX p f (ds++KN caps) S nk R)(h:∀d S' nk',R d S' nk'->DPW p base 0 Q r W A (xn E dst d) S' nk'):DPW p base rs Q (⟨id,dst,.cv x args,none,aid,ws,keep⟩::r) W A E S nk:=.mk fun Z β H F c hS hE hC hA=>by
 obtain⟨cx,hcx,caps',rfl,hcaps⟩:=xg hE hx;simp only [qE,qv,if_true,hcx];refine⟨hf,?_⟩;refine (hc Z β H _ hS ((kS hE hvs).append (JC hcaps))).mono ?_;rintro v H' ⟨d,S',nk',Z',β',hS',hr,hZ,hB,hR⟩;have hC':CR W Z' β' H' c:=hC.noW (Xn hW) hZ;exact⟨hC'.watch ws,(h d S' nk' hR).run Z' β' H' _ c hS' ((hE.mono0 hZ hB hT).set dst hr) hC' ⟨hA.1,fun j hj=>absurd hj oM⟩⟩
theorem qai{x:Opd}{f:FuncId}{args:List Opd}{ds:List DV}{R:DV->Prop}(hx:ro E x=some (.one (.f (.c (.fn f [])))))(hfn:qB p.P f=true)(hvs:Zc E args=some ds)(hf:qW WJ ds=true)(hc:yg p.P p.G p.GH f ds R)(h:∀d,R d->DPW p base rs Q r W A (xn E dst d) S nk):DPW p base rs Q (⟨id,dst,.cv x args,none,aid,ws,keep⟩::r) W A E S nk:=.mk fun Z β H F c hS hE hC hA=>by
 have hw:=(qk (id:=id) (dst:=dst) (aid:=aid) (ws:=ws) (keep:=keep) hvs hf hc h).run Z β H F c hS hE hC hA;obtain⟨cx,hcx,hr⟩:=xg hE hx;cases hr;simp only [qE,qv,if_true] at hw;simp only [qE,qv,if_true,hcx,List.map_nil,List.append_nil];exact⟨hfn,hw⟩
end
def wH(kb:Nat):DC->Bool
 |.trow k _ _ _=>!(Nat.beq k kb)
 |.tptr k _ _=>!(Nat.beq k kb)
 |_=>true
def tA(kb:Nat):DV->Bool
 |.one d=>wH kb d
 |.agg l=>qW (wH kb) l
 |.tup _=>false
def FW(kb:Nat):DV->Bool
 |.tup l=>qW (tA kb) l
 |.one d=>wH kb d
 |.agg l=>qW (wH kb) l
def VB(kb:Nat):qp->Bool
 |[]=>true
 |(_,d)::E=>match FW kb d with
  |true=>VB kb E
  |false=>false
def ka(kb:Nat):List (Int × ME)->Bool
 |[]=>true
 |(_,.row _)::es=>ka kb es
 |(_,.out c)::es=>match wH kb c with
  |true=>ka kb es
  |false=>false
def s9(kb:Nat):Bk->Bool
 |.cells l=>qW (wH kb) l
 |.mp _ l=>qW (wH kb) l
 |.mt es=>ka kb es
 |_=>true
def Yv(kb:Nat):Bx->Bool
 |[]=>true
 |(k,x)::S=>match Nat.beq k kb with
  |true=>Yv kb S
  |false=>match s9 kb x with
   |true=>Yv kb S
   |false=>false
def Xx(kb:Nat)(β β':qw):Prop:=∀κ s,(κ.1≠kb\/κ.2=0)->β κ=some s->β' κ=some s
section
variable{Z:Nat->Prop}{H H':Hp}{β β':qw}{kb:Nat}
theorem NG(hb:Xx kb β β'):∀{l l':List (Nat × Nat)},jW β l l'->jW β' l l'
 |[],[],_=>trivial
 |(_,_)::_,(_,_)::_,⟨h1,⟨N,h2⟩,h3⟩=>⟨h1,⟨N,hb _ _ (.inr rfl) h2⟩,NG hb h3⟩
theorem Jm{k:Nat}(h:(!(Nat.beq k kb))=true):k≠kb:=by
 rintro rfl;rw [jS] at h;cases h
theorem RD.monoK(hb:Xx kb β β'){d:DC}{c:C}(ht:wH kb d=true)(hr:RD Z H β d c):RD Z H β' d c:=by
 cases d with
 |f d=>exact hr
 |g b o=>exact hr
 |ptr k o=>obtain⟨b,N,h1,h2⟩:=hr;exact⟨b,N,hb _ _ (.inr rfl) h1,h2⟩
 |own k o n esz=>
  rcases hr with⟨h1,h2⟩|⟨b,N,cap,ex,h1,h2⟩
  ·exact .inl ⟨hb _ _ (.inr rfl) h1,h2⟩
  ·exact .inr ⟨b,N,cap,ex,hb _ _ (.inr rfl) h1,h2⟩
 |fptr l=>exact hr
 |fn f caps=>obtain⟨caps',h1,h2⟩:=hr;exact⟨caps',h1,NG hb h2⟩
 |any=>trivial
 |om k=>obtain⟨b,N,h1,h2⟩:=hr;exact⟨b,N,hb _ _ (.inr rfl) h1,h2⟩
 |yl k=>obtain⟨b,N,h1,h2⟩:=hr;exact⟨b,N,hb _ _ (.inr rfl) h1,h2⟩
 |fz f ls=>exact hr
 |tptr k i o=>obtain⟨b,N,h1,h2⟩:=hr;exact⟨b,N,hb _ _ (.inl (Jm ht)) h1,h2⟩
 |trow k i o n=>
  rcases hr with⟨h1,h2⟩|⟨b,N,cap,ex,h1,h2⟩
  ·exact .inl ⟨hb _ _ (.inl (Jm ht)) h1,h2⟩
  ·exact .inr ⟨b,N,cap,ex,hb _ _ (.inl (Jm ht)) h1,h2⟩
theorem RDL.monoK(hb:Xx kb β β'):∀{l:List DC} {cs:List C},qW (wH kb) l=true->qg (RD Z H β) l cs->qg (RD Z H β') l cs
 |[],[],_,_=>trivial
 |d::l,c::cs,ha,hr=>by
  have h1:=yk ha d (by simp);have h2:qW (wH kb) l=true:=by simp only [qW,h1] at ha;exact ha
  exact⟨RD.monoK hb h1 hr.1,RDL.monoK hb h2 hr.2⟩
 |[],_::_,_,hr=>hr.elim
 |_::_,[],_,hr=>hr.elim
theorem zy.monoK(hb:Xx kb β β'){d:DV}{v:V}(ht:tA kb d=true)(hr:zy Z H β d v):zy Z H β' d v:=by
 cases d with
 |one d=>obtain⟨c,h1,h2⟩:=hr;exact⟨c,h1,RD.monoK hb ht h2⟩
 |agg l=>obtain⟨c,h1,h2⟩:=hr;exact⟨c,h1,RDL.monoK hb ht h2⟩
 |tup l=>cases ht
theorem RDV1L.monoK(hb:Xx kb β β'):∀{l:List DV} {vs:List V},qW (tA kb) l=true->qg (zy Z H β) l vs->qg (zy Z H β') l vs
 |[],[],_,_=>trivial
 |d::l,c::cs,ha,hr=>by
  have h1:=yk ha d (by simp);have h2:qW (tA kb) l=true:=by simp only [qW,h1] at ha;exact ha
  exact⟨zy.monoK hb h1 hr.1,RDV1L.monoK hb h2 hr.2⟩
 |[],_::_,_,hr=>hr.elim
 |_::_,[],_,hr=>hr.elim
theorem xG.monoK(hb:Xx kb β β'){d:DV}{v:V}(ht:FW kb d=true)(hr:xG Z H β d v):xG Z H β' d v:=by
 cases d with
 |one d=>exact zy.monoK (d:=.one d) hb ht hr
 |agg l=>exact zy.monoK (d:=.agg l) hb ht hr
 |tup l=>obtain⟨vs,h1,h2⟩:=hr;exact⟨vs,h1,RDV1L.monoK hb ht h2⟩
theorem pR:∀{E:qp} {n:Nat} {d:DV},VB kb E=true->lk E n=some d->FW kb d=true
 |[],_,_,_,h=>by cases h
 |(k,x)::E,n,d,ht,h=>by
  simp only [VB] at ht;split at ht
  ·rename_i hx;rw [qT] at h;split at h
   ·obtain rfl:=zsi h;exact hx
   ·exact pR ht h
  ·cases ht
theorem ER.monoK(hb:Xx kb β β'){E:qp}{F:T V}(ht:VB kb E=true)(hr:ER Z β H E F):ER Z β' H E F:=fun n d hd=>by
 obtain⟨v,h1,h2⟩:=hr n d hd;exact⟨v,h1,xG.monoK hb (pR ht hd) h2⟩
theorem cP:∀{S:Bx} {k:Nat} {x:Bk},Yv kb S=true->lk S k=some x->k≠kb->s9 kb x=true
 |[],_,_,_,h,_=>by cases h
 |(j,y)::S,k,x,ht,h,hne=>by
  simp only [Yv] at ht;rw [qT] at h;split at h
  ·rename_i e;subst e;obtain rfl:=zsi h;rw [jv hne] at ht;simp only at ht;split at ht
   ·rename_i hx;exact hx
   ·cases ht
  ·split at ht
   ·exact cP ht h hne
   ·split at ht
    ·exact cP ht h hne
    ·cases ht
theorem i8{j:Nat}(hj:j≠kb):∀(i:Nat) (rows:List (List FD)),qW (wH kb) (zh j i rows)=true
 |_,[]=>rfl
 |i,r::rs=>by simp only [zh,qW,wH,jv hj,i8 hj (i+1) rs,Bool.not_false]
theorem i9{j:Nat}(hj:j≠kb):∀(i:Nat) (es:List (Int × ME)),ka kb es=true->qW (wH kb) (kX j i es)=true
 |_,[],_=>rfl
 |i,(_,.row r)::es,h=>by
  have e0:∀y:Int,wH kb (.f (.c (.int .i64 y)))=true:=fun _=>rfl;have e1:wH kb (.trow j i 0 r.length)=true:=by simp only [wH,jv hj,Bool.not_false]
  simp only [kX,qW,e0,e1,i9 hj (i+1) es h]
 |i,(_,.out c)::es,h=>by
  have e0:∀y:Int,wH kb (.f (.c (.int .i64 y)))=true:=fun _=>rfl;simp only [ka] at h;split at h
  ·rename_i hc;simp only [kX,qW,e0,hc,i9 hj (i+1) es h]
  ·cases h
theorem pS{S:Bx}{κ:zF}{x:Bk}(hs:Yv kb S=true)(h:qR S κ=some x)(hne:κ.1≠kb):s9 kb x=true:=by
 obtain⟨j,i⟩:=κ;obtain⟨y,hy⟩:=yG h;have ho:=cP hs hy hne;simp only at hy hne;cases i with
 |zero=>
  simp only [qR,hy] at h;cases y with
  |cells m=>obtain rfl:=zsi h;exact ho
  |data m=>obtain rfl:=zsi h;exact ho
  |tree rows=>obtain rfl:=zsi h;exact i8 hne 0 rows
  |mp ks m=>obtain rfl:=zsi h;exact ho
  |mt es=>obtain rfl:=zsi h;exact i9 hne 0 es ho
 |succ i=>
  simp only [qR,hy] at h;cases y with
  |cells m=>cases h
  |data m=>cases h
  |tree rows=>
   cases hr:rows[i]? with
   |none=>simp only [hr] at h;cases h
   |some r=>simp only [hr] at h;obtain rfl:=zsi h;rfl
  |mp ks m=>cases h
  |mt es=>obtain⟨_,r,_,rfl⟩:=wr h;rfl
theorem jd.monoK{p:Par}(hb:Xx kb β β'){x:Bk}{s:Slot}(hx:s9 kb x=true)(h:jd p Z H β x s):jd p Z H β' x s:=by
 cases s with
 |nil=>exact h
 |blk b N=>
  obtain⟨h1,h2,h3,cs,rest,h4,h5,h6⟩:=h;refine⟨h1,h2,h3,cs,rest,h4,h5,?_⟩;cases x with
  |cells m=>exact RDL.monoK hb hx h6
  |data m=>exact h6
  |tree m=>exact h6
  |mp ks m=>exact RDL.monoK hb hx h6
  |mt es=>exact h6
end
def zr(Z:Nat->Prop)(H:Hp)(β:qw)(kb:Nat):Nat->List (Int × ME)->List (V × V)->Prop
 |_,[],[]=>True
 |i,(y,.row r)::es,(k,v)::es'=>k=.one (.int .i64 y)/\(∃c,v=.one c/\RD Z H β (.trow kb i 0 r.length) c)/\zr Z H β kb (i+1) es es'
 |i,(y,.out d)::es,(k,v)::es'=>k=.one (.int .i64 y)/\(∃c,v=.one c/\RD Z H β d c)/\zr Z H β kb (i+1) es es'
 |_,_,_=>False
theorem WO{Z:Nat->Prop}{H:Hp}{β:qw}{kb:Nat}:∀{i:Nat} {es:List (Int × ME)} {es':List (V × V)},(∀e∈es',tK 0 e.1/\∃c,e.2=.one c)->qg (RD Z H β) (kX kb i es) (MF es')->zr Z H β kb i es es'
 |i,[],[],_,_=>trivial
 |i,[],(k,v)::es',hk,h=>by
  obtain⟨⟨c,h1⟩,c',h2⟩:=hk (k,v) (by simp);simp only at h1 h2;subst h1 h2;exact h.elim
 |i,(y,.row r)::es,[],hk,h=>h.elim
 |i,(y,.out d)::es,[],hk,h=>h.elim
 |i,(y,.row r)::es,(k,v)::es',hk,h=>by
  obtain⟨⟨c,h1⟩,c',h2⟩:=hk (k,v) (by simp);simp only at h1 h2;subst h1 h2;obtain⟨g1,g2,g3⟩:=(h:RD Z H β (.f (.c (.int .i64 y))) c/\RD Z H β (.trow kb i 0 r.length) c'/\qg (RD Z H β) (kX kb (i+1) es) (MF es'));cases g1;exact⟨rfl,⟨c',rfl,g2⟩,WO (fun e he=>hk e (by simp [he])) g3⟩
 |i,(y,.out d)::es,(k,v)::es',hk,h=>by
  obtain⟨⟨c,h1⟩,c',h2⟩:=hk (k,v) (by simp);simp only at h1 h2;subst h1 h2;obtain⟨g1,g2,g3⟩:=(h:RD Z H β (.f (.c (.int .i64 y))) c/\RD Z H β d c'/\qg (RD Z H β) (kX kb (i+1) es) (MF es'));cases g1;exact⟨rfl,⟨c',rfl,g2⟩,WO (fun e he=>hk e (by simp [he])) g3⟩
theorem WN{Z:Nat->Prop}{H:Hp}{β:qw}{kb:Nat}:∀{i:Nat} {es:List (Int × ME)} {es':List (V × V)},zr Z H β kb i es es'->(∀e∈es',tK 0 e.1/\∃c,e.2=.one c)/\qg (RD Z H β) (kX kb i es) (MF es')
 |i,[],[],_=>⟨by simp,trivial⟩
 |i,[],_::_,h=>h.elim
 |i,(y,.row r)::es,[],h=>h.elim
 |i,(y,.out d)::es,[],h=>h.elim
 |i,(y,.row r)::es,(k,v)::es',⟨h1,⟨c,h2,h3⟩,h4⟩=>by
  subst h1 h2;obtain⟨g1,g2⟩:=WN h4;refine⟨fun e he=>?_,RF.c _ rfl,h3,g2⟩;rcases List.mem_cons.1 he with rfl|he
  ·exact⟨⟨_,rfl⟩,_,rfl⟩
  ·exact g1 e he
 |i,(y,.out d)::es,(k,v)::es',⟨h1,⟨c,h2,h3⟩,h4⟩=>by
  subst h1 h2;obtain⟨g1,g2⟩:=WN h4;refine⟨fun e he=>?_,RF.c _ rfl,h3,g2⟩;rcases List.mem_cons.1 he with rfl|he
  ·exact⟨⟨_,rfl⟩,_,rfl⟩
  ·exact g1 e he
def ME.val(kb i:Nat):ME->DC
 |.row r=>.trow kb i 0 r.length
 |.out d=>d
theorem zr.cons{Z:Nat->Prop}{H:Hp}{β:qw}{kb i:Nat}{e:Int × ME}{es:List (Int × ME)}{x:V × V}{es':List (V × V)}:zr Z H β kb i (e::es) (x::es')↔x.1=.one (.int .i64 e.1)/\(∃c,x.2=.one c/\RD Z H β (e.2.val kb i) c)/\zr Z H β kb (i+1) es es':=by
 obtain⟨y,e⟩:=e;obtain⟨k,v⟩:=x;cases e<;>rfl
theorem zr.at{Z:Nat->Prop}{H:Hp}{β:qw}{kb:Nat}:∀{j i:Nat} {es:List (Int × ME)} {es':List (V × V)} {e:Int × ME},zr Z H β kb j es es'->es[i]?=some e->∃c,es'[i]?=some (.one (.int .i64 e.1),.one c)/\RD Z H β (e.2.val kb (j+i)) c
 |j,i,[],[],e,_,h=>by simp at h
 |j,i,[],_::_,e,h,_=>h.elim
 |j,i,(y,.row r)::es,[],e,h,_=>h.elim
 |j,i,(y,.out d)::es,[],e,h,_=>h.elim
 |j,0,e0::es,x::es',e,h,he=>by
  obtain⟨h1,⟨c,h2,h3⟩,_⟩:=zr.cons.1 h;simp at he;subst he;exact⟨c,by simp [<-h1,<-h2],h3⟩
 |j,i+1,e0::es,x::es',e,h,he=>by
  obtain⟨_,_,h3⟩:=zr.cons.1 h;obtain⟨c,g1,g2⟩:=zr.at h3 (by simpa using he);exact⟨c,by simpa using g1,by rw [show j+(i+1)=j+1+i by omega];exact g2⟩
theorem zr.mono{Z Z':Nat->Prop}{H H':Hp}{β β':qw}{kb kb':Nat}:∀{j:Nat} {es es1:List (Int × ME)} {es':List (V × V)},zr Z H β kb j es es'->es1.length=es.length->(∀(i:Nat) (e e1:Int × ME),es[i]?=some e->es1[i]?=some e1->e1.1=e.1/\∀c,RD Z H β (e.2.val kb (j+i)) c->RD Z' H' β' (e1.2.val kb' (j+i)) c)->zr Z' H' β' kb' j es1 es'
 |j,[],[],[],_,_,_=>trivial
 |j,e::es,e1::es1,x::es',h,hl,hm=>by
  obtain⟨h1,⟨c,h2,h3⟩,h4⟩:=zr.cons.1 h;obtain⟨g1,g2⟩:=hm 0 e e1 rfl rfl;refine zr.cons.2 ⟨by rw [h1,g1],⟨c,h2,g2 c h3⟩,zr.mono h4 (by simpa using hl) fun i a b ha hb=>?_⟩;have:=hm (i+1) a b (by simpa using ha) (by simpa using hb);rw [show j+1+i=j+(i+1) by omega];exact this
 |j,[],_::_,_,_,hl,_=>by simp at hl
 |j,_::_,[],_,_,hl,_=>by simp at hl
 |j,[],[],_::_,h,_,_=>h.elim
 |j,(y,.row r)::es,_::_,[],h,_,_=>h.elim
 |j,(y,.out d)::es,_::_,[],h,_,_=>h.elim
theorem zr.find{Z:Nat->Prop}{H:Hp}{β:qw}{kb:Nat}{y:Int}:∀{j n:Nat} {es:List (Int × ME)} {es':List (V × V)} {i:Nat} {e:Int × ME},zr Z H β kb j es es'->es[i]?=some e->e.1=y->(∀(j:Nat) (e:Int × ME),j<i->es[j]?=some e->e.1≠y)->∃v,QV (.one (.int .i64 y)) es' n=some (some (n+i,v))/\es'[i]?=some (.one (.int .i64 y),v)
 |j,n,[],_,i,e,_,h,_,_=>by simp at h
 |j,n,(y',.row r)::es,[],i,e,h,_,_,_=>h.elim
 |j,n,(y',.out d)::es,[],i,e,h,_,_,_=>h.elim
 |j,n,e0::es,x::es',i,e,h,he,hy,hf=>by
  obtain⟨h1,⟨c,h2,h3⟩,h4⟩:=zr.cons.1 h;obtain⟨k,v⟩:=x;simp only at h1 h2;subst h1 h2;cases i with
  |zero=>
   simp at he;subst he;refine⟨.one c,?_,by simp [hy]⟩;simp [QV,Yj,hy]
  |succ i=>
   have hne:=hf 0 e0 oM rfl;obtain⟨v,g1,g2⟩:=zr.find (n:=n+1) h4 (by simpa using he) hy (fun j' e' hj' he'=>hf (j'+1) e' (by omega) (by simpa using he'));refine⟨v,?_,by simpa using g2⟩;have:(y==e0.1)=false:=by simpa using fun h=>hne h.symm
   simp only [QV,Yj,if_true,this];rw [g1,show n+1+i=n+(i+1) by omega]
theorem zr.none{Z:Nat->Prop}{H:Hp}{β:qw}{kb:Nat}{y:Int}:∀{j n:Nat} {es:List (Int × ME)} {es':List (V × V)},zr Z H β kb j es es'->(∀e∈es,e.1≠y)->QV (.one (.int .i64 y)) es' n=some none
 |j,n,[],[],_,_=>rfl
 |j,n,[],_::_,h,_=>h.elim
 |j,n,(y',.row r)::es,[],h,_=>h.elim
 |j,n,(y',.out d)::es,[],h,_=>h.elim
 |j,n,e0::es,x::es',h,hf=>by
  obtain⟨h1,⟨c,h2,h3⟩,h4⟩:=zr.cons.1 h;obtain⟨k,v⟩:=x;simp only at h1 h2;subst h1 h2;have:(y==e0.1)=false:=by simpa using fun h=>hf e0 (by simp) h.symm
  simp only [QV,Yj,if_true,this];exact zr.none h4 fun e he=>hf e (by simp [he])
end Go.Ab
