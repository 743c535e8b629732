/- Part 17 of the proof of TopFuel. No conditions. -/
import Derived.Test.YtgmjilingndloaaGreatDoorZ16
open And renaming intro->bG
open Go renaming Value->aT,World->aS
open Go.Ending renaming returned->aO
open Go.Obj renaming cells->aK,deferred->aM,loop->aN
open Go.RowKit renaming Below->aV
open Go.Value renaming agg->aH,int->aC,slice->aA,string->aB,tuple->aF
namespace Go.Proofs.YtgmjilingndloaaGreatDoor
set_option linter.unusedVariables false
set_option linter.unusedSimpArgs false
set_option maxRecDepth 100000
set_option maxHeartbeats 20000000
open Go Go.RowKit Go.Proofs.Tryz
variable{U:aS}{v:aT}
section
attribute [local go_sem] Oper.semAt_some
def kCh:lL (Dl×Int×Int) where
 k:=5
 R:=λw m r=>∃v,r=[v,aC .i64 m.1.op,aC .i64 m.1.n,aC .i64 m.2.1,aC .i64 m.2.2]/\eD kI 3 0 w v m.1.path
 len:=λ⟨v,h,_⟩=>by rw[h];rfl
 one:=λ⟨v,h,d⟩u e=>by
  rw[h]at e
  obtain⟨a,c,q,_⟩:=fV d
  simp at e
  obtain rfl|rfl|rfl|rfl|rfl:=e
  .rw[q];rfl
  all_goals rfl
 tags:=λt=>t=3
 on:=λ⟨v,h,d⟩j=>⟨v,h,d.on (λk i=>by obtain⟨f,g⟩:=d.tag k i;exact j k f _ _ g rfl) (λ_ _ _ h=>h)⟩
theorem aKp:gY prog 117 225 5 56:=gY.of underlying117 zK zO zO
def chA:Dl×Int×Int:=(dA,1,-1)
structure GY(ob lp:Nat)(U0 U:aS)(v:aT)(L:List (Dl×Int×Int)):Prop where
 box:U.heap[ob]?=some (aK #[v] 117 (0,0))
 ls:eD kCh 225 U0 U v L
 chg:eZ (λq=>q=ob\/q=lp) U0 U
 lc:ob<(U0:Nat)
 ll:lp<(U0:Nat)
 ne:ob≠lp
theorem GY.later{i g:Nat}{f U e:aS}{v:aT}{L:List (Dl×Int×Int)}(h:GY i g f U v L)(d:Bl U e):GY i g f e v L:=
 ⟨(d.block _ (fB.1 h.box).1).trans h.box,h.ls.later d,h.chg.then d,h.lc,h.ll,h.ne⟩
theorem GY.put{m d:Nat}{j U:aS}{v:aT}{L:List (Dl×Int×Int)}{o:Obj}(h:GY m d j U v L)(g:Obj)(r:U.heap[d]?=some o)(n:o.isCells=false):GY m d j (U.putObj d g) v L:=by
 have f:=grownBy_putObj' U d g;exact⟨(jY h.ne).trans h.box,(fD.put (B:=0) g (kU _) r n).ownLs h.ls,
  ⟨f.os.trans h.chg.os,f.tape.trans h.chg.tape,f.output.trans h.chg.output,fA h.chg.size f.size,λi q k=>(jY (λe=>k (.inr e))).trans (h.chg.block i q k)⟩,h.lc,h.ll,h.ne⟩
theorem GY.push{d u:Nat}{i g:aS}{f:aT}{L s:List (Dl×Int×Int)}(h:GY d u i U v L)(m:U.grownBy g v.ownBlock)(A:eD kCh 225 i g f s):
  g.heap[d]?=some (aK #[v] 117 (0,0))/\GY d u i (qS g (d,0) f) f s/\eZ (λq=>q=d\/(i:Nat)<=q) U (qS g (d,0) f):=by
 have y:=(fB.1 h.box).1;have j:=(m.block d y (λe=>by
  have:=(h.ls.lt _ e.symm).1
  have:=h.lc
  omega)).trans h.box;refine⟨j,⟨iB _ _ 0 _ _ f j,fJ A zD (λt B=>by rw[show t=3 from B];decide) j (λk x=>eF _ x),(h.chg.grown m (λr n=>.inr (h.ls.lt r n).1)).set (.inl (.inl rfl)) _,h.lc,h.ll,h.ne⟩,((eZ.refl _ _).grown m (λr n=>.inl (.inr (h.ls.lt r n).1))).set (.inl (.inl rfl)) _⟩
def DJ(d:sQ)(f:Nat)(e:aS)(i k:Nat)(U:aS):Prop:=iP d .ready none U/\∃L v,GY f d.l e U v L/\((i=0/\k=0/\L=[])\/(i=k+1/\L=[chA]))
theorem aKG:iJ gZ gF 0 0=(true,false):=zK
theorem aKy:iJ gZ gF 1 0=(true,true):=zK
theorem aKL:iJ gZ gF 2 1=(true,true):=zK
def N5(w:aS)(e:Ending)(w':aS):Prop:=(∃a c,e=aO (aF #[aA a 1 c,aC .i64 0])/\eS kCh w' a [chA])/\aV (w:Nat) w w'
theorem aGG(A B:CA)(M N:List Mt)(w:aS)(ha:kW w A (kV M))(hb:kW w B (kV N))(b4:GP M)(b5:GP N)(cL:M=gZ)(cP:N=gF):
  qK 68 #[tR A (kV M),tR B (kV N)] w (N5 w):=by
 obtain⟨V,hV⟩:=eR ((w.alloc (aK (rE A M) 33)).alloc (aK (rE B N) 33));obtain⟨r0,r1,cA,dc⟩:=iY hV;have n0:=vE r0;have n1:=vE r1;have ct:=eC (λU(h:aV V.heap.size V U)=>n0.later h);have cu:=eC (λU(h:aV V.heap.size V U)=>n1.later h);obtain⟨W1,b6,cz,ab,-⟩:=lB V (aK (rE A M++rE B N) 33);have HE:=eC (λ(k:Nat)(hk:k<2)=>show∃X l,pP W1 V.heap.size (k*9) X l/\kW w X (kV l)/\GP l by
  rcases(by omega:k=0\/k=1)with rfl|rfl
  .exact⟨A,M,(pQ9 ab),ha,b4⟩
  .exact⟨B,N,⟨pE9 ab,aDU ab,aBw ab,kG W1 _ 12 _ _ _ ab,kG W1 _ 13 _ _ _ ab,kG W1 _ 14 _ _ _ ab,kG W1 _ 15 _ _ _ ab,kG W1 _ 16 _ _ _ ab,kG W1 _ 17 _ _ _ ab⟩,hb,b5⟩);have HA:=eC ha;have HB:=eC hb;have cj:=eC b4;have ck:=eC b5;have bg:=eC cL;have cp:=eC cP;have dy:=eC r0;have ea:=eC r1;have bx:=eC cA;have eb:=eC dc;have bw:=eC cz;obtain⟨c0,c1,c2,c3,c4,c5,c6,c7,c8⟩:=n0;obtain⟨d0,d1,d2,d3,d4,d5,d6,d7,d8⟩:=n1;simp only[kQ]at c1 c2 c3 c4 c5 c6 c7 c8 d1 d2 d3 d4 d5 d6 d7 d8;obtain⟨Q,hQ⟩:=eR (N5 w);rw[hQ];have HQ:=eC hQ;clear ha hb b4 b5 cL cP r0 r1 cA dc cz ab hQ;rw[show tR A (kV M)=aH (rE A M)from rfl,show tR B (kV N)=aH (rE B N)from rfl];unfold rE at hV b6|-;have HV:=eC hV;have dC:Hid (V.alloc (aK #[qI 1,aA A.va 1 A.vc,aA A.ba 3 A.bc,aA A.ta 2 A.tc,qI 9,aA A.ma M.length A.mc,qI (kL M).a,qI (kL M).k,qI (kL M).t,qI 1,aA B.va 1 B.vc,aA B.ba 3 B.bc,aA B.ta 2 B.tc,qI 9,aA B.ma N.length B.mc,qI (kL N).a,qI (kL N).k,qI (kL N).t] 33)=W1):=eC b6;clear hV b6;refine(hH (n:=2)).1 ?_;refine xI func68 rfl trivial ?_ rfl;simp only[ntmps68,pN,Nat.reduceAdd,Nat.reduceSub];refine wpIn_wide.2 ?_;go_wp2_with(first|(rw[HV.out])|(rw[dC.out]));go_loopw [17] (λi wr=>∃k:Nat,k<=2/\i=qI k/\Hid (aV W1 W1 wr)) (λi _=>3-(intOf i).toNat)
 case atStart=>exact⟨0,zO,rfl,eC (iL _ _)⟩
 case round=>
  obtain⟨k,hk,rfl,HW⟩:=hrel;by_cases hlt:k<2
  .obtain⟨X,l,hn,hx,h2⟩:=HE.out k hlt;obtain⟨q0,q1,q2,q3,q4,q5,q6,q7,q8⟩:=hn.later HW.out;have ee:(k:Int)<2:=zO;have ec:(0:Int)<=(k:Int):=zO;have wk:IntKind.i64.wrap ((k:Int)+1)=(k:Int)+1:=by rw[iA];omega
   obtain⟨V2,cx,b7,cV,-⟩:=lB wr (aK #[qI 1,aA X.va 1 X.vc,aA X.ba 3 X.bc,aA X.ta 2 X.tc,qI 9,aA X.ma l.length X.mc,qI (kL l).a,qI (kL l).k,qI (kL l).t] 33);have CC:=uZ X (kV l) V2 (hx.later (bx.out.trans ((bw.out.trans ((fC HW b7).mono bw.out.size)).mono bx.out.size))) (TL h2);rw[aDX h2]at CC;have dm:=eC CC;obtain⟨p0,p1,p2,p3,p4,p5,p6,p7,p8⟩:=vE cV;simp only[kQ]at p1 p2 p3 p4 p5 p6 p7 p8;have dk:=mG HW b7;have dz:=eC cx;clear hn hx h2 b7 cV CC cx;go_wp2_with(first|(rw[dz.out])|(go_at_call 28;refine dm.out.mono ?_;rintro e S⟨rfl,ag⟩;have aw:=mG dk ag;clear ag));exact⟨⟨k+1,zO,by go_num,aw⟩,by simp[intOf];omega⟩
  .obtain rfl:k=2:=zO;have a3:=mG bw HW.out;obtain⟨c0,c1,c2,c3,c4,c5,c6,c7,c8⟩:=ct.out wr a3.out;obtain⟨d0,d1,d2,d3,d4,d5,d6,d7,d8⟩:=cu.out wr a3.out;simp only[kQ]at c1 c2 c3 c4 c5 c6 c7 c8 d1 d2 d3 d4 d5 d6 d7 d8;have a5:=mG bx a3.out;have CK:=eC (T4 oZ A.va B.va A.ba B.ba A.vc B.vc A.bc B.bc wr (HA.out.later a5.out).1 (HB.out.later a5.out).1);have dx:=eC (λU(h:aV wr wr U)=>bG (ct.out U (fC a3 h)) (cu.out U (fC a3 h)));go_wp2_with(first
    |(go_at_call 141;refine(aDA _ _ _ _ _ _ _).mono ?_;rintro e wz⟨rfl,da⟩;have cw:=eC da;clear da)
    |(go_at_call 139;refine CK.out.mono ?_;rintro e S⟨rfl,ag⟩;have aw:=eC ag;obtain⟨Z,ai⟩:=eR (S.alloc (aK #[qN] 117));have bV:=eC ai;have ap:aV S S Z:=(by rw[<-ai];exact fL S _);obtain⟨⟨k0,k1,k2,k3,k4,k5,k6,k7,k8⟩,⟨j0,j1,j2,j3,j4,j5,j6,j7,j8⟩⟩:=dx.out Z (fC ag ap);simp only[kQ]at k1 k2 k3 k4 k5 k6 k7 k8 j1 j2 j3 j4 j5 j6 j7 j8;have dj:=eC ap;clear ag ap ai)
    |(rw[bV.out]));rename_i hK;have cW:Z.heap[(S:Nat)]?=some (aK #[qN] 117 (0,0)):=by rw[<-bV.out];exact fG S _
   have db:(Z:Nat)=(S:Nat)+1:=by rw[<-bV.out];exact fO _ _
   obtain⟨dg,dh,di,b9,de⟩:=B0 cw.out.symm;have bi:=eC ((fC a5 aw.out).trans ((fC dj b9).mono (fC a5 aw.out).size));have az:Hid ((wz:Nat)=(Z:Nat)+1+1+1/\(Z:Nat)=(S:Nat)+1/\(w:Nat)<=(S:Nat)):=eC ⟨de,db,(fC a5 aw.out).size⟩;have bO:=eC (bG dg (bG dh di));have cv:=eC ((b9.block _ zO).trans cW);have dt:=eC hK;obtain⟨ob,bt⟩:=eR (S:Nat);rw[bt]at cv;have aL:=eC bt;rw[bt];clear dg dh di b9 de db cW c0 c1 c2 c3 c4 c5 c6 c7 c8 d0 d1 d2 d3 d4 d5 d6 d7 d8 k0 k1 k2 k3 k4 k5 k6 k7 k8 j0 j1 j2 j3 j4 j5 j6 j7 j8 hK cw CK bt;refine wpIn_wide.1 (VV (n:=0) (gf:=195) (lb:=#[qP Z 0,qP ((Z:Nat)+1) 0,qP ((Z:Nat)+1+1) 0]) rfl (l8 func195 zK rfl) ?_);intro D Y bo bn bk bl bj bm bs bp ae bv;have cd:=az.out;have cc:=aL.out;have aj:Hid (D.l=(wz:Nat)+1/\D.D=(wz:Nat)/\(Y:Nat)=(wz:Nat)+1+1):=eC ⟨bm,bj,bv⟩;have ac:=eC (bG bo (bG bn (bG bk bl)));have co:=eC bs;have dv:=eC bp;have ax:=eC ae;have a6:=(ae.block _ zO).trans cv.out;have dy:=eC a6;have cs:Hid (∀i k U,DJ D ob Y i k U->aV w w U):=eC (λi k U hj=>by
    obtain⟨_,L,mv,j,_⟩:=hj
    have h0:=fC bi ax.out
    exact h0.trans (j.chg.below h0.size (λq hq=>by obtain rfl|rfl:=hq<;>omega)));refine(SG D.l (Z:Nat) ((Z:Nat)+1) ((Z:Nat)+1+1) A.ma B.ma A.mc B.mc M N (by have:=cj.out.len;omega) (by have:=ck.out.len;omega) (λm hm=>by obtain rfl|rfl|rfl:=cj.out.mem m hm<;>decide) (λm hm=>by obtain rfl|rfl|rfl:=ck.out.mem m hm<;>decide)
    (DJ D ob Y) (DJ D ob Y M.length N.length) ?_ ?_ (λU h=>h) ?_ Y ?_).mono ?_
   .intro i k U hj;have aq:=cs.out i k U hj;obtain⟨_,L,mv,j,_⟩:=hj;have g:=λq(h1:q<(wz:Nat))(h2:q≠ob)=>(j.chg.block q (by have:=aj.out;omega) (by have:=aj.out;omega)).trans (ax.out.block q h1);exact⟨kG U _ 0 _ _ _ ((g _ zO zO).trans bO.out.1),kG U _ 0 _ _ _ ((g _ zO zO).trans bO.out.2.1),kG U _ 0 _ _ _ ((g _ zO zO).trans bO.out.2.2),HA.out.2.2.later aq,HB.out.2.2.later aq⟩
   .intro i k U U' hj hb;obtain⟨hl,L,mv,j,hm⟩:=hj;exact⟨hl.later hb,L,mv,j.later hb,hm⟩
   .intro i k U hi hk hn hj;have aq:=cs.out i k U hj;obtain⟨af,L,mv,j,bq⟩:=hj;obtain⟨qa,qc,rfl,_⟩:=eL j.ls;have d9:=eC (bG hi (bG hk hn));obtain⟨rfl,rfl,hL⟩|⟨rfl,hL⟩:=bq
    .have hx:M[0]?=some mA:=by rw[bg.out];rfl
     have bd:iJ M N 0 0=(true,false):=by rw[bg.out,cp.out];exact aKG
     obtain⟨R,O,pm,cm,bc,ba,av,hce⟩:=BC HA.out.2.2 hx;rw[bd];have bb:G8 A.ma 0 true=qP R O:=by rw[bc];rfl
     rw[show G8 B.ma 0 false=.pointer none from rfl,bb];rw[show O+0*8=O by omega]at hce;obtain⟨m,hm⟩:=eR mA;have bh:Hid (m.v=1/\m.d=dA/\m.d.path.length<=1000000):=eC (by rw[<-hm];exact⟨rfl,rfl,zD⟩);rw[hm]at hce av;have ef:(m.v==-1)=false:=by rw[bh.out.1];decide
     show YieldAt Fence.wide 0 prog D.l #[qP R O,.pointer none] U (λe W'=>(e=aO true/\DJ D ob Y (0+1) 0 W')\/(e=aO false/\DJ D ob Y M.length N.length W'));obtain⟨RP,al⟩:∃RP:Ending->aS->Prop,(λe W'=>(e=aO true/\DJ D ob Y (0+1) 0 W')\/(e=aO false/\DJ D ob Y M.length N.length W'))=RP:=⟨_,rfl⟩;rw[al];have a0:Hid ((∀a f,iP D .busy none f->(∃ar,GY ob D.l Y f ar (L++[(m.d,m.v,(-1:Int))]))->sO D RP .normal a f)/\∀a f,¬sO D RP .outgrown a f):=eC ⟨λa f hl⟨ar,ci⟩=>⟨hl,by rw[<-al];exact .inl ⟨rfl,hl.put,(L++[(m.d,m.v,(-1:Int))]),ar,ci.put _ hl.lp rfl,.inr ⟨rfl,by rw[hL,bh.out.1,bh.out.2.1];rfl⟩⟩⟩,λa f h=>h⟩;have cq:Hid (L.length<=1000):=eC (by rw[hL];decide);have ay:=eC af;have b2:=eC j;have ds:=eC aq;have bA:=eC ba;have cr:=eC av;have bz:=eC hce;clear hm;clear hL al af j aq ba av hce bc bb bd hx hn hi hk bo bn bk bl bj bm bs bp ae bv cd cc a6;refine O9 (n:=0) ?a1 ay.out co.out (by rw[ac.out.2.1];rfl) ?has1 ?hbody1
     case has1=>(rw[ac.out.1,ac.out.2.1,ac.out.2.2.1];intro K hK;gi_wp2;exact hK)
     .intro ak;rw[ac.out.2.2.2];have ah:=b2.out.put (aN (D.lrec .busy none)) ay.out.lp rfl;obtain⟨J,ao⟩:=eR (U.putObj D.l (aN (D.lrec .busy none)));rw[ao]at ak ah|-;have be:aV w w J:=by have h0:=fC bi ax.out;exact h0.trans (ah.chg.below h0.size (λq hq=>by have h1:=aj.out;have h2:=az.out;have h4:=aL.out;obtain rfl|rfl:=hq<;>omega))
      have a4:=eC be;have au:=eC ah;have bL:=eC ak;have ae:aV J J J:=iL _ _;have a8:=jX J;have aa:∀V,aV J J V->eG V R O [aA pm m.d.path.length cm,m.d.op,m.d.n,m.v,m.test,m.out.1,m.out.2,m.dig]:=λV h=>bz.out.below (fC a4 h) bA.out;have s8:∀V,aV J J V->qC V R O (aA pm m.d.path.length cm)/\qC V R (O+1) m.d.op/\qC V R (O+2) m.d.n/\qC V R (O+3) m.v/\qC V R (O+4) m.test/\qC V R (O+5) m.out.1/\qC V R (O+6) m.out.2/\qC V R (O+7) (aB m.dig):=λV h=>⟨aa V h 0 _ rfl,aa V h 1 _ rfl,aa V h 2 _ rfl,aa V h 3 _ rfl,aa V h 4 _ rfl,aa V h 5 _ rfl,aa V h 6 _ rfl,aa V h 7 _ rfl⟩;have s5:∀V,aV J J V->qC V ob 0 (aA qa L.length qc):=λV h=>kG V _ 0 _ _ _ (au.out.later h).box;have CC:=eC (show∀V,aV J J V->qK 143 #[aH #[aA pm m.d.path.length cm,m.d.op,m.d.n,m.v,m.test,m.out.1,m.out.2,m.dig]] V λe w'=>(∃v,e=aO (aH #[v,m.d.op,m.d.n,m.v,m.test,m.out.1,m.out.2,m.dig])/\eD kI 3 V.heap.size w' v m.d.path)/\aV V.heap.size V w' from λV h=>KE pm cm m V (cr.out.later (fC a4 h)) bh.out.2.2);have TX:=eC (AO R O m.v J (s8 _ ae).2.2.2.1);have TY:=eC (MJ J);clear aa;obtain⟨RQ,am⟩:=eR (sO D RP);rw[am]at a0|-;replace am:=eC am;replace ao:=eC ao;clear ak ah be ae;gi_wp2_with(first|(refine⟨trivial,rfl,?_⟩;refine(lP TX.out).mono ?_;rintro e w5⟨rfl,W⟩;rw[<-W];clear W)|(refine⟨trivial,rfl,?_⟩;refine(lP TY.out).mono ?_;rintro e w5⟨rfl,W⟩;rw[<-W];clear W));refine Code.wpIn_mono (Q:=Exit.then _ (λ_ _ _=>False)) (λe a w h=>by cases e<;>first|exact h|exact h.elim) ?_;refine zgR [0,3] (λi U=>match i with|0|3=>aV J J U|_=>True) (.cons a8 (.cons a8 .nil)) ?_;refine BS 0 ?_;refine jV 1 ?_;refine jV 2 ?_;refine BS 3 ?_;refine jV 6 ?_;refine jV 8 ?_;refine tG 4 [0] λK hK=>?_;go_simp;go_wp2_with(go_at_call 143;refine(CC.out _ a8).mono ?_;rintro e S⟨⟨v4,rfl,ch⟩,ag⟩;obtain⟨va,vc,rfl,_⟩:=eL ch;have dB:=eC (ch.mono (kU _));have a7:aV J J S:=fC a8 ag;clear ch ag);refine hK _ _ (.cons a7 .nil) ?_;clear hK K;have dF:∀U,(Instr.field 42 (aH #[aA va m.d.path.length vc,m.d.op,m.d.n,m.v,m.test,m.out.1,m.out.2,m.dig]) 0).run prog U=.ok (aH #[aA va m.d.path.length vc,m.d.op,m.d.n]) U:=λU=>by kernel_rfl
      refine jV 5 ?_;clear dF;have df:=(s8 _ a7).2.2.2.1;refine tG 7 [0] λK hK=>?_;go_simp;go_wp2_with(go_at_call 144;refine(AO R O m.v S df).mono ?_;rintro e w5⟨rfl,W⟩;rw[<-W];clear W);refine hK _ _ (.cons a7 .nil) ?_;clear hK K;clear df;refine tG 9 [0] λK hK=>?_;go_simp;go_wp2_with(go_at_call 144;refine(MJ S).mono ?_;rintro e w5⟨rfl,W⟩;rw[<-W];clear W);refine hK _ _ (.cons a7 .nil) ?_;clear hK K;refine jV 10 ?_;obtain⟨Z,ai,ap,-⟩:=lB S (aK #[aA va m.d.path.length vc,m.d.op,m.d.n,m.v,qI (-1)] 225);have dl:Hid (eG Z S 0 [aA va m.d.path.length vc,m.d.op,m.d.n,m.v,qI (-1)]):=eC (by rw[<-ai];exact eG.new _ _ _);have dw:Hid (kCh.R Z (m.d,m.v,-1) [aA va m.d.path.length vc,m.d.op,m.d.n,m.v,qI (-1)]):=eC ⟨_,rfl,dB.out.later ap⟩;have b8:aV J J Z:=fC a7 ap;have b1:=eC (au.out.later b8);replace ai:=eC ai;clear ap;refine tG 11 [0] λK hK=>?_;go_simp;rw[ai.out];refine hK _ _ (.cons b8 .nil) ?_;clear hK K;refine tG 12 [] λK hK=>?_;refine iS (o:=⟨some 61,_,_,_,_,_⟩) aKp rfl (.tmp 49) (.tmp 60) zR (Y:Nat) (aA qa L.length qc) L zR b1.out.ls (S:Nat) (m.d,m.v,-1) [aA va m.d.path.length vc,m.d.op,m.d.n,m.v,qI (-1)] dw.out zR dl.out (by have:=cq.out;omega) b1.out.chg.size (λh=>absurd (show(225:TypeId)=3 from h) zD) ?_;intro v' w6 cg cE dE;obtain⟨eg,eh,c9,_⟩:=eL cg;obtain⟨n1,cb⟩:=eR ((L++[(m.d,m.v,(-1:Int))]).length);rw[cb]at c9;subst c9;replace cb:=eC cb;have HP:=eC (b1.out.push cE cg);have y5:=nS HP.out.1;have x5:=tK HP.out.1;have du:=eC (bL.out.chg ((eZ.of b8).trans HP.out.2.2) (by have h1:=aj.out;have h2:=az.out;have h4:=aL.out;have h3:=au.out.chg.size;omega) (by have h1:=aj.out;have h2:=az.out;have h4:=aL.out;have h3:=au.out.chg.size;omega));clear cg cE dE;simp only[Act.put,UY];refine hK _ _ .nil ?_;clear hK K;refine EY 13 [] ?_;refine QU ?_;show RQ .normal _ _;exact a0.out.1 _ _ du.out ⟨_,HP.out.2.1⟩
    .obtain⟨x,y,hx,hy,bd,hv⟩:∃x y,M[k+1]?=some x/\N[k]?=some y/\iJ M N (k+1) k=(true,true)/\(x.v==y.v)=true:=by
      have h1:=bg.out;have h2:=cp.out;subst h1 h2;have ed:k<2:=by have h3:k<=2:=hk;have h4:¬(k+1=3/\k=2):=hn;omega
      rcases(by omega:k=0\/k=1)with rfl|rfl
      .exact⟨mB,mB,rfl,rfl,aKy,rfl⟩
      .exact⟨mC,mC,rfl,rfl,aKL,rfl⟩
     obtain⟨R,o1,pm,cm,bc,ba,av,hce⟩:=BC HA.out.2.2 hx;obtain⟨gn,o2,pn,cn,cX,cB,dT,ca⟩:=BC HB.out.2.2 hy;rw[bd];obtain⟨O,ce⟩:=eR (o1+(k+1)*8);obtain⟨on,cf⟩:=eR (o2+k*8);have bb:G8 A.ma (k+1) true=qP R O:=by rw[bc,<-ce];rfl
     have cS:G8 B.ma k true=qP gn on:=by rw[cX,<-cf];rfl
     rw[cS,bb];rw[ce]at hce;rw[cf]at ca;show YieldAt Fence.wide 0 prog D.l #[qP R O,qP gn on] U (λe W'=>(e=aO true/\DJ D ob Y (k+1+1) (k+1) W')\/(e=aO false/\DJ D ob Y M.length N.length W'));obtain⟨RP,al⟩:∃RP:Ending->aS->Prop,(λe W'=>(e=aO true/\DJ D ob Y (k+1+1) (k+1) W')\/(e=aO false/\DJ D ob Y M.length N.length W'))=RP:=⟨_,rfl⟩;rw[al];have a0:Hid ((∀a f,iP D .busy none f->(∃ar,GY ob D.l Y f ar L)->sO D RP .normal a f)/\∀a f,¬sO D RP .outgrown a f):=eC ⟨λa f hl⟨ar,ci⟩=>⟨hl,by rw[<-al];exact .inl ⟨rfl,hl.put,L,ar,ci.put _ hl.lp rfl,.inr ⟨rfl,hL⟩⟩⟩,λa f h=>h⟩;have cq:Hid (L.length<=1000):=eC (by rw[hL];decide);have ay:=eC af;have b2:=eC j;have ds:=eC aq;have bA:=eC ba;have cr:=eC av;have bz:=eC hce;have dr:=eC cB;have dn:=eC ca;clear cX cB dT ca cf cS hy ce;clear hL al af j aq ba av hce bc bb bd hx hn hi hk bo bn bk bl bj bm bs bp ae bv cd cc a6;refine O9 (n:=0) ?a2 ay.out co.out (by rw[ac.out.2.1];rfl) ?has2 ?hbody2
     case has2=>(rw[ac.out.1,ac.out.2.1,ac.out.2.2.1];intro K hK;gi_wp2;exact hK)
     .intro ak;rw[ac.out.2.2.2];have ah:=b2.out.put (aN (D.lrec .busy none)) ay.out.lp rfl;obtain⟨J,ao⟩:=eR (U.putObj D.l (aN (D.lrec .busy none)));rw[ao]at ak ah|-;have be:aV w w J:=by have h0:=fC bi ax.out;exact h0.trans (ah.chg.below h0.size (λq hq=>by have h1:=aj.out;have h2:=az.out;have h4:=aL.out;obtain rfl|rfl:=hq<;>omega))
      have a4:=eC be;have au:=eC ah;have bL:=eC ak;have ae:aV J J J:=iL _ _;have a8:=jX J;have aa:eG J R O [aA pm x.d.path.length cm,x.d.op,x.d.n,x.v,x.test,x.out.1,x.out.2,x.dig]:=bz.out.below a4.out bA.out;have cR:eG J gn on [aA pn y.d.path.length cn,y.d.op,y.d.n,y.v,y.test,y.out.1,y.out.2,y.dig]:=dn.out.below a4.out dr.out;have TX:=eC (AO R O x.v J (aa 3 _ rfl));have TY:=eC (AO gn on y.v J (cR 3 _ rfl));clear aa cR;obtain⟨RQ,am⟩:=eR (sO D RP);rw[am]at a0|-;replace am:=eC am;replace ao:=eC ao;clear ak ah be ae;gi_wp2_with(first|(refine⟨trivial,rfl,?_⟩;refine(lP TX.out).mono ?_;rintro e w5⟨rfl,W⟩;rw[<-W];clear W)|(refine⟨trivial,rfl,?_⟩;refine(lP TY.out).mono ?_;rintro e w5⟨rfl,W⟩;rw[<-W];clear W));exact a0.out.1 _ _ bL.out ⟨_,au.out⟩
   .exact⟨dv.out,[],qN,⟨a6,eD.nil _ _ _ _,eZ.refl _ _,zO,zO,zO⟩,.inl ⟨rfl,rfl,rfl⟩⟩
   .rintro e b3⟨he,af,L,mv,j,bq⟩;have hL:L=[chA]:=by
     obtain⟨h1,_⟩|⟨_,h⟩:=bq
     .rw[bg.out]at h1;cases h1
     .exact h
    subst hL;obtain⟨qa,qc,rfl,_⟩:=eL j.ls;refine⟨he,.inl ⟨af,λo=>?_⟩⟩;refine dt.out _ _ ?_;have bf:=j.put o af.lp rfl;have br:(b3.putObj D.l o).heap[D.D]?=some (aM (some [])):=(jY (by have:=aj.out;omega)).trans af.df;have bu:aV w w (b3.putObj D.l o):=by have h0:=fC bi ax.out;exact h0.trans (bf.chg.below h0.size (λq hq=>by obtain rfl|rfl:=hq<;>omega))
    obtain⟨W6,cy⟩:=eR (b3.putObj D.l o);rw[cy]at bf br bu|-;have b0:=nS bf.box;have hg:=fD.put (B:=(w:Nat)) (aM none) (show(w:Nat)<=D.D from zO) br rfl;have cl:=eC (show N5 w (aO (aF #[aA qa 1 qc,qI 0])) (W6.putObj D.D (aM none))from⟨⟨qa,qc,rfl,by
     obtain⟨a,c,e,hl⟩:=eL (hg.ownLs bf.ls)
     cases e
     exact hl⟩,hg.below bu (eX _) bu.size⟩);rw[HQ.out]at cl;have dp:=eC br;clear cy bf j br bu hg af bq he bo bn bk bl bj bm bs bp ae bv cd cc a6;dsimp only;go_wp2_with fail;change bodyPostM _ _ _ _ Q .ret _ _;refine⟨zS,.inl ⟨_,_,rfl,E6 dp.out,?_⟩⟩;refine⟨_,results_tmp2 (t:=4) (u:=5) rfl _ _ _,?_⟩;exact cl.out
theorem aHw(A B:CA)(w:aS)(d:kW w A (kV gZ))(e:kW w B (kV gF)):qK 68 #[tR A (kV gZ),tR B (kV gF)] w (N5 w):=aGG A B gZ gF w d e .all .some rfl rfl
end
section
attribute [local go_sem] Oper.semAt_some
theorem aIv(w:aS):qK 12 #[aB (gR (kV gF))] w (Rt (aF #[qI 0,qI 2]) w):=
 NF (kV gF) 2 w (JP .some) (fA AA zD) (fA (DK .some) zD) (λA U h=>SW A gF (kL gF) U h (TL .some) (aDX .some) (GP.judged .some))
theorem ZA(S:ByteArray)(n:Int)(w:aS)(B:∀w,qK 12 #[aB S] w (Rt (aF #[qI 0,qI n]) w)):
  qK 64 #[aB S] w (Rt (aF #[]) w):=by have J:=eC (B w);have M:=eC (λU=>NO U);clear B;go_enter func64,ntmps64;go_wp2_with(first|(go_at_call 49;refine(M _).mono ?_;rintro e R⟨rfl,D⟩;rw[<-D];clear D)|(go_at_call 12;refine aIi J λO N=>?_));go_end0;exact⟨rfl,N⟩
theorem aHo(S:ByteArray)(w:aS):qK 67 #[aB S] w (Rt (aF #[]) w):=by have B:=eC (iL w w);go_enter func67,ntmps67;go_wp2;go_end0;exact⟨rfl,B⟩
theorem aFq{l:List Mt}(h:GP l):Arc (kV l):=⟨JP h,fA AA zD,fA (DK h) zD⟩
theorem aKN:XE gF gZ (gF.length+gZ.length) 0 0=gZ:=zK
theorem aKQ:∀i k x y,gF[i]?=some x->gZ[k]?=some y->iJ gF gZ i k=(true,true)->zB x y=true:=by
 intro i k x y e f d;have g:i<2:=(gX.1 e).1;have h:k<3:=(gX.1 f).1;rcases(by omega:i=0\/i=1)with rfl|rfl<;>rcases(by omega:k=0\/k=1\/k=2)with rfl|rfl|rfl
 .rw[show iJ gF gZ 0 0=(false,true)by kernel_rfl]at d;cases d
 .cases e;cases f;exact uA _
 .rw[show iJ gF gZ 0 2=(true,false)by kernel_rfl]at d;cases d
 .rw[show iJ gF gZ 1 0=(false,true)by kernel_rfl]at d;cases d
 .rw[show iJ gF gZ 1 1=(false,true)by kernel_rfl]at d;cases d
 .cases e;cases f;exact uA _
theorem aCW{k m:Cp}{f j:CA}{n:Nat}{q r:List Mt}(x:k=kV q)(y:m=kV r)(h:eD kCp 33 n U v [(f,k),(j,m)]):∃g c,v=aA (some (qP g 0)) 2 c/\g<(U:Nat)/\pP U g 0 f q/\pP U g 9 j r:=by obtain⟨g,c,D,rfl,_,A,B,d,_⟩:=h.at (i:=0) rfl;obtain⟨G,F,E,u,_,_,C,e,_⟩:=h.at (i:=1) rfl;cases u;have s:D=(fU f k).toList:=B;have e3:E=(fU j m).toList:=C;subst s e3 x y;exact⟨g,c,rfl,A,⟨d 0 _ rfl,d 1 _ rfl,d 2 _ rfl,d 3 _ rfl,d 4 _ rfl,d 5 _ rfl,d 6 _ rfl,d 7 _ rfl,d 8 _ rfl⟩,⟨e 0 _ rfl,e 1 _ rfl,e 2 _ rfl,e 3 _ rfl,e 4 _ rfl,e 5 _ rfl,e 6 _ rfl,e 7 _ rfl,e 8 _ rfl⟩⟩
theorem aBu(M B:List Mt)(W:M=gF)(O:B=gZ)(X N:ByteArray)(ab:gR (kV M)=X)(Y:gR (kV B)=N)(a b:Nat)(w:aS)(x:qC w a 0 (aB X))(y:qC w b 0 (aB N)):
  qK 62 #[qP a 0,qP b 0] w (Rt (aB N) w):=by
 obtain⟨V,Z,ae,f,-⟩:=lB w (aK #[X,N] 9);have aw:=aG0 Z;have aa:∀S U,S=gR (kV M)\/S=gR (kV B)->qK 64 #[S] U (Rt (aF #[]) U):=by
  intro S U hS;subst W O;obtain rfl|rfl:=hS
  .exact ZA _ 2 U aIv
  .exact ZA _ 3 U aDl
 have CR:=eC (Z5 64 w 0 2 (kV M) (kV B) V (by rw[ab];exact nS f) (by rw[Y];exact rI f) (l8 func64 zK rfl)
  aa (by rw[W];exact aFq .some) (by rw[O];exact aFq .all));have ap:=eC ae;have HV:=eC Z;have CM:=eC (λU=>NO U);have CG:=eC (λ(D J:CA)(U:aS)(x:kW U D (kV M))(y:kW U J (kV B))=>show qK 65 #[tR D (kV M),tR J (kV B)] U (PA B U)by subst W O;exact aCM D J gF gZ gZ U x y .some .all aKN aKQ zD);have CE:=eC (λ(A:CA)(U:aS)(h:kW U A (kV B))=>show qK 52 #[tR A (kV B),qI 0] U (Rt (aB N) U)by rw[<-Y];exact J4 A (kV B) U h (by rw[O];exact JP .all));have ax:=eC W;have ay:=eC O;clear ae f aw Z aa W O ab Y;go_enter func62,ntmps62;go_wp2_with(first|(rw[HV])|(go_at_call 63;refine CR.mono ?_;rintro e wr⟨⟨D,J,v,rfl,ai,aj,ho⟩,hb⟩;obtain⟨g,gc,rfl,az,ag,ah⟩:=aCW rfl rfl ho;have au:=eC ai;have av:=eC aj;have aq:=eC ag;have ar:=eC ah;have u:=mG ap hb;clear ai aj ho hb ag ah));have R:=jX wr;have n1:∀U,Bl wr U->pP U g 0 D M:=λU h=>aq.later h;have n2:∀U,Bl wr U->pP U g 9 J B:=λU h=>ar.later h;unfold pP at n1 n2;simp only[kQ,Nat.reduceAdd]at n1 n2;refine zgW [2,5] (λi U=>match i with|2|5=>Bl wr U|_=>True) (.cons R (.cons R .nil)) ?_;refine jV 0 ?_;refine jV 1 ?_;refine BS 2 ?_;refine jV 3 ?_;refine jV 4 ?_;refine BS 5 ?_;have al:=eC (show qK 65 #[aH #[qI 1,aA D.va 1 D.vc,aA D.ba 3 D.bc,aA D.ta 2 D.tc,qI 9,aA D.ma M.length D.mc,qI (kL M).a,qI (kL M).k,qI (kL M).t],aH #[qI 1,aA J.va 1 J.vc,aA J.ba 3 J.bc,aA J.ta 2 J.tc,qI 9,aA J.ma B.length J.mc,qI (kL B).a,qI (kL B).k,qI (kL B).t]] wr.drew (PA B wr.drew)from CG D J wr.drew (au.later R) (av.later R));refine tG 6 [] λK hK=>?_;go_simp;go_wp2_with(go_at_call 65;refine al.mono ?_;rintro e j⟨⟨C,rfl,af⟩,ac⟩;rw[show tR C (kV B)=aH #[qI 1,aA C.va 1 C.vc,aA C.ba 3 C.bc,aA C.ta 2 C.tc,qI 9,aA C.ma B.length C.mc,qI (kL B).a,qI (kL B).k,qI (kL B).t]from rfl];have ak:=eC (show qK 52 #[aH #[qI 1,aA C.va 1 C.vc,aA C.ba 3 C.bc,aA C.ta 2 C.tc,qI 9,aA C.ma B.length C.mc,qI (kL B).a,qI (kL B).k,qI (kL B).t],qI 0] j (Rt (aB N) j)from CE C j af);have am:=eC (u.trans ((R.trans (ac.mono (eX _))).mono u.size));clear af ac);refine hK _ _ .nil ?_;clear hK K;refine jV 7 ?_;refine jV 8 ?_;refine tG 9 [] λK hK=>?_;go_simp;go_wp2_with(go_at_call 52;refine UL am ak λw5 ao=>?_);refine hK _ _ .nil ?_;clear hK K;refine EY 10 [] ?_;refine QU ?_;go_wp2;go_ret;exact⟨rfl,ao⟩
theorem aKl{a:Option Addr}(h:eS kCh U a [chA]):∃b o c e,a=some ⟨b,o,none⟩/\U.cell? (qP b o)=some (aA e 1 c)/\U.cell? (qP b (o+1))=some (qI 5)/\U.cell? (qP b (o+2))=some (qI 0)/\U.cell? (qP b (o+3))=some (qI 1)/\U.cell? (qP b (o+4))=some (qI (-1))/\eS kI U e [0]:=by obtain⟨b,f,m,rfl,k,⟨v,rfl,j⟩,d⟩:=h.at (i:=0) rfl;obtain⟨e,c,rfl,g,_⟩:=j.ls;rw[show f+0*kCh.k=f by omega]at d;exact⟨b,f,c,e,rfl,d 0 _ rfl,d 1 _ rfl,d 2 _ rfl,d 3 _ rfl,d 4 _ rfl,g⟩
theorem aFo(J M:List Mt)(O:J=gZ)(R:M=gF)(W X:ByteArray)(ab:gR (kV J)=W)(ac:gR (kV M)=X)(a b:Nat)(w:aS)(x:qC w a 0 (aB W))(y:qC w b 0 (aB X)):
  qK 66 #[qP a 0,qP b 0] w (Rt (aB wX) w):=by
 obtain⟨V,Y,af,Z,-⟩:=lB w (aK #[W,X] 9);have a4:=aG0 Y;have aa:∀S U,S=gR (kV J)\/S=gR (kV M)->qK 67 #[S] U (Rt (aF #[]) U):=by intro S U hS;exact aHo S U
 have CR:=eC (Z5 67 w 0 2 (kV J) (kV M) V (by rw[ab];exact nS Z) (by rw[ac];exact rI Z) (l8 func67 zK rfl)
  aa (by rw[O];exact aFq .all) (by rw[R];exact aFq .some));have aL:=eC af;have HV:=eC Y;have CM:=eC (λU=>NO U);have CG:=eC (λ(B D:CA)(U:aS)(x:kW U B (kV J))(y:kW U D (kV M))=>show qK 68 #[tR B (kV J),tR D (kV M)] U (N5 U)by subst O R;exact aHw B D U x y);have ba:=eC O;have bb:=eC R;clear af Z a4 Y aa O R ab ac;go_enter func66,ntmps66;go_wp2_with(first|(rw[HV])|(go_at_call 63;refine CR.mono ?_;rintro e wr⟨⟨B,D,v,rfl,ar,au,ho⟩,hb⟩;obtain⟨g,gc,rfl,bc,ap,aq⟩:=aCW rfl rfl ho;have a2:=eC ar;have a3:=eC au;have a0:=eC ap;have a1:=eC aq;have j:=mG aL hb;clear ar au ho hb ap aq));have N:=jX wr;have n1:∀U,Bl wr U->pP U g 0 B J:=λU h=>a0.later h;have n2:∀U,Bl wr U->pP U g 9 D M:=λU h=>a1.later h;unfold pP at n1 n2;simp only[kQ,Nat.reduceAdd]at n1 n2;refine zgW [2,5] (λi U=>match i with|2|5=>Bl wr U|_=>True) (.cons N (.cons N .nil)) ?_;refine jV 0 ?_;refine jV 1 ?_;refine BS 2 ?_;refine jV 3 ?_;refine jV 4 ?_;refine BS 5 ?_;have aw:=eC (show qK 68 #[aH #[qI 1,aA B.va 1 B.vc,aA B.ba 3 B.bc,aA B.ta 2 B.tc,qI 9,aA B.ma J.length B.mc,qI (kL J).a,qI (kL J).k,qI (kL J).t],aH #[qI 1,aA D.va 1 D.vc,aA D.ba 3 D.bc,aA D.ta 2 D.tc,qI 9,aA D.ma M.length D.mc,qI (kL M).a,qI (kL M).k,qI (kL M).t]] wr.drew (N5 wr.drew)from CG B D wr.drew (a2.later N) (a3.later N));refine tG 6 [] λK hK=>?_;go_simp;go_wp2_with(go_at_call 68;refine aw.mono ?_;rintro e f⟨⟨ca,u,rfl,ao⟩,ae⟩;obtain⟨a5,a6,a8,a7,ag,ah,ai,aj,ak,al,am⟩:=aKl ao;have ax:=eC (show qK 69 #[aA ca 1 u] f (Rt (aF #[wX,qI 0]) f)by rw[ag];exact aAg a5 a6 u a7 a8 f ah ai aj ak al am);have ay:=eC (j.trans ((N.trans (ae.mono (eX _))).mono j.size));clear ao ae ag ah ai aj ak al am);refine hK _ _ .nil ?_;clear hK K;refine jV 7 ?_;refine jV 8 ?_;refine jV 9 ?_;refine EY 10 [] ?_;refine EY 11 [] ?_;refine QU ?_;go_wp2_with(first|(go_at_call 49;refine(CM _).mono ?_;rintro e w9⟨rfl,av⟩;rw[<-av];clear av)|(go_at_call 69;refine UL ay ax λw5 az=>?_));go_ret;exact⟨rfl,az⟩
theorem aJS:aHV:=⟨λw=>WS _ _ _ w (λa b U d e=>aBu gF gZ rfl rfl _ _ rfl rfl a b U d e),λw=>aAy _ _ _ w (λa b U d e=>aFo gZ gF rfl rfl _ _ rfl rfl a b U d e)⟩
theorem aJN(w:aS):qK 5 #[] w (Rt (.bool true) w):=aAt aJS w
end
end Go.Proofs.YtgmjilingndloaaGreatDoor
