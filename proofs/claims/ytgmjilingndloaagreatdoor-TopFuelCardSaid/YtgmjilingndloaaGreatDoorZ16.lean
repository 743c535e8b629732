/- Part 16 of the proof of TopFuel. No conditions. -/
import Derived.Test.YtgmjilingndloaaGreatDoorZ15
open And renaming intro->bG
open Go renaming TypeId->aX,Value->aT,World->aS,undef->aY
open Go.Ending renaming returned->aO
open Go.IntKind renaming i64->aP
open Go.Obj renaming cells->aK,deferred->aM
open Go.RowKit renaming Below->aV,intOf->aW
open Go.Value renaming agg->aH,bool->aG,func->aD,int->aC,ownBlock->bY,pointer->aE,slice->aA,string->aB,tuple->aF
namespace Go.Proofs.YtgmjilingndloaaGreatDoor
set_option linter.unusedVariables false
set_option linter.unusedSimpArgs false
set_option maxRecDepth 100000
set_option maxHeartbeats 20000000
open Go Go.RowKit Go.Proofs.Tryz Go.Shelf
variable{W w U f:aS}{b i n k m:Nat}{d L e l:List Mt}{A:CA}{c:Cp}{g:aT}{p:Pg}{T:List (List Int)}{F:Int}{P:Program}
def kCp:lL (CA×Cp) where
 k:=9
 R:=λ_ x e=>e=(fU x.1 x.2).toList
 len:=λh=>by rw[h];rfl
 one:=λh u d=>by
  rw[h]at d
  simp[fU]at d
  obtain rfl|rfl|rfl|rfl|rfl|rfl|rfl|rfl|rfl:=d<;>rfl
 tags:=λ_=>False
 on:=λh _=>h
theorem aKD:gY prog 113 33 9 136:=gY.of underlying113 zK zO zO
theorem rG.grown{i:aS}{r:Nat}{j:List (CA×Cp)}(h:rG n W A c)(f:eD kCp 33 r W g j)(q:∀k,g.ownBlock=some k->k<n)(d:W.grownBy i g.ownBlock):rG n i A c:=
 ⟨gA h.vs (λh=>h) f zD d,gA h.bd (λh=>h) f zD d,h.rows.on d.size λk s m=>d.block k m λe=>by have:=q k e.symm;omega,gA h.muts (λh=>absurd (show(33:aX)=3 from h) zD) f zD d⟩
def aJF(f h:Cp)(w:aS)(k:Nat)(v:aT)(wr:aS):Prop:=aV w w wr/\((k=0/\v=aA none 0 0)\/
 (k=1/\∃d e,kW e d f/\(w:Nat)<=e.heap.size/\aV e.heap.size e wr/\eD kCp 33 e.heap.size wr v [(d,f)])\/
 (k=2/\∃d g,kW wr d f/\kW wr g h/\eD kCp 33 (w:Nat) wr v [(d,f),(g,h)]))
def aEq(g h:Cp)(w:aS)(e:Ending)(w':aS):Prop:=(∃d f v,e=aO v/\kW w' d g/\kW w' f h/\eD kCp 33 (w:Nat) w' v [(d,g),(f,h)])/\aV (w:Nat) w w'
structure Arc(c:Cp):Prop where
 ok:uV c
 z1:(fP c.T c.F).length<=1048576
 z2:(MC c.ms).length<=100000
theorem Z5(fl gb go rc:Nat)(D M:Cp)(w:aS)(j:qC w gb go (aB (gR D)))(y:qC w gb (go+1) (aB (gR M)))(eg:∀au w,(callFunc fl au).run prog w=.ok (.enter fl au) w)
  (hL:∀S U,S=gR D\/S=gR M->qK fl #[aB S] U λe w'=>e=aO (aF #[])/\aV U U w')(a1:Arc D)(a2:Arc M):
  qK 63 #[aD (.func fl) #[] #[],aA (some (gb,go)) 2 rc] w (aEq D M w):=by
 have am:=oF w _ j;have HS:=eC (λ(k:Nat)(hk:k<2)(U:aS)(hU:aV w w U)=>show∃c,(k=0/\c=D\/k=1/\c=M)/\(gR c=gR D\/gR c=gR M)/\Arc c/\U.cell? (gb,go+k)=some (aB (gR c))by
  rcases(by omega:k=0\/k=1)with rfl|rfl
  .exact⟨D,.inl ⟨rfl,rfl⟩,.inl rfl,a1,(hU.cell (p:=(gb,go)) am).trans j⟩
  .exact⟨M,.inr ⟨rfl,rfl⟩,.inr rfl,a2,(hU.cell (p:=(gb,go+1)) am).trans y⟩);have HL:=eC hL;have CM:=eC (λU=>NO U);obtain⟨Q,hQ⟩:=eR (aEq D M w);rw[hQ];have HQ:=eC hQ;clear j y am hL a1 a2 hQ;go_enter func63,ntmps63;go_wp2;go_loopw [14] (λi wr=>∃k:Nat,k<=2/\i=qI k/\Hid (aV w w wr)) (λi _=>3-(aW i).toNat)
 case atStart=>exact⟨0,zO,rfl,eC (iL _ _)⟩
 case round=>
  obtain⟨k,hk,rfl,HB⟩:=hrel;by_cases hlt:k<2
  .obtain⟨c,_,hc,_,ah⟩:=HS.out k hlt wr HB.out;have CL:=eC (HL.out (gR c) wr hc);have bo:(k:Int)<2:=zO;have bn:(0:Int)<=(k:Int):=zO;have wk:aP.wrap ((k:Int)+1)=(k:Int)+1:=by rw[iA];omega
   clear hc;generalize gR c=S at ah CL;go_wp2_with(refine CL.out.mono ?_;rintro e B⟨rfl,Y⟩;replace Y:=eC Y);exact⟨⟨k+1,zO,by go_num,mG HB Y.out⟩,by simp[aW];omega⟩
  .obtain rfl:k=2:=zO;clear HL;obtain⟨W,hW⟩:=eR wr;rw[hW]at HB|-;clear hW;go_wp2;go_loopw [7,24] (λv i wr=>∃(k:Nat)(v':aT),k<=2/\i=qI k/\v=v'/\Hid (aJF D M w k v' wr)) (λ_ i _=>3-(aW i).toNat)
   case atStart=>exact⟨0,_,zO,rfl,rfl,eC ⟨HB.out,.inl ⟨rfl,rfl⟩⟩⟩
   case round=>
    clear HB;obtain⟨k,v,hk,rfl,a8,Z⟩:=hrel;rw[a8];clear a8;by_cases hlt:k<2
    .obtain⟨c,a5,_,hA,ah⟩:=HS.out k hlt wr Z.out.1;have CD:=eC (F1 c wr hA.ok hA.z1 hA.z2);have bo:(k:Int)<2:=zO;have bn:(0:Int)<=(k:Int):=zO;have wk:aP.wrap ((k:Int)+1)=(k:Int)+1:=by rw[iA];omega
     have ap:=eC a5;clear a5 hA;obtain⟨la,lc,m,rfl,hm⟩:∃la lc m,v=aA la m lc/\m<=1:=by
      obtain⟨_,h⟩|⟨_,N,O,_,_,_,h⟩|⟨h,_⟩:=Z.out.2
      .exact⟨none,0,0,h,zO⟩
      .obtain⟨a,cc,h,_⟩:=eL h;exact⟨a,cc,1,h,zO⟩
      .omega
     generalize hS:gR c=S at ah CD;clear hS;go_wp2_with fail;refine CD.out.mono ?_;rintro e B⟨X,rfl,al,Y⟩;obtain⟨J,ae,aw,-⟩:=lB B (aK (fU X c) 33);have R:rJ J B X c:=by rw[<-ae];exact fG B _
     obtain⟨f,af,ax,-⟩:=lB J (aK (fU X c) 33);have az:eG f J 0 (fU X c).toList:=by rw[<-af];exact eG.new _ _ _
     have aa:aV B B f:=fC aw ax;have ag:aV wr wr f:=fC Y aa;have a0:=al.later aa;obtain⟨n,L,ab,hn,a6,av,aL⟩:∃(n:Nat)(L:List (CA×Cp)),eD kCp 33 n f (aA la m lc) L/\n<=B/\w<=n/\L.length=m/\
       ((k=0/\L=[]/\n=B)\/(k=1/\∃N O,L=[(N,D)]/\kW O N D/\n=O/\aV O O f)):=by
      have bp:w<=(B:Nat):=fA Z.out.1.size Y.size
      obtain⟨a4,h⟩|⟨ai,N,O,j,y,h3,h4⟩|⟨h,_⟩:=Z.out.2
      .cases h
       exact⟨B,[],eD.nil _ _ _ _,eX _,bp,rfl,.inl ⟨a4,rfl,rfl⟩⟩
      .obtain⟨a,cc,hv,_⟩:=eL h4
       cases hv
       exact⟨O,_,h4.later ag,fA h3.size Y.size,y,rfl,.inr ⟨ai,N,O,rfl,j,rfl,fC h3 ag⟩⟩
      .omega
     have a7:∀q,(Value.slice la m lc).ownBlock=some q->q<(wr:Nat)/\k=1:=by
      intro q hq;obtain⟨_,h⟩|⟨ai,N,O,_,_,_,h4⟩|⟨h,_⟩:=Z.out.2
      .cases h;simp[bY]at hq
      .exact⟨(h4.lt q hq).2,ai⟩
      .omega
     have ar:=eC ab;have bd:=eC az;have bf:=eC al;have bb:=eC aa;have bg:=eC a0;have bj:=eC a7;have x:=eC (bG hn (bG a6 (bG av hm)));have be:=eC aL;have bc:=eC (show aV w w f from Z.out.1.trans (ag.mono Z.out.1.size));have HZ:=eC (show n<=f/\wr<=(B:Nat)/\B<=(f:Nat)from⟨fA hn aa.size,Y.size,aa.size⟩);have c0:qC J B 0 (qI c.p.pa):=R.c 0 rfl;have bv:qC J B 1 (aA X.va c.p.vs.length X.vc):=R.c 1 rfl;have bw:qC J B 2 (aA X.ba c.p.bd.length X.bc):=R.c 2 rfl;have c3:qC J B 3 (aA X.ta c.T.length X.tc):=R.c 3 rfl;have c4:qC J B 4 (qI c.F):=R.c 4 rfl;have c5:qC J B 5 (aA X.ma c.ms.length X.mc):=R.c 5 rfl;have c6:qC J B 6 (qI c.sc.a):=R.c 6 rfl;have c7:qC J B 7 (qI c.sc.k):=R.c 7 rfl;have c8:qC J B 8 (qI c.sc.t):=R.c 8 rfl;have bu:Hid ((fU X c).toList=[qI c.p.pa,aA X.va c.p.vs.length X.vc,aA X.ba c.p.bd.length X.bc,aA X.ta c.T.length X.tc,qI c.F,aA X.ma c.ms.length X.mc,qI c.sc.a,qI c.sc.k,qI c.sc.t]):=eC rfl;unfold fU at ae af;have bk:=eC ae;have bl:=eC af;clear al Y ae aw R af ax az aa ag a0 ab hn a6 av aL a7 hm CD ah;unfold tR fU;go_wp2_with(first
      |(rw[bk.out])
      |(rw[bl.out])
      |(go_at_call 49;refine(CM.out _).mono ?_;rintro e w9⟨rfl,ba⟩;rw[<-ba];clear ba)
      |(at_builtin;(refine kN aKD rfl (.tmp 35) (.tmp 37) rfl n (aA la m lc) L rfl ar.out J (X,c) (fU X c).toList rfl rfl bd.out (by have:=x.out;omega) HZ.out.1 (λh=>h.elim) ?_;intro v' w7 ab a3 ay;obtain⟨bs,bt,bq,_⟩:=eL ab;subst bq;rw[iR,x.out.2.2.1,LV];have aq:=eC ab;have bi:=eC a3;have aj:=eC ay;clear ab a3 ay)));have bh:=eC (show aJF D M w (k+1) (aA bs (m+1) bt) w7 from⟨bc.out.trans (aj.out.mono x.out.2.1),by
      obtain⟨a4,hL,ao⟩|⟨ai,N,O,hL,hU,ao,bm⟩:=be.out
      .have ak:c=D:=by
        obtain⟨_,h⟩|⟨h,_⟩:=ap.out
        .exact h
        .omega
       subst ak
       have u:=aq.out
       rw[iR,x.out.2.2.1,LV]at u
       have ac:=aj.out
       rw[hL]at u
       rw[ao]at u ac
       exact .inr (.inl ⟨zO,X,B,bf.out.at,by have:=x.out.2.1;omega,bb.out.trans ac,u⟩)
      .have ak:c=M:=by
        obtain⟨h,_⟩|⟨_,h⟩:=ap.out
        .omega
        .exact h
       subst ak
       have u:=aq.out
       rw[iR,x.out.2.2.1,LV]at u
       have ac:=aj.out
       have br:=(bg.out.grown ar.out (λq hq=>(bj.out q hq).1) bi.out).at
       rw[hL]at u
       rw[ao]at ac
       exact .inr (.inr ⟨zO,N,X,hU.later (bm.trans ac),br,u.mono x.out.2.1⟩)⟩);go_roundw
     case rel=>
      repeat apply Exists.intro
      refine bG ?_ rfl;exact⟨k+1,_,zO,by go_num,rfl,bh⟩
     case measure=>simp[aW];omega
    .obtain rfl:k=2:=zO;obtain⟨hb,h⟩:=Z.out;obtain⟨h,_⟩|⟨h,_⟩|⟨_,N,A2,j,y,h3⟩:=h
     .omega
     .omega
     .obtain⟨a,cc,rfl,_⟩:=eL h3;have HF:Hid (aEq D M w (aO (aA a 2 cc)) wr):=eC ⟨⟨N,A2,_,rfl,j,y,h3⟩,hb⟩;rw[HQ.out]at HF;clear hb j y h3;go_wp2;exact HF.out
def tO:ByteArray:=⟨#[110,111,110,101]⟩
def JC:ByteArray:=⟨#[97,108,105,118,101]⟩
def mV:ByteArray:=⟨#[107,105,108,108,101,100]⟩
def zI:ByteArray:=⟨#[116,105,109,101,111,117,116]⟩
def wX:ByteArray:=⟨#[48,32,53,32,48,32,107,105,108,108,101,100,32,110,111,110,101,10]⟩
theorem aET(w:aS):qK 200 #[] w (Rt (aH #[aB tO,aB JC,aB mV,aB zI]) w):=by have B:=eC ((iL _ w).alloc (eX _) (aK #[tO,JC,mV,zI] 308));have D:=eC (fG w (aK #[tO,JC,mV,zI] 308));go_enter func200,ntmps200;go_wp2;exact gO (EP rfl _ _ w 308 _ (0,0) _ rfl D underlying308 rfl zK) rfl ⟨rfl,B⟩
theorem aJZ(w:aS):qK 199 #[qI 0] w λe w'=>e=aO (aB ⟨#[48]⟩)/\w'=w:=by have h:=strconv_Itoa_small 0 zD w;rw[Lib.decDigits_one zD]at h;exact h
theorem aKk(w:aS):qK 199 #[qI 5] w λe w'=>e=aO (aB ⟨#[53]⟩)/\w'=w:=by have h:=strconv_Itoa_small 5 zD w;rw[Lib.decDigits_one zD]at h;exact h
theorem aJB(b:Nat)(w:aS)(e:qC w b 0 (aB ⟨#[48]⟩))(f:qC w b 1 (aB ⟨#[53]⟩))(g:qC w b 2 (aB ⟨#[48]⟩))(h:qC w b 3 (aB mV))(i:qC w b 4 (aB tO))(k:b<w):
  qK 201 #[aA (some (b,0)) 5 5,aB ⟨#[32]⟩] w (Rt (aB ⟨#[48,32,53,32,48,32,107,105,108,108,101,100,32,110,111,110,101]⟩) w):=
 strings_Join b 0 5 [⟨#[48]⟩,⟨#[53]⟩,⟨#[48]⟩,mV,tO] ⟨#[32]⟩ w (λj x d=>by
  match j with
  |0=>cases d;exact e
  |1=>cases d;exact f
  |2=>cases d;exact g
  |3=>cases d;exact h
  |4=>cases d;exact i
  |j+5=>simp at d) k zD zD zD
theorem aHp(j:Option Addr)(pc:Nat)(w:aS)(hp:eS kI w j [0]):
  qK 147 #[aH #[aA j 1 pc,aC aP 5,aC aP 0,aC aP 1,aC aP (-1)]] w λe w'=>e=aO (aB wX)/\aV w w w':=by
 obtain⟨V,W⟩:∃V,w.alloc (aK #[aA j 1 pc,aC aP 5,aC aP 0,aC aP 1,aC aP (-1)] 225)=V:=⟨_,rfl⟩;have x:aV w w V:=by rw[<-W];exact(iL _ w).alloc (eX _) _
 have y:V.heap[(w:Nat)]?=some (aK #[aA j 1 pc,aC aP 5,aC aP 0,aC aP 1,aC aP (-1)] 225 (0,0)):=by rw[<-W];exact fG w _
 obtain⟨g,al,vs,rfl,hg,af,ae⟩:=(hp.later x).at (i:=0) rfl;have ak:vs=[aC aP 0]:=af;subst ak;have d0:V.cell? ⟨g,al,none⟩=some (aC aP 0):=by have:=ae 0 _ rfl;simpa using this
 have e0:=kG V _ 0 _ _ _ y;have HR:=eC y;have HB:=eC x;have aa:=eC aJZ;have ai:=eC aKk;have HJ:=eC aJB;have HW:=eC aET;obtain⟨Q,u⟩:∃Q:Ending->aS->Prop,(λe w'=>e=aO (aB wX)/\aV w w w')=Q:=⟨_,rfl⟩;rw[u];have HQ:=eC u;clear x y hp af ae u;go_enter func147,ntmps147;go_wp2_with(rw[W]);clear W;go_loopw [3,11] (λs i wr=>wr=V/\(i=aC aP 0/\s=aB ⟨#[45]⟩\/i=aC aP 1/\s=aB ⟨#[48]⟩)) (λ_ i _=>2-(aW i).toNat)
 case atStart=>exact⟨rfl,.inl ⟨rfl,rfl⟩⟩
 case round=>
  obtain⟨rfl,h⟩:=hrel;obtain⟨rfl,rfl⟩|⟨rfl,rfl⟩:=h
  .go_wp2_with(go_at_call 199;refine(aa.out _).mono ?_;rintro e J⟨rfl,rfl⟩);exact⟨⟨trivial,.inr ⟨rfl,rfl⟩⟩,by simp[aW]⟩
  .go_wp2_with(go_at_call 200;refine(HW.out _).mono ?_;rintro e J⟨rfl,S⟩;replace S:=eC S);obtain⟨D,X⟩:∃D,J.alloc (aK #[aB tO,aB JC,aB mV,aB zI] 308)=D:=⟨_,rfl⟩;have ac:aV J J D:=by rw[<-X];exact(iL _ J).alloc (eX _) _
   have R:D.heap[(J:Nat)]?=some (aK #[aB tO,aB JC,aB mV,aB zI] 308 (0,0)):=by rw[<-X];exact fG J _
   have f:aV wr wr D:=S.out.trans (ac.mono S.out.size);have M:=(f.block _ (fB.1 HR.out).1).trans HR.out;have k1:D.cell? ⟨w,1,none⟩=some (aC aP 5):=kG D _ 1 _ _ _ M;have k2:D.cell? ⟨w,2,none⟩=some (aC aP 0):=kG D _ 2 _ _ _ M;have k3:D.cell? ⟨w,3,none⟩=some (aC aP 1):=kG D _ 3 _ _ _ M;have k4:D.cell? ⟨w,4,none⟩=some (aC aP (-1)):=kG D _ 4 _ _ _ M;have j2:D.cell? ⟨J,2,none⟩=some (aB mV):=kG D _ 2 _ _ _ R;have j0:D.cell? ⟨J,0,none⟩=some (aB tO):=kG D _ 0 _ _ _ R;obtain⟨B,Y⟩:∃B,(D.alloc (aK #[aB ⟨#[48]⟩,aB ⟨#[53]⟩,aB ⟨#[48]⟩,aB mV,aB tO] 9)).drew=B:=⟨_,rfl⟩;have N:aV D.heap.size D B:=by have h:=(iL D.heap.size D).alloc (eX _) (aK #[aB ⟨#[48]⟩,aB ⟨#[53]⟩,aB ⟨#[48]⟩,aB mV,aB tO] 9);rw[<-Y];exact⟨h.os,h.tape,h.output,h.size,h.block⟩
   have O:B.heap[D.heap.size]?=some (aK #[aB ⟨#[48]⟩,aB ⟨#[53]⟩,aB ⟨#[48]⟩,aB mV,aB tO] 9 (0,0)):=by rw[<-Y];exact fG D _
   have CJ:=eC (HJ.out D.heap.size B (kG B _ 0 _ _ _ O) (kG B _ 1 _ _ _ O) (kG B _ 2 _ _ _ O) (kG B _ 3 _ _ _ O) (kG B _ 4 _ _ _ O) (fB.1 O).1);have HF:=eC (show aV (w:Nat) w B from HB.out.trans ((f.trans (N.mono f.size)).mono HB.out.size));have q1:B.cell? ⟨w,1,none⟩=some (aC aP 5):=kG B _ 1 _ _ _ ((N.block _ (fB.1 M).1).trans M);have q2:B.cell? ⟨w,2,none⟩=some (aC aP 0):=kG B _ 2 _ _ _ ((N.block _ (fB.1 M).1).trans M);have q3:B.cell? ⟨w,3,none⟩=some (aC aP 1):=kG B _ 3 _ _ _ ((N.block _ (fB.1 M).1).trans M);have q4:B.cell? ⟨w,4,none⟩=some (aC aP (-1)):=kG B _ 4 _ _ _ ((N.block _ (fB.1 M).1).trans M);have p2:B.cell? ⟨J,2,none⟩=some (aB mV):=kG B _ 2 _ _ _ ((N.block _ (fB.1 R).1).trans R);have p0:B.cell? ⟨J,0,none⟩=some (aB tO):=kG B _ 0 _ _ _ ((N.block _ (fB.1 R).1).trans R);have aj:=eC (λU(h:aV B.heap.size B U)=>show U.cell? ⟨w,1,none⟩=some (aC aP 5)/\U.cell? ⟨w,2,none⟩=some (aC aP 0)/\U.cell? ⟨w,3,none⟩=some (aC aP 1)/\U.cell? ⟨w,4,none⟩=some (aC aP (-1))/\U.cell? ⟨J,2,none⟩=some (aB mV)/\U.cell? ⟨J,0,none⟩=some (aB tO)from⟨(h.cell (oF B _ q1)).trans q1,(h.cell (oF B _ q2)).trans q2,(h.cell (oF B _ q3)).trans q3,(h.cell (oF B _ q4)).trans q4,(h.cell (oF B _ p2)).trans p2,(h.cell (oF B _ p0)).trans p0⟩);have ab:=eC Y;have ar:aP.wrap ((1:Int)+1)=2:=zD;have ap:∀U,(Instr.indexAt 308 (aE (some ⟨J,0,none⟩)) (aC aP 2)).run prog U=.ok (aE (some ⟨J,2,none⟩)) U:=λU=>by go_simp
   have ao:∀U,(Instr.indexAt 308 (aE (some ⟨J,0,none⟩)) (aC aP 0)).run prog U=.ok (aE (some ⟨J,0,none⟩)) U:=λU=>by go_simp
   have w2:aP.wrap 2=2:=zD;have w0:aP.wrap 0=0:=zD;have aq:aP.wrap ((-1:Int)+1)=0:=zD;rw[X];clear ac R f M X N O Y S d0 e0;go_region_held3(λU=>U.cell? ⟨w,1,none⟩=some (aC aP 5)/\U.cell? ⟨w,2,none⟩=some (aC aP 0)/\U.cell? ⟨w,3,none⟩=some (aC aP 1)/\U.cell? ⟨w,4,none⟩=some (aC aP (-1))/\U.cell? ⟨J,2,none⟩=some (aB mV)/\U.cell? ⟨J,0,none⟩=some (aB tO)) (first|(with_reducible assumption)|exact⟨k1,k2,k3,k4,j2,j0⟩|(rw[ab.out];exact⟨q1,q2,q3,q4,p2,p0⟩)) (first
    |(go_at_call 201;rw[ab.out];refine CJ.out.mono ?_;rintro e w5⟨rfl,Z⟩;have am:=aj.out w5 Z;replace Z:=eC Z)
    |(go_at_call 199;refine(ai.out _).mono ?_;rintro e w3⟨rfl,ag⟩;rw[ag];clear ag)
    |(go_at_call 199;refine(aa.out _).mono ?_;rintro e w4⟨rfl,ah⟩;rw[ah];clear ah));have hl:(⟨#[48,32,53,32,48,32,107,105,108,108,101,100,32,110,111,110,101]⟩:ByteArray)++⟨#[10]⟩=wX:=zK;rw[hl];go_wp2;rw[<-HQ.out];exact⟨rfl,HF.out.trans (Z.out.mono HF.out.size)⟩
theorem aIx(B b:Nat)(d:List aT)(s:ByteArray)(w:aS)(h:Lib.IsBuilder 228 5 B b d w)(g:d.length+s.size<=140737488355328)(f:B<=w):
  qK 146 #[qP b 0,aB s] w λe w'=>e=aO (aF #[qI s.size,.nilIface])/\(Lib.BuilderAt 228 5 B b (qP b 0) (d++Lib.strCells s) w'/\aV B w w'):=
 Any.Builder_WriteString (ρ:=lays156_ren) {lays156 with} Tryz.Builder_Extra_156 B b d s w h g f
theorem LT(h:qB w b #[aE none,qN] 228):Lib.IsBuilder 228 5 b b [] w:=
 .inl ⟨eX _,_,h,World.ownsRow_nil _ _ _ _,by simp[bY]⟩
theorem aAg(B D lc:Nat)(N:Option Addr)(W:Nat)(w:aS)(u:qC w B D (aA N 1 W))(h1:qC w B (D+1) (qI 5))(h2:qC w B (D+2) (qI 0))(h3:qC w B (D+3) (qI 1))(h4:qC w B (D+4) (qI (-1)))(hp:eS kI w N [0]):
  qK 69 #[aA (some (B,D)) 1 lc] w λe w'=>e=aO (aF #[aB wX,qI 0])/\aV w w w':=by
 obtain⟨V,hV,M,aj,ak⟩:=lB w (aK #[aE none,qN] 228);have R:=oF w _ u;have c0:=(M.cell (p:=(B,D)) R).trans u;have c1:=(M.cell (p:=(B,D+1)) R).trans h1;have c2:=(M.cell (p:=(B,D+2)) R).trans h2;have c3:=(M.cell (p:=(B,D+3)) R).trans h3;have c4:=(M.cell (p:=(B,D+4)) R).trans h4;obtain⟨J,ah,Y,ae,-⟩:=lB V (aK #[aA N 1 W,qI 5,qI 0,qI 1,qI (-1)] 225);have ac:=(hp.later M).later Y;have Z:=KP N W ⟨[0],5,0⟩ J ac ⟨zS,λx hx=>by obtain rfl:=rD.1 hx;omega,zS,by unfold rH;simp⟩;obtain⟨S,hS⟩:=eR (eH (QT ⟨[0],5,0⟩));rw[hS]at Z;have ap:Hid (qK 145 #[aH #[aA N 1 W,qI 5,qI 0]] J λe w'=>e=aO (aF #[S,qI 0])/\aV J J w'):=eC Z;have ao:=eC (λU(h:aV J J U)=>aHp N W U (ac.later h));have HX:=eC (λU(h:aV J J U)=>show qC U V 0 (aA N 1 W)/\qC U V 1 (qI 5)/\qC U V 2 (qI 0)/\qC U V 3 (qI 1)/\U.cell? (V,4)=some (qI (-1))by
  have e:=(h.block _ (fB.1 ae).1).trans ae
  exact pQ5 e);obtain⟨q0,q1,q2,q3,q4⟩:=HX.out J (iL _ _);have j:=eC (M.trans (Y.mono zO));have ag:=eC (show qB J w #[aE none,qN] 228from(Y.block _ zO).trans aj);have am:=eC aIx;have HZ:=eC ak;have ar:=eC ah;obtain⟨Q,y⟩:∃Q:Ending->aS->Prop,(λe w'=>e=aO (aF #[wX,qI 0])/\aV w w w')=Q:=⟨_,rfl⟩;rw[y];have HQ:=eC y;clear M aj ak R u h1 h2 h3 h4 hp Y ae ac Z hS ah y;go_enter func69,ntmps69;go_wp2_with(rw[hV]);clear hV;go_loopw [11] (λi wr=>i=qI 0/\wr=V\/i=qI 1/\Hid (Lib.BuilderAt 228 5 w w (qP w 0) (Lib.strCells wX) wr/\aV w w wr/\(w:Nat)<=wr)) (λi _=>2-(aW i).toNat)
 case atStart=>exact .inl ⟨rfl,rfl⟩
 case round=>
  obtain⟨rfl,rfl⟩|⟨rfl,f⟩:=hrel
  .go_wp2_with(first
    |(rw[ar.out])
    |(go_at_call 146;refine(am.out w w [] wX w3 (LT aq.out) zD (fC j X.out).size).mono ?_;rintro e w4⟨rfl,ab,O⟩;rw[uS]at ab;have al:=eC (bG ab (bG ((fC j X.out).trans O) ((fC j X.out).trans O).size));clear ab O)
    |(go_at_call 147;refine(ao.out w2 af.out).mono ?_;rintro e w3⟨rfl,ai⟩;have X:=mG af ai;have aq:=eC ((X.out.block _ (fB.1 ag.out).1).trans ag.out);clear ai)
    |(go_at_call 145;refine ap.out.mono ?_;rintro e w2⟨rfl,aa⟩;obtain⟨k0,k1,k2,k3,k4⟩:=HX.out w2 aa;have af:=eC aa;clear aa));exact⟨.inr ⟨rfl,al⟩,by simp[aW]⟩
  .have CS:=eC (Tryz.Builder_String_any w w wX.data.toList wr (.inr f.out.1) f.out.2.2);go_wp2_with(go_at_call 148;refine CS.out.mono ?_;rintro e w4⟨rfl,O⟩;have HF:=eC (f.out.2.1.trans O);clear O);rw[<-HQ.out];exact⟨rfl,HF.out⟩
theorem aDl(w:aS):qK 12 #[aB (gR (kV gZ))] w (Rt (aF #[qI 0,qI 3]) w):=
 NF (kV gZ) 3 w (JP .all) (fA AA zD) (fA (DK .all) zD) (λA U h=>SW A gZ (kL gZ) U h (TL .all) (aDX .all) (GP.judged .all))
theorem aJn(w:aS):qK 15 #[aB (eH (FE oZ)),aB (eH (fP oJ 9))] w (Rt (aF #[aB (gR (kV gZ)),qI 0]) w):=by have h:=aHy oZ oJ 9 w aKv (by rw[Y6];exact JP .all) (fA AA zD);rw[Y6]at h;exact h
theorem aFG(w:aS):qK 16 #[aB (gR (kV gZ))] w (aIw (kV gZ) w):=F1 (kV gZ) w (JP .all) (fA AA zD) (fA (DK .all) zD)
def aAc(A:CA):Array aT:=#[aC aP 1,aA A.va 1 A.vc,aA A.ba 3 A.bc,aA A.ta 2 A.tc,aC aP 9,aA A.ma 3 A.mc,aC aP 0,aC aP 3,aC aP 0]
theorem QY(A:CA):fU A (kV gZ)=aAc A:=by unfold fU kV;simp only;rw[aJ1];rfl
theorem aC1(w:aS):qK 16 #[aB (gR (kV gZ))] w λe w'=>∃A:CA,e=aO (aF #[aH (aAc A),qI 0])/\kW w' A (kV gZ)/\Bl w w':=by refine(aFG w).mono ?_;rintro e w'⟨A,rfl,d,f⟩;exact⟨A,by unfold tR;rw[QY],d.at,f⟩
theorem aE0(A:CA)(w:aS)(d:kW w A (kV gZ)):qK 17 #[aH (aAc A),aC .u64 6] w (ZE w):=by have h:=aF1 A w d;unfold tR at h;rw[QY]at h;exact h
structure aHV:Prop where
 merge:∀w,Calls prog 18 #[aB (gR (kV gF)),aB (gR (kV gZ))] w λe w'=>e=aO (aF #[aB (gR (kV gZ)),aC aP 0])/\aV w.heap.size w w'
 diff:∀w,Calls prog 19 #[aB (gR (kV gZ)),aB (gR (kV gF))] w λe w'=>e=aO (aF #[aB wX,aC aP 0])/\aV w.heap.size w w'
theorem aAt(hm:aHV)(w:aS):qK 5 #[] w λe w'=>e=aO (aG true)/\aV w w w':=by
 obtain⟨V,hV⟩:=eR ((w.alloc (aK #[qI 0] 3)).alloc (aK #[qI 20,qI 1,qI 25,qI 0,qI 3,qI 0] 54));obtain⟨r0,J,aw,bh⟩:=iY hV;have n0:=nS r0;have az:iE V (some (w,0)) (some ((w:Nat)+1,0)) 1 3 oZ:=by
  refine⟨.inr ⟨_,0,rfl,(fB.1 r0).1,λi x B=>?_⟩,.inr ⟨_,0,rfl,(fB.1 J).1,λi x B=>?_⟩,zD,zD,zD,zD⟩
  .match i with
   |0=>cases B;exact⟨[qI 0],rfl,λj v D=>by
     match j with
     |0=>cases D;exact n0
     |j+1=>simp at D⟩
   |i+1=>simp[oZ]at B
  .match i with
   |0=>cases B;exact pQ2 J
   |1=>cases B;exact⟨uI J,uG J⟩
   |2=>cases B;exact⟨E0 J,F7 J⟩
   |i+3=>simp[oZ,al0]at B
 have CP:Hid (qK 13 #[aH #[qI 1,aA (some (w,0)) 1 1,aA (some ((w:Nat)+1,0)) 3 3]] V λe w'=>e=aO (aF #[aB (eH (FE oZ)),qI 0])/\aV V V w'):=eC (P1 _ _ 1 3 oZ V az aHX kc0);have bd:=eC aw;have CD:=eC aC1;have CK:=eC aDl;have ag:=eC (λA U h=>aE0 A U h);have CE:=eC (λA U h=>NU A (kV gF) U h (JP .some));have Z:=eC hm.merge;have Y:=eC hm.diff;have ah:=eC (λ(U:aS)(ta:Option Addr)(tc:Nat)(h:gG U ta oJ)=>show qK 14 #[aA ta 2 tc,qI 9] U λe w'=>e=aO (aF #[aB (eH (fP oJ 9)),qI 0])/\aV U U w' from PK ta tc oJ 9 U h X8 zK);have ai:=eC (λ(M N:ByteArray)(h1:eH (FE oZ)=M)(h2:eH (fP oJ 9)=N)(U:aS)=>show qK 15 #[M,N] U λe w'=>e=aO (aF #[aB (gR (kV gZ)),qI 0])/\aV U U w' by rw[<-h1,<-h2];exact aJn U);obtain⟨M,aa⟩:∃S,eH (FE oZ)=S:=⟨_,rfl⟩;obtain⟨N,ab⟩:∃S,eH (fP oJ 9)=S:=⟨_,rfl⟩;have CT:=eC (ai.out M N aa ab);rw[aa]at CP;rw[ab]at ah;obtain⟨SA,al⟩:∃S,gR (kV gZ)=S:=⟨_,rfl⟩;obtain⟨SB,am⟩:∃S,gR (kV gF)=S:=⟨_,rfl⟩;rw[al]at CT CD CK Z Y;rw[am]at CE Z Y;obtain⟨Q,y⟩:∃Q:Ending->aS->Prop,(λe w'=>e=aO true/\aV w w w')=Q:=⟨_,rfl⟩;rw[y];have HQ:=eC y;have HV:=eC hV;clear ai aa ab al am r0 J aw bh n0 az hm y hV;go_enter func5,ntmps5;go_wp2_with(first
  |(rw[HV.out])
  |(go_at_call 13;refine UL bd CP λX a4=>?_));obtain⟨W2,ac⟩:=eR (((X.alloc (aK #[qI 0] 3)).alloc (aK #[qI 5] 3)).alloc (aK #[aA (some (X,0)) 1 1,aA (some ((X:Nat)+1,0)) 1 1] 22));obtain⟨f,u,R,aq,bg⟩:=B0 ac;have a1:gG W2 (some ((X:Nat)+1+1,0)) oJ:=by
  refine .inr ⟨_,0,rfl,(fB.1 R).1,λi l B=>?_⟩;match i with
  |0=>
   cases B;exact⟨_,1,nS R,.inr ⟨_,0,rfl,(fB.1 f).1,λj x D=>by
    match j with
    |0=>cases D;exact nS f
    |j+1=>simp at D⟩⟩
  |1=>
   cases B;exact⟨_,1,rI R,.inr ⟨_,0,rfl,(fB.1 u).1,λj x D=>by
    match j with
    |0=>cases D;exact nS u
    |j+1=>simp at D⟩⟩
  |i+2=>simp[oJ]at B
 have a6:=mG a4 aq;rw[ac];refine(ah.out W2 _ 2 a1).mono ?_;rintro e w2⟨rfl,ar⟩;have a7:=mG a6 ar;clear ac f u R aq bg a1 ar;go_wp2_with fail;refine UL a7 (CT.out w2) λw3 ak=>?_;go_wp2_with fail;refine(CD.out w3).mono ?_;rintro e w4⟨A,rfl,ax,au⟩;unfold aAc at ag|-;obtain⟨O,ao,ae,af,-⟩:=lB w4 (aK #[qI 1,aA A.va 1 A.vc,aA A.ba 3 A.bc,aA A.ta 2 A.tc,qI 9,aA A.ma 3 A.mc,qI 0,qI 3,qI 0] 33);have a8:=eC (show aV w w O from ak.out.trans ((fC au ae).mono ak.out.size));have HX:=eC (λU(h:aV O O U)=>show U.heap[(w4:Nat)]?=_ from(h.block _ (fB.1 af).1).trans af);have be:=eC (ax.later ae);have bf:=eC ao;clear ax au ae af ao;go_wp2_with(rw[bf.out]);refine(CK.out O).mono ?_;rintro e w6⟨rfl,W⟩;have a0:=HX.out w6 W;obtain⟨c0,c1,c2,c3,c4,c5,c6,c7,c8⟩:=pQ9 a0;have a3:=eC (ag.out A w6 (be.out.later W));have ba:=eC W;clear a0 W;go_wp2_with fail;refine a3.out.mono ?_;rintro e w7⟨⟨C,rfl,ay⟩,av⟩;have a2:=eC (CE.out C w7 ay);have bb:=mG ba av;clear ay av c0 c1 c2 c3 c4 c5 c6 c7 c8;generalize tR C (kV gF)=CV at*;go_wp2_with fail;refine UL bb a2 λw8 bc=>?_;go_wp2_with fail;refine UL bc (Z.out w8) λw9 a5=>?_;go_wp2_with fail;refine(Y.out w9).mono ?_;rintro e bi⟨rfl,ap⟩;have aj:=mG a5 ap;have aL:=HX.out bi aj.out;obtain⟨-,-,-,-,-,-,d6,d7,d8⟩:=pQ9 aL;have HF:=mG a8 aj.out;unfold wX;clear aL ap;go_wp2;rw[<-HQ.out];exact⟨rfl,HF.out⟩
def aJq(p:Pg)(T:List (List Int))(F:Int)(w:aS)(e:Ending)(w':aS):Prop:=∃(A:CA)(c:Cp)(d:Nat),e=aO (aF #[tR A c,aC aP d])/\d=AW p T F/\(d=0->c=UO p T F/\kW w' A c)/\aV (w:Nat) w w'
theorem aHh(p:Pg)(i d g:Option Addr)(j f m:Nat)(T:List (List Int))(F:Int)(w:aS)(q:iE w i d j f p)(r:gG w g T)(u:P64 p)(C:∀l∈T,(∀x∈l,kS x)/\l.length<=1000)(D:p.vs.length<=1000)(y:p.bd.length<=1000)(hT:T.length<=1000):
  qK 7 #[kE i d j f p,aA g T.length m,qI F] w (aJq p T F w):=by
 by_cases hE:AW p T F=0
 .have n:gH p=0:=by
   unfold AW at hE;by_cases h:gH p=0
   .exact h
   .rw[eI h]at hE;exact absurd hE h
  have B:pW p.pa T F=0:=by unfold AW at hE;rw[eE (by rw[n];simp)]at hE;exact hE
  refine(aEu p i d g j f m T F w q r (aFe u C D y hT n B)).mono ?_;rintro e w'⟨A,rfl,s,k⟩;exact⟨A,_,0,rfl,hE.symm,λ_=>⟨rfl,s.at⟩,k⟩
 .refine(aCu p i d g j f m T F w q r zO zO zO hE).mono ?_;rintro e w'⟨rfl,k⟩;exact⟨⟨none,0,none,0,none,0,none,0⟩,⟨⟨0,[],[]⟩,[],0,[],⟨0,0,0⟩⟩,AW p T F,rfl,rfl,λh=>absurd h hE,k⟩
theorem XW(h:uE p T F=true):p.bd.length<=20/\p.vs.length<=20/\T.length<=3/\(∀l∈T,l.length<=40)/\(F<=80\/10000<F):=by unfold uE xX SY wD at h;simp only[BV,Bool.or_eq_true,AX,Bool.not_eq_true',decide_eq_false_iff_not,IR]at h;refine⟨zO,zO,zO,λl d=>?_,zO⟩;have e:=h.1.1.1.1.1.1.2.2 l d;omega
theorem VX{M:Int}(hF:1<=F)(f:0<=M)(e:F+M<=10000){d:Dl}(hd:(fH p)[n]?=some d):
  (nZ iC p T F)[n]?=some (fQ iC p T F d)/\(nZ iC p T (F+M))[n]?=some (fQ iC p T (F+M) d)/\(fQ iC p T F d).d=d/\(fQ iC p T (F+M) d).d=d/\mS 1 (nZ iC p T F)<=mS 1 (nZ iC p T (F+M))/\
  ((fQ iC p T F d).v=1->(fQ iC p T (F+M) d).v=1/\(fQ iC p T (F+M) d).test<=(fQ iC p T F d).test/\((fQ iC p T (F+M) d).test<(fQ iC p T F d).test\/fQ iC p T (F+M) d=fQ iC p T F d)):=by refine⟨by unfold nZ;rw[oY,hd];rfl,by unfold nZ;rw[oY,hd];rfl,IS _ _ _ _ _,IS _ _ _ _ _,WD hF zO e,λh=>KM hF zO e h⟩
structure aIL(V:aS)(b1 b2:Nat)(x y:Mt)(px py:Option Addr)(cx cy:Nat)(wx:aS):Prop where
 bel:aV V V wx
 r1:wx.heap[b1]?=some (aK (wF px cx x.d x) 42 (0,0))
 r2:wx.heap[b2]?=some (aK (wF py cy y.d y) 42 (0,0))
theorem aIj(bt:∀U,qK 5 #[] U (Rt (aG true) U))
  (p:Pg)(T:List (List Int))(F M N:Int)(va ba ta:Option Addr)(vc bc tc:Nat)(w:aS)(hp:iE w va ba vc bc p)(ht:gG w ta T)(bp:P64 p)(cc:∀l∈T,∀x∈l,kS x)(bs:T.length<=9223372036854775807)(hN:kS N):
  qK 3 #[kE va ba vc bc p,aA ta T.length tc,qI F,qI M,qI N] w (Rt (aG true) w):=by
 obtain⟨V,hV,a3,a8,-⟩:=lB w (aK #[p.pa,aA va p.vs.length vc,aA ba p.bd.length bc] 25);have ar:=(fB.1 a8).1;have HX:=eC (λU(h:Bl V U)=>show qC U w 0 p.pa/\qC U w 1 (aA va p.vs.length vc)/\U.cell? (w,2)=some (aA ba p.bd.length bc)by
  have e:=(h.block _ ar).trans a8
  exact pX e);have ai:=eC (bt V);have CS:=eC (λU(h:Bl V U)=>show qK 6 #[aH #[p.pa,aA va p.vs.length vc,aA ba p.bd.length bc],aA ta T.length tc,qI F] U (Rt (aG (uE p T F)) U)from aCD p T F va ba ta vc bc tc U (ht.later (a3.trans (h.mono (Nat.le_of_lt ar)))) bs);have af:=eC a3;have ag:=eC (Nat.le_of_lt ar);have HP:=eC hp;have HT:=eC ht;have be:=eC bp;have bk:=eC cc;have HN:=eC hN;obtain⟨fw,a5⟩:=eR (uE p T F);rw[a5]at CS;have cP:=eC a5;unfold kE;clear a3 a8 ar bt hp ht bp cc bs hN a5;by_cases h0:fw=true/\0<=M/\M<=80
 case neg=>
  cases fw with
  |false=>go_enter func3,ntmps3;go_wp2_with(first|(rw[hV])|(go_at_call 6;refine(CS Z W).mono ?_;rintro e w2⟨rfl,Y⟩;have f:=eC (af.trans ((fC W Y).mono ag));clear Y)|(go_at_call 5;refine ai.mono ?_;rintro e Z⟨rfl,R⟩;obtain⟨q0,q1,q2⟩:=HX Z R;have W:=eC R;clear R));go_ret;exact⟨rfl,f⟩
  |true=>
   by_cases hm:M<0
   .go_enter func3,ntmps3;go_wp2_with(first|(rw[hV])|(go_at_call 6;refine(CS Z W).mono ?_;rintro e w2⟨rfl,Y⟩;have f:=eC (af.trans ((fC W Y).mono ag));clear Y)|(go_at_call 5;refine ai.mono ?_;rintro e Z⟨rfl,R⟩;obtain⟨q0,q1,q2⟩:=HX Z R;have W:=eC R;clear R));go_ret;exact⟨rfl,f⟩
   .have dk:M>80:=by
     obtain h|h:=Classical.em (M>80)
     .exact h
     .exact absurd ⟨rfl,zO,zO⟩ h0
    clear h0;go_enter func3,ntmps3;go_wp2_with(first|(rw[hV])|(go_at_call 6;refine(CS Z W).mono ?_;rintro e w2⟨rfl,Y⟩;have f:=eC (af.trans ((fC W Y).mono ag));clear Y)|(go_at_call 5;refine ai.mono ?_;rintro e Z⟨rfl,R⟩;obtain⟨q0,q1,q2⟩:=HX Z R;have W:=eC R;clear R));go_ret;exact⟨rfl,f⟩
 obtain⟨dj,bq,br⟩:=h0;subst dj;have d5:¬M<0:=zO;have dk:¬M>80:=zO;obtain⟨k1,k2,k3,k4,k5⟩:=XW cP;have CR:=eC (λG U(h:Bl V U)=>show qK 7 #[aH #[p.pa,aA va p.vs.length vc,aA ba p.bd.length bc],aA ta T.length tc,qI G] U (aJq p T G U)from aHh p va ba ta vc bc tc T G U (HP.later (af.trans (h.mono ag))) (HT.later (af.trans (h.mono ag))) be (λl hl=>⟨bk l hl,by have:=k4 l hl;omega⟩) zO zO zO);have bj:=eC (bG k1 k5);clear k1 k2 k3 k4 k5;have ay:=eC (bG bq br);clear bq br;go_enter func3,ntmps3;go_wp2_with(first|(rw[hV])|(go_at_call 6;refine(CS Z W).mono ?_;rintro e w2⟨rfl,Y⟩;have ap:=mG W Y;obtain⟨q3,q4,q5⟩:=HX w2 ap;clear Y q0 q1 q2)|(go_at_call 5;refine ai.mono ?_;rintro e Z⟨rfl,R⟩;obtain⟨q0,q1,q2⟩:=HX Z R;have W:=eC R;clear R));refine(CR F w2 ap).mono ?_;rintro e w3⟨A,c,er,rfl,bO,hc,bw⟩;unfold tR fU;obtain⟨W3,a0,a2,-⟩:=lB w3 (aK #[c.p.pa,aA A.va c.p.vs.length A.vc,aA A.ba c.p.bd.length A.bc,aA A.ta c.T.length A.tc,c.F,aA A.ma c.ms.length A.mc,qI c.sc.a,qI c.sc.k,qI c.sc.t] 33);have cd:rJ W3 w3 A c:=by rw[<-a0];exact fG w3 _
 obtain⟨G,hG⟩:=eR (aP.wrap (F+M));have au:=eC (ap.trans ((fC bw a2).mono ap.size));obtain⟨q6,q7,q8⟩:=HX W3 au;have bm:=eC cd;have bh:=eC bO;have HC:=eC (λh=>bG (hc h).1 ((hc h).2.later a2));have bl:=eC a0;clear q3 q4 q5 bO hc bw a2 cd a0;go_wp2_with(rw[bl]);refine(CR G W3 au).mono ?_;rintro e w4⟨S,j,de,rfl,bV,a4,bx⟩;unfold tR fU;obtain⟨J,a1,O,-⟩:=lB w4 (aK #[j.p.pa,aA S.va j.p.vs.length S.vc,aA S.ba j.p.bd.length S.bc,aA S.ta j.T.length S.tc,j.F,aA S.ma j.ms.length S.mc,qI j.sc.a,qI j.sc.k,qI j.sc.t] 33);have ce:rJ J w4 S j:=by rw[<-a1];exact fG w4 _
 have aq:Bl W3 J:=fC bx O;have cw:=mG au aq;have az:=eC ce;have aL:=eC (bm.later aq);have bi:=eC bV;have bg:=eC (λh=>bG (a4 h).1 ((a4 h).2.later O));have bf:=eC (λh=>bG (HC h).1 ((HC h).2.later aq));have ak:=eC a1;have f:=eC (show Bl w J from af.trans (cw.mono ag));have HG:=eC hG;clear q6 q7 q8 bV a4 bx O ce aq a1 HC hG;by_cases her0:er=0
 case neg=>have e1:((er:Int)==0)=false:=zT;have e2:((er:Int) !=0)=true:=zT;clear her0;go_wp2_with(rw[ak]);go_ret;exact⟨rfl,f⟩
 subst her0;obtain⟨dh,bA⟩:=bf rfl;subst dh;have am:gH p=0/\pW p.pa T F=0:=by
  have h:=bh.out;unfold AW at h;by_cases hk:gH p=0
  .rw[eE (by rw[hk];simp)]at h;exact⟨hk,h.symm⟩
  .rw[eI hk]at h;exact absurd h.symm hk
 obtain⟨f1,f2,f3,f4,f5⟩:=IE am.2;have df:F<=80:=by obtain h|h:=bj.2<;>omega
 have dg:G=F+M:=by rw[<-HG,iA];have:=ay.out;omega
 subst dg;have bz:pW p.pa T (F+M)=0:=by
  have h:=am.2;unfold pW at h|-;have hm:=ay.out;split at h
  .cases h
  .rename_i B;rw[eE B];split at h
   .cases h
   .rename_i D;rw[eE D,eE zO]
 obtain rfl:de=0:=by rw[bi];unfold AW;rw[eE (by rw[am.1];simp)];exact bz
 obtain⟨di,bL⟩:=bg rfl;subst di;have hm:=ay.out;obtain⟨nl,ao⟩:=eR ((fH p).length);have b4:(UO p T F).ms.length=nl:=by show(nZ iC p T F).length=nl;unfold nZ;rw[rN];exact ao
 have a6:(UO p T (F+M)).ms.length=nl:=by show(nZ iC p T (F+M)).length=nl;unfold nZ;rw[rN];exact ao
 have x5:J.cell? (w3,5)=some (aA A.ma nl A.mc):=by rw[<-b4];exact aL.c 5 rfl
 have y5:J.cell? (w4,5)=some (aA S.ma nl S.mc):=by rw[<-a6];exact az.c 5 rfl
 have x7:qC J w3 7 (qI (mS 1 (nZ iC p T F):Nat)):=aL.c 7 rfl;have y7:qC J w4 7 (qI (mS 1 (nZ iC p T (F+M)):Nat)):=az.c 7 rfl;have cA:=eC bA.2.2;have cB:=eC bL.2.2;have cS:=eC ao;have ax:=eC (show 1<=F/\0<=M/\F+M<=10000 from⟨f4,hm.1,zO⟩);have ah:=ak.out;rw[a6]at ah;replace ah:=eC ah;have dt:((0:Nat):Int)=0:=rfl;clear bf bg bh bi bm az aL bl HG bA bL am f1 f2 f3 f4 f5 df bz hm ao CR CS ai HX HT HP bk be;by_cases hn0:N<0
 .go_wp2_with(first|(rw[ak])|(rw[ah]));go_ret;exact⟨rfl,f⟩
 by_cases hnn:(nl:Int)<=N
 .go_wp2_with(first|(rw[ak])|(rw[ah]));go_ret;exact⟨rfl,f⟩
 obtain⟨n,rfl⟩:=qJ (show 0<=N from zO);go_wp2_with(first|(rw[ak])|(rw[ah]));have b6:n<(fH p).length:=by rw[cS];omega
 obtain⟨d,hd⟩:∃d,(fH p)[n]?=some d:=⟨_,lJ b6⟩;obtain⟨hx,hy,bb,bd,b3,b0⟩:=VX ax.1 ax.2.1 ax.2.2 hd;obtain⟨gx,ox,px,u,bu,_,b7,bn,cW,cX,c0,c1,c3,c4,c5,_⟩:=sR cA hx;obtain⟨gy,oy,py,cy,bv,_,b9,bo,c6,c7,c8,c9,da,db,dc,_⟩:=sR cB hy;have a7:=fA (BL (iG hd)).1 (fA bj.1 (by decide:20<=1000000));have b8:(fQ iC p T F d).d.path.length<=1000000:=by rw[bb];exact a7
 have ca:(fQ iC p T (F+M) d).d.path.length<=1000000:=by rw[bd];exact a7
 have cb:jD (fQ iC p T F d).d (fQ iC p T (F+M) d).d=0:=by rw[bb,bd];exact J5 d
 generalize fQ iC p T F d=x at*;generalize fQ iC p T (F+M) d=y at*;rw[bu]at x5;rw[bv]at y5;have d6:(0:Int)<=(n:Int):=zO;have d7:(n:Int)<(nl:Int):=zO;have cR:=eC b3;have cL:=eC b0;have cV:=eC cb;have ae:=eC (bG b7 (bG b8 (bG b9 ca)));generalize mS 1 (nZ iC p T F)=k1 at*;generalize mS 1 (nZ iC p T (F+M))=k2 at*;clear b6 hd hx hy bb bd b3 b0 bu bv a7 b8 ca cb b7 b9 hn0 hnn b4 a6;go_cut [16,17]from 18 to 129 (λdr ds wx=>∃(b1 b2:Nat),dr=qP b1 0/\ds=qP b2 0/\Hid (aIL J b1 b2 x y px py u cy wx))
 case first=>
  have d4:=jX J;have lx:=oF J _ bn;have ly:=oF J _ bo;have l3:=oF J _ x5;have l4:=oF J _ y5;have en:=rU x5;have eo:=rU y5;have du:=rU bn;have dv:=rU cW;have dw:=rU cX;have dx:=rU c0;have dy:=rU c1;have dz:=rU c3;have dA:=rU c4;have dB:=rU c5;have dC:=rU bo;have dE:=rU c6;have dF:=rU c7;have dT:=rU c8;have d0:=rU c9;have d1:=rU da;have d2:=rU db;have d3:=rU dc;go_region_held3(λU=>Bl J U) (first|(with_reducible assumption)|go_grown) (fail)
  .obtain⟨X,al⟩:=eR ((J.alloc (aK #[aA px x.d.path.length u,x.d.op,x.d.n,x.v,x.test,x.out.1,x.out.2,x.dig] 42)).alloc (aK #[aA py y.d.path.length cy,y.d.op,y.d.n,y.v,y.test,y.out.1,y.out.2,y.dig] 42));obtain⟨g0,g1,O,_⟩:=iY al;rw[al];have av:=eC (show aIL J ((J:Nat)) ((J:Nat)+1) x y px py u cy X.drew from⟨⟨O.os,O.tape,O.output,O.size,O.block⟩,g0,g1⟩);go_wp2;go_meet;exact⟨_,_,rfl,rfl,av⟩
  .obtain⟨X,al⟩:=eR ((J.alloc (aK #[aA py y.d.path.length cy,y.d.op,y.d.n,y.v,y.test,y.out.1,y.out.2,y.dig] 42)).alloc (aK #[aA px x.d.path.length u,x.d.op,x.d.n,x.v,x.test,x.out.1,x.out.2,x.dig] 42));obtain⟨g0,g1,O,_⟩:=iY al;rw[al];have av:=eC (show aIL J ((J:Nat)+1) ((J:Nat)) x y px py u cy X.drew from⟨⟨O.os,O.tape,O.output,O.size,O.block⟩,g1,g0⟩);go_wp2;go_meet;exact⟨_,_,rfl,rfl,av⟩
 case rest=>
  obtain⟨b1,b2,rfl,rfl,hcut⟩:=hcut;generalize wc=X at*;have ab:qB X b1 #[aA px x.d.path.length u,x.d.op,x.d.n,x.v,x.test,x.out.1,x.out.2,x.dig] 42:=hcut.out.r1;have ac:qB X b2 #[aA py y.d.path.length cy,y.d.op,y.d.n,y.v,y.test,y.out.1,y.out.2,y.dig] 42:=hcut.out.r2;have O:=hcut.out.bel;have l3:=oF J _ x7;have l4:=oF J _ y7;have CD:=eC (show qK 8 #[aH #[aA px x.d.path.length u,x.d.op,x.d.n],aH #[aA py y.d.path.length cy,y.d.op,y.d.n]] X (Rt (aG true) X)by
   have h:=OO px py u cy x.d y.d X (ae.1.later O) (ae.2.2.1.later O) ae.2.1 ae.2.2.2
   rw[cV]at h
   exact h);have CV:=eC (λU(h:Bl X U)=>show qK 9 #[aH #[aA px x.d.path.length u,x.d.op,x.d.n,x.v,x.test,x.out.1,x.out.2,x.dig],aH #[aA py y.d.path.length cy,y.d.op,y.d.n,y.v,y.test,y.out.1,y.out.2,y.dig]] U (Rt (aG (zB x y)) U)from FK px py u cy x y U ((ae.1.later O).later h) ((ae.2.2.1.later O).later h) ae.2.1 ae.2.2.2);have HR:=eC (λU(h:Bl X U)=>show(U.heap[b1]?=_/\U.heap[b2]?=_)/\(qC U w3 7 (qI (k1:Nat))/\qC U w4 7 (qI (k2:Nat)))from⟨⟨(h.block _ (fB.1 ab).1).trans ab,(h.block _ (fB.1 ac).1).trans ac⟩,⟨((fC O h).cell (p:=(w3,7)) l3).trans x7,((fC O h).cell (p:=(w4,7)) l4).trans y7⟩⟩);have aw:=mG f O;have d9:=nS ab;have eg:=nS ac;have ea:=rI ab;have eh:=rI ac;have eb:=uI ab;have ei:=uI ac;have dn:=uG ab;have dp:=uG ac;have ec:=E0 ab;have ej:=E0 ac;have ed:=F7 ab;have ek:=F7 ac;have ee:=L4 ab;have el:=L4 ac;have ef:=LI ab;have em:=LI ac;have am:¬(k2:Int)<(k1:Int):=by have:=cR.out;omega
  by_cases hv:x.v=1
  case neg=>
   have e1:(x.v !=1)=true:=by simpa using hv
   have e2:(x.v==1)=false:=by simpa using hv
   go_wp2_with(go_at_call 8;refine CD.mono ?_;rintro e w7⟨rfl,aa⟩;obtain⟨⟨B,D⟩,h3,h4⟩:=HR w7 aa;have cg:=nS B;have co:=nS D;have ch:=rI B;have cp:=rI D;have ci:=uI B;have cq:=uI D;have cj:=uG B;have cr:=uG D;have ck:=E0 B;have cs:=E0 D;have cl:=F7 B;have ct:=F7 D;have cm:=L4 B;have cu:=L4 D;have cn:=LI B;have cv:=LI D;have aj:=mG aw aa);go_ret;exact⟨rfl,aj⟩
  case pos=>
   obtain⟨cf,d8,dl⟩:=cL hv;rw[hv]at dn;rw[cf]at dp;have HV:=eC (bG hv cf);obtain hlt|heq:=dl
   .go_wp2_with(go_at_call 8;refine CD.mono ?_;rintro e w7⟨rfl,aa⟩;obtain⟨⟨B,D⟩,h3,h4⟩:=HR w7 aa;rw[HV.1]at B;rw[HV.2]at D;have cg:=nS B;have co:=nS D;have ch:=rI B;have cp:=rI D;have ci:=uI B;have cq:=uI D;have cj:=uG B;have cr:=uG D;have ck:=E0 B;have cs:=E0 D;have cl:=F7 B;have ct:=F7 D;have cm:=L4 B;have cu:=L4 D;have cn:=LI B;have cv:=LI D;have aj:=mG aw aa);go_ret;exact⟨rfl,aj⟩
   .have b5:zB x y=true:=by rw[heq];exact uA x
    rw[b5]at CV;rw[HV.1,HV.2]at CV;have dm:y.test=x.test:=by rw[heq]
    have ao:¬y.test<x.test:=zO;clear heq b5 dm;go_wp2_with(first
     |(go_at_call 9;refine UL aj (CV w7 cz) λw8 cE=>?_)
     |(go_at_call 8;refine CD.mono ?_;rintro e w7⟨rfl,aa⟩;obtain⟨⟨B,D⟩,h3,h4⟩:=HR w7 aa;rw[HV.1]at B;rw[HV.2]at D;have cg:=nS B;have co:=nS D;have ch:=rI B;have cp:=rI D;have ci:=uI B;have cq:=uI D;have cj:=uG B;have cr:=uG D;have ck:=E0 B;have cs:=E0 D;have cl:=F7 B;have ct:=F7 D;have cm:=L4 B;have cu:=L4 D;have cn:=LI B;have cv:=LI D;have aj:=mG aw aa;have cz:=eC aa;clear B D aa));go_ret;exact⟨rfl,cE⟩
section
attribute [local go_sem] Oper.semAt_some
def XE(d e:List Mt):Nat->Nat->Nat->List Mt
 |0,_,_=>[]
 |f+1,i,k=>if i=d.length/\k=e.length then []else(if(iJ d e i k).1 then(d[i]?).toList else(e[k]?).toList)++XE d e f (if(iJ d e i k).1 then i+1 else i) (if(iJ d e i k).2 then k+1 else k)
def PA(d:List Mt)(w:aS)(e:Ending)(w':aS):Prop:=(∃C:CA,e=aO (aF #[tR C (kV d),aC aP 0])/\kW w' C (kV d))/\aV (w:Nat) w w'
def QS:RB:=⟨oZ,oJ,9,0,0,none,0,none,0,none,0,none,0⟩
def PM:Sc:=⟨0,0,0⟩
theorem aDA(N O:Option Addr)(J M B D:Nat)(w:aS):
  qK 141 #[aA N J B,aA O M D,aD (.func 142) #[] #[]] w λe w'=>e=aO (aD (.func 195) #[] #[qP w 0,qP ((w:Nat)+1) 0,qP ((w:Nat)+1+1) 0])/\
   w'=((w.alloc (aK #[aA N J B] 29)).alloc (aK #[aA O M D] 29)).alloc (aK #[aD (.func 142) #[] #[]] 220):=by
 go_enter func141,ntmps141
 go_wp2
 go_ret
 exact⟨rfl,rfl⟩
def pP(U:aS)(b o:Nat)(A:CA)(l:List Mt):Prop:=U.cell? ⟨b,o,none⟩=some (aC aP 1)/\U.cell? ⟨b,o+1,none⟩=some (aA A.va 1 A.vc)/\U.cell? ⟨b,o+2,none⟩=some (aA A.ba 3 A.bc)/\U.cell? ⟨b,o+3,none⟩=some (aA A.ta 2 A.tc)/\U.cell? ⟨b,o+4,none⟩=some (aC aP 9)/\U.cell? ⟨b,o+5,none⟩=some (aA A.ma l.length A.mc)/\U.cell? ⟨b,o+6,none⟩=some (aC aP (kL l).a)/\U.cell? ⟨b,o+7,none⟩=some (aC aP (kL l).k)/\U.cell? ⟨b,o+8,none⟩=some (aC aP (kL l).t)
def rE(A:CA)(l:List Mt):Array aT:=#[aC aP 1,aA A.va 1 A.vc,aA A.ba 3 A.bc,aA A.ta 2 A.tc,aC aP 9,aA A.ma l.length A.mc,aC aP (kL l).a,aC aP (kL l).k,aC aP (kL l).t]
theorem vE(h:qB U b (rE A l) 33):pP U b 0 A l:=
 (pQ9 h)
theorem pP.later{o:Nat}(h:pP U b o A l)(s:Bl U W):pP W b o A l:=by have u:=oF U _ h.1;obtain⟨d,e,f,g,i,m,n,q,r⟩:=h;have k:∀j,W.cell? (qP b j)=U.cell? (qP b j):=λj=>s.cell (p:=(qP b j)) u;exact⟨(k _).trans d,(k _).trans e,(k _).trans f,(k _).trans g,(k _).trans i,(k _).trans m,(k _).trans n,(k _).trans q,(k _).trans r⟩
theorem uQ.put{B:RB}{k:Sc}{V wr:aS}{d l:Nat}{n q m i:aT}{e:List (List Int)}{f:List Mt}{o:Obj}(h:uQ B k V d n q m i e f wr)(j:Obj)(s:wr.heap[l]?=some o)(r:o.isCells=false)(u:d≠l)(x:V<=l):uQ B k V d n q m i e f (wr.putObj l j):=by have g:=fD.put (B:=(V:Nat)) j x s r;exact⟨(jY u).trans h.box,g.ownLs h.rows,g.ownLs h.muts,g.ownLs h.vs,g.ownLs h.bd,g.below h.bel (eX _) h.bel.size,h.ge⟩
structure J8(w5:aS)(cb lp:Nat)(v1 v2 tv:aT)(U0 U:aS)(mv:aT)(L:List Mt):Prop where
 cm:uQ QS PM w5 cb v1 v2 tv mv oJ L U
 muts:eD kM 42 U0 U mv L
 chg:eZ (λq=>q=cb\/q=lp) U0 U
 lc:cb<(U0:Nat)
 ll:lp<(U0:Nat)
 ne:cb≠lp
 vl:(w5:Nat)<=lp
theorem J8.later{q:aS}{g i:Nat}{m n k j:aT}{f U e:aS}{L:List Mt}(h:J8 q g i m n k f U j L)(d:Bl U e):J8 q g i m n k f e j L:=
 ⟨h.cm.later d,h.muts.later d,h.chg.then d,h.lc,h.ll,h.ne,h.vl⟩
theorem J8.put{y:aS}{k d:Nat}{u x s r:aT}{j U:aS}{L:List Mt}{o:Obj}(h:J8 y k d u x s j U r L)(g:Obj)(n:U.heap[d]?=some o)(m:o.isCells=false):J8 y k d u x s j (U.putObj d g) r L:=by
 have f:=grownBy_putObj' U d g;exact⟨h.cm.put g n m h.ne h.vl,(fD.put (B:=0) g (kU _) n m).ownLs h.muts,
  ⟨f.os.trans h.chg.os,f.tape.trans h.chg.tape,f.output.trans h.chg.output,fA h.chg.size f.size,λi A q=>(jY (λe=>q (.inr e))).trans (h.chg.block i A q)⟩,h.lc,h.ll,h.ne,h.vl⟩
theorem J8.push{y:aS}{e C:Nat}{u x s n:aT}{d:aS}{A:List Mt}(h:J8 y e C u x s d U n L)(i:U.grownBy f n.ownBlock)(D:aV d U f)(hw:y<=(d:Nat))(B:eD kM 42 d f g A):
  f.heap[e]?=some (aK #[qI 1,u,x,s,qI 9,n,qI 0,qI 0,qI 0] 33 (0,0))/\J8 y e C u x s d (qS f (e,5) g) g A/\eZ (λq=>q=e\/(d:Nat)<=q) U (qS f (e,5) g):=by have j:=h.cm.pushM i (D.mono hw) (B.mono hw);refine⟨j.1,⟨j.2,fJ B zD E8 j.1 (λk E=>eF _ E),(h.chg.grown i (λr m=>.inr (h.muts.lt r m).1)).set (.inl (.inl rfl)) _,h.lc,h.ll,h.ne,h.vl⟩,((eZ.refl _ _).grown i (λr m=>.inl (.inr (h.muts.lt r m).1))).set (.inl (.inl rfl)) _⟩
def ZJ(d:sQ)(q:aS)(g:Nat)(m n j:aT)(f:aS)(e:List Mt->Nat->Nat->Prop)(i k:Nat)(U:aS):Prop:=iP d .ready none U/\∃L h,J8 q g d.l m n j f U h L/\e L i k
theorem oS.put{n l:Nat}{W:aS}{A:CA}{c:Cp}{o:Obj}(h:oS n W A c)(d:Obj)(f:W.heap[l]?=some o)(e:o.isCells=false):oS n (W.putObj l d) A c:=by have g:=fD.put (B:=0) d (kU _) f e;exact⟨g.ownLs h.vs,g.ownLs h.bd,g.ownLs h.rows,g.ownLs h.muts⟩
theorem oS.err{g:aS}{i:Array aT}(h:oS n W A c)(e:qB W b i 34)(f:∀k,k≠b->g.heap[k]?=W.heap[k]?):oS n g A c:=
 ⟨fJ h.vs zD (λt d=>d.elim) e f,fJ h.bd zD (λt d=>d.elim) e f,fJ h.rows zD (λt d=>by rw[show t=3 from d];decide) e f,fJ h.muts zD (λt d=>by rw[show t=3 from d];decide) e f⟩
theorem VH(j:i<=e.length)(m:k<=d.length)(n:¬(i=e.length/\k=d.length)):
  (∃x,e[i]?=some x/\iJ e d i k=(true,false))\/(∃y,d[k]?=some y/\iJ e d i k=(false,true))\/(∃x y,e[i]?=some x/\d[k]?=some y/\iJ e d i k=(true,true)):=by
 by_cases hia:i=e.length
 .obtain⟨y,f⟩:=fN (show k<d.length from zO);refine .inr (.inl ⟨y,f,?_⟩);unfold iJ;rw[AS (l:=e) zO,f]
 .obtain⟨x,g⟩:=fN (show i<e.length from zO);by_cases hkb:k=d.length
  .refine .inl ⟨x,g,?_⟩;unfold iJ;rw[AS (l:=d) zO,g]
  .obtain⟨y,f⟩:=fN (show k<d.length from zO);have h:iJ e d i k=(decide (jD x.d y.d<=0),decide (0<=jD x.d y.d)):=by unfold iJ;rw[g,f]
   rcases(by omega:jD x.d y.d<0\/jD x.d y.d=0\/0<jD x.d y.d)with hc|hc|hc
   .exact .inl ⟨x,g,by rw[h,uW zO,BQ zO]⟩
   .exact .inr (.inr ⟨x,y,g,f,by rw[h,uW zO,uW zO]⟩)
   .exact .inr (.inl ⟨y,f,by rw[h,uW (p:=0<=jD x.d y.d) zO,BQ zO]⟩)
def LK(d e g L:List Mt)(i k:Nat):Prop:=∃f,L++XE d e f i k=g/\d.length+e.length<=f+i+k
theorem LK.step{j:List Mt}{m:Mt}(h:LK d e j L i k)(q:i<=d.length)(r:k<=e.length)(n:¬(i=d.length/\k=e.length))(g:iJ d e i k=(true,false)\/iJ d e i k=(false,true)\/iJ d e i k=(true,true))
  (hm:(if(iJ d e i k).1 then(d[i]?).toList else(e[k]?).toList)=[m]):LK d e j (L++[m]) (if(iJ d e i k).1 then i+1 else i) (if(iJ d e i k).2 then k+1 else k):=by
 obtain⟨f,hf,s⟩:=h;cases f with
 |zero=>omega
 |succ f=>unfold XE at hf;rw[eE n,hm,<-jH]at hf;refine⟨f,hf,?_⟩;obtain g|g|g:=g<;>rw[g]<;>simp<;>omega
theorem LK.done{g:List Mt}(h:LK d e g L d.length e.length):L=g:=by
 obtain⟨f,hf,_⟩:=h;cases f with
 |zero=>simpa[XE]using hf
 |succ f=>rw[XE,eI ⟨rfl,rfl⟩,EL]at hf;exact hf
theorem LK.len{g:List Mt}(h:LK e g d L i k):L.length<=d.length:=by obtain⟨f,hf,_⟩:=h;rw[<-hf,iR];omega
theorem yG{F:Fence}{l:Nat}{e:Array aT}{R:Ending->aS->Prop}(h:∀d,R=d->YieldAt F m P l e W d):YieldAt F m P l e W R:=h R rfl
theorem gS.pass{md:Region.Mode}{ops:Array Oper}{Q:Exit->Act->aS->Prop}{I:List Nat}{T:Nat->aS->Prop}{e:Oper}{fuel:Nat}{listed real:Array Bool}{a:Act}(d:G9 md ops listed real)(hT:iV T w (n9 md ops I real))(f:ops[i]?=some e)(j:i∈I\/∀w,T i w)
  (n:Region.noSelect ops=true)(hf:Region.free md ops listed i=true)(g:(Region.ready md ops listed).contains i=true)
  (k:∀c a w,Q (.panic c) (a.put e.dst aY) w->Q (.panic c) a w)(hw:Region.wanted e (yielded ops a.tmps)=false)(m:T i w)
  (h:G9 md ops (listed.setIfInBounds i true) real->gS P md ops Q I T fuel (listed.setIfInBounds i true) real (a.put e.dst aY) w):gS P md ops Q I T (fuel+1) listed real a w:=
 gS.first f j (Region.noSelect_spec n) k fuel listed real a w d.cl ⟨d.sz,d.re⟩ (Region.free_spec f hf) (by simpa using g) (.inr ⟨hw,rfl⟩) m hT (h (d.virtual g))
theorem WN{fn:Func}{p q:Tmp}(h:fn.results=#[.cell p 33,.cell q 34]){D:Array aT}{a:Nat}{B:Array aT}(X:B.size=9){n:Int}(R:qB W a B 33)(S:Boxed W b 34 (qI n))
  (N:D.getD p aY=qP a 0)(O:D.getD q aY=qP b 0):(results fn D).run prog W=.ok (aF #[aH B,qI n]) W:=by
 have U:=S.cell;have J:=run_loadVar_row (P:=prog) W a 33 33 B (0,0) _ R underlying33 rfl (by rw[X];kernel_rfl);have M:(loadVar 34 (b,0)).run prog W=.ok (qI n) W:=by simp[loadVar,go_sem,U]
 rw[BE h,N,O];simp[asAddr,J,M,Result.andThen]
theorem aBT{C W10:aS}{e D:Nat}{h i r n:Option Addr}{j s q:Nat}(hC:uQ QS PM C e (aA h QS.p.vs.length j) (aA i QS.p.bd.length m) (aA r oJ.length s) (aA n d.length q) oJ d f)
  (ae:qB f ((w:Nat)+1+1) #[qI 0,qN,qN,qN,qI 0,qN,qI 0,qI 0,qI 0] 33)(Y:qB f ((w:Nat)+1+1+1) #[qI 0] 34)
  (hd:f.heap[D]?=some (aM (some [])))(O:Bl w f)(ag:w+1+1+1<e)(hD:e<D)
  (hW:qS (qS (qS (qS (qS (qS (qS (qS (qS (qS (qS (qS (qS f (e,6) (qI (kL d).a)) (e,7) (qI (kL d).k)) (e,8) (qI (kL d).t)) ((w:Nat)+1+1,0) (qI 1)) ((w:Nat)+1+1,1) (aA h 1 j)) ((w:Nat)+1+1,2) (aA i 3 m)) ((w:Nat)+1+1,3) (aA r 2 s)) ((w:Nat)+1+1,4) (qI 9)) ((w:Nat)+1+1,5) (aA n d.length q)) ((w:Nat)+1+1,6) (qI (kL d).a)) ((w:Nat)+1+1,7) (qI (kL d).k)) ((w:Nat)+1+1,8) (qI (kL d).t)) ((w:Nat)+1+1+1,0) (qI 0)=W10):
  W10.heap[D]?=some (aM (some []))/\qB (W10.putObj D (aM none)) ((w:Nat)+1+1) (rE ⟨h,j,i,m,r,s,n,q⟩ d) 33/\Boxed (W10.putObj D (aM none)) ((w:Nat)+1+1+1) 34 (qI 0)/\
   kW (W10.putObj D (aM none)) ⟨h,j,i,m,r,s,n,q⟩ (kV d)/\Bl w (W10.putObj D (aM none)):=by
 have aa:oS C f ⟨h,j,i,m,r,s,n,q⟩ (kV d):=⟨hC.vs,hC.bd,hC.rows,hC.muts⟩
 have R:=hC.box
 have x:∀k,k≠e->(qS (qS (qS f (e,6) (qI (kL d).a)) (e,7) (qI (kL d).k)) (e,8) (qI (kL d).t)).heap[k]?=f.heap[k]?:=λk u=>by rw[eF _ u,eF _ u,eF _ u]
 have F:Bl w (qS (qS (qS f (e,6) (qI (kL d).a)) (e,7) (qI (kL d).k)) (e,8) (qI (kL d).t)):=((O.setCell (show w<=e from zO) _).setCell (show w<=e from zO) _).setCell (show w<=e from zO) _
 have K:=aa.box R x
 generalize qS (qS (qS f (e,6) (qI (kL d).a)) (e,7) (qI (kL d).k)) (e,8) (qI (kL d).t)=W3 at hW x F K
 have L:=(x ((w:Nat)+1+1) zO).trans ae
 have X:=(x ((w:Nat)+1+1+1) zO).trans Y
 have S:=(x D zO).trans hd
 have N:=WY _ _ _ _ _ _ _ _ _ (qI 1) (aA h 1 j) (aA i 3 m) (aA r 2 s) (qI 9) (aA n d.length q) (qI (kL d).a) (qI (kL d).k) (qI (kL d).t) L F (show w<=(w:Nat)+1+1 from zO)
 obtain⟨M,G,y,af⟩:=N
 generalize qS (qS (qS (qS (qS (qS (qS (qS (qS (W3) ((w:Nat)+1+1,0) (qI 1)) ((w:Nat)+1+1,1) (aA h 1 j)) ((w:Nat)+1+1,2) (aA i 3 m)) ((w:Nat)+1+1,3) (aA r 2 s)) ((w:Nat)+1+1,4) (qI 9)) ((w:Nat)+1+1,5) (aA n d.length q)) ((w:Nat)+1+1,6) (qI (kL d).a)) ((w:Nat)+1+1,7) (qI (kL d).k)) ((w:Nat)+1+1,8) (qI (kL d).t)=W9 at hW M G y af
 have ab:=K.box L y
 have J:=(y ((w:Nat)+1+1+1) zO).trans X
 have U:=(y D zO).trans S
 have Z:oS C W10 ⟨h,j,i,m,r,s,n,q⟩ (kV d):=by rw[<-hW];exact ab.err J (λk u=>eF _ u)
 have ac:W10.heap[(w:Nat)+1+1]?=some (aK (rE ⟨h,j,i,m,r,s,n,q⟩ d) 33 (0,0)):=by rw[<-hW,eF _ zO];exact M
 have W:W10.heap[(w:Nat)+1+1+1]?=some (aK #[qI 0] 34 (0,0)):=by rw[<-hW];exact iB _ _ 0 _ _ (qI 0) J
 have A:W10.heap[D]?=some (aM (some [])):=by rw[<-hW,eF _ zO];exact U
 have E:Bl w W10:=by rw[<-hW];exact G.setCell (show w<=(w:Nat)+1+1+1 from zO) _
 have g:=fD.put (B:=(w:Nat)) (aM none) (show w<=D from zO) A rfl
 exact⟨A,(jY zO).trans ac,(jY zO).trans W,(Z.put _ A rfl).at,g.below E (eX _) E.size⟩
end
section
attribute [local go_sem] Oper.semAt_some
theorem aCM(A B:CA)(R S lm:List Mt)(w:aS)(ha:kW w A (kV R))(hb:kW w B (kV S))(b8:GP R)(b9:GP S)(Z:XE R S (R.length+S.length) 0 0=lm)
  (ej:∀i k x y,R[i]?=some x->S[k]?=some y->iJ R S i k=(true,true)->zB x y=true)(ea:lm.length<=1000):
  qK 65 #[tR A (kV R),tR B (kV S)] w (PA lm w):=by
 obtain⟨V,hV⟩:=eR ((((w.alloc (aK (rE A R) 33)).alloc (aK (rE B S) 33)).alloc (aK #[qI 0,qN,qN,qN,qI 0,qN,qI 0,qI 0,qI 0] 33)).alloc (aK #[qI 0] 34));obtain⟨r0,r1,r2,r3,dz,ep⟩:=aGT hV;have n0:=vE r0;have n1:=vE r1;have di:=eC (λU(h:aV V V U)=>n0.later h);have dj:=eC (λU(h:aV V V U)=>n1.later h);obtain⟨W1,co,dw,af,-⟩:=lB V (aK (rE A R++rE B S) 33);have HE:=eC (λ(k:Nat)(hk:k<2)=>show∃X l,pP W1 V (k*9) X l/\kW w X (kV l)/\GP l by
  rcases(by omega:k=0\/k=1)with rfl|rfl
  .exact⟨A,R,(pQ9 af),ha,b8⟩
  .exact⟨B,S,⟨pE9 af,aDU af,aBw af,kG W1 _ 12 _ _ _ af,kG W1 _ 13 _ _ _ af,kG W1 _ 14 _ _ _ af,kG W1 _ 15 _ _ _ af,kG W1 _ 16 _ _ _ af,kG W1 _ 17 _ _ _ af⟩,hb,b9⟩);have HA:=eC ha;have HB:=eC hb;have bn:=eC b8;have bo:=eC b9;have HZ:=eC Z;have fh:=eC ej;have de:=eC ea;have fO:=eC r0;have fP:=eC r1;have fd:=eC r2;have ff:=eC r3;have br:=eC dz;have bf:=eC ep;have bp:=eC dw;obtain⟨c0,u,c2,c3,c4,c5,c6,c7,c8⟩:=n0;obtain⟨d0,d1,d2,d3,d4,d5,d6,d7,d8⟩:=n1;simp only[kQ]at u c2 c3 c4 c5 c6 c7 c8 d1 d2 d3 d4 d5 d6 d7 d8;obtain⟨Q,hQ⟩:=eR (PA lm w);rw[hQ];have HQ:=eC hQ;clear ha hb b8 b9 Z ej ea r0 r1 r2 r3 dz ep dw af hQ;rw[show tR A (kV R)=aH (rE A R)from rfl,show tR B (kV S)=aH (rE B S)from rfl];unfold rE at hV co|-;have HV:=eC hV;have fq:Hid (V.alloc (aK #[qI 1,aA A.va 1 A.vc,aA A.ba 3 A.bc,aA A.ta 2 A.tc,qI 9,aA A.ma R.length A.mc,qI (kL R).a,qI (kL R).k,qI (kL R).t,qI 1,aA B.va 1 B.vc,aA B.ba 3 B.bc,aA B.ta 2 B.tc,qI 9,aA B.ma S.length B.mc,qI (kL S).a,qI (kL S).k,qI (kL S).t] 33)=W1):=eC co;clear hV co;refine(hH (n:=2)).1 ?_;refine xI func65 rfl trivial ?_ rfl;simp only[ntmps65,pN,Nat.reduceAdd,Nat.reduceSub];refine wpIn_wide.2 ?_;go_wp2_with(first|(rw[HV.out])|(rw[fq.out]));go_loopw [18] (λi wr=>∃k:Nat,k<=2/\i=qI k/\Hid (aV W1 W1 wr)) (λi _=>3-(aW i).toNat)
 case atStart=>exact⟨0,zO,rfl,eC (iL _ _)⟩
 case round=>
  obtain⟨k,hk,rfl,HW⟩:=hrel;by_cases hlt:k<2
  .obtain⟨X,l,hn,j,h2⟩:=HE.out k hlt;obtain⟨q0,q1,q2,q3,q4,q5,q6,q7,q8⟩:=hn.later HW.out;have fF:(k:Int)<2:=zO;have fE:(0:Int)<=(k:Int):=zO;have wk:aP.wrap ((k:Int)+1)=(k:Int)+1:=by rw[iA];omega
   obtain⟨V2,dv,aL,ee,-⟩:=lB wr (aK #[qI 1,aA X.va 1 X.vc,aA X.ba 3 X.bc,aA X.ta 2 X.tc,qI 9,aA X.ma l.length X.mc,qI (kL l).a,qI (kL l).k,qI (kL l).t] 33);have CC:=uZ X (kV l) V2 (j.later (br.out.trans ((bp.out.trans ((fC HW aL).mono bp.out.size)).mono br.out.size))) (TL h2);rw[aDX h2]at CC;have eJ:Hid (qK 28 #[aH #[qI 1,aA X.va 1 X.vc,aA X.ba 3 X.bc,aA X.ta 2 X.tc,qI 9,aA X.ma l.length X.mc,qI (kL l).a,qI (kL l).k,qI (kL l).t]] V2 λe w'=>e=aO (qI 0)/\aV V2 V2 w'):=eC CC;obtain⟨p0,p1,p2,p3,p4,p5,p6,p7,p8⟩:=vE ee;simp only[kQ]at p1 p2 p3 p4 p5 p6 p7 p8;have eE:=mG HW aL;have fl:=eC dv;clear hn j h2 aL ee CC dv;go_wp2_with(first|(rw[fl.out])|(go_at_call 28;refine eJ.out.mono ?_;rintro e w4⟨rfl,ah⟩;have bq:=mG eE ah;clear ah));exact⟨⟨k+1,zO,by go_num,bq⟩,by simp[aW];omega⟩
  .obtain rfl:k=2:=zO;have ay:=mG bp HW.out;obtain⟨c0,u,c2,c3,c4,c5,c6,c7,c8⟩:=di.out wr ay.out;obtain⟨d0,d1,d2,d3,d4,d5,d6,d7,d8⟩:=dj.out wr ay.out;simp only[kQ]at u c2 c3 c4 c5 c6 c7 c8 d1 d2 d3 d4 d5 d6 d7 d8;have bd:=mG br ay.out;have CK:=eC (show qK 139 #[aH #[qI 1,aA A.va 1 A.vc,aA A.ba 3 A.bc],aH #[qI 1,aA B.va 1 B.vc,aA B.ba 3 B.bc]] wr λe w'=>e=aO true/\aV wr wr w' from T4 oZ A.va B.va A.ba B.ba A.vc B.vc A.bc B.bc wr (HA.out.later bd.out).1 (HB.out.later bd.out).1);have cV:=eC (λU(h:aV wr wr U)=>show qK 140 #[aA A.ta 2 A.tc,aA B.ta 2 B.tc] U λe w'=>e=aO true/\aV U U w' by
    refine(aDC A.ta B.ta A.tc B.tc oJ oJ U ((HA.out.later bd.out).2.1.later h) ((HB.out.later bd.out).2.1.later h) zD zD).mono ?_
    rintro e w'⟨rfl,m,rfl⟩
    exact⟨by rw[uW rfl],yL U m⟩);have b6:=eC (λU(h:aV wr wr U)=>bG (di.out U (fC ay h)) (dj.out U (fC ay h)));go_wp2_with(first
    |(go_at_call 140;refine(cV.out w4 bq.out).mono ?_;rintro e M⟨rfl,aa⟩;have a7:=mG bq aa;obtain⟨⟨n0,n1,n2,n3,n4,n5,n6,n7,n8⟩,⟨m0,m1,N,m3,m4,m5,m6,m7,m8⟩⟩:=b6.out M a7.out;simp only[kQ]at n1 n2 n3 n4 n5 n6 n7 n8 m1 N m3 m4 m5 m6 m7 m8;clear aa)
    |(go_at_call 139;refine CK.out.mono ?_;rintro e w4⟨rfl,ah⟩;have bq:=eC ah;obtain⟨⟨k0,k1,k2,k3,k4,k5,k6,k7,k8⟩,⟨j0,j1,j2,j3,j4,j5,j6,j7,j8⟩⟩:=b6.out w4 ah;simp only[kQ]at k1 k2 k3 k4 k5 k6 k7 k8 j1 j2 j3 j4 j5 j6 j7 j8;clear ah));obtain⟨O,aq,aa,ef,eo⟩:=lB M (aK #[qI 0,qN,qN,qN,qI 9,qN,qI 0,qI 0,qI 0] 33);rw[aq];have az:=eC (show aV w w M from fC bd a7.out);have al:w<(M:Nat):=by have h1:=bf.out;have h2:=bp.out.size;have h3:=HW.out.size;have h4:=a7.out.size;omega
   have s0:∀U,aV M O U->qC U w 0 (qI 1):=λU h=>(h.cell (p:=(w,0)) al).trans ((aa.cell (p:=(w,0)) al).trans n0);have s1:∀U,aV M O U->qC U w 1 (aA A.va 1 A.vc):=λU h=>(h.cell (p:=(w,1)) al).trans ((aa.cell (p:=(w,1)) al).trans n1);have s2:∀U,aV M O U->qC U w 2 (aA A.ba 3 A.bc):=λU h=>(h.cell (p:=(w,2)) al).trans ((aa.cell (p:=(w,2)) al).trans n2);have bh:aV M O O.drew:=(aFm _);have bz:Hid (M<=(O:Nat)):=eC zO;have bw:M<=(M:Nat):=eX _;have cB:iE O A.va A.ba A.vc A.bc oZ:=(HA.out.later az.out).1.later aa;have db:Hid (eS kI O.drew A.va [0]):=eC (eS.later (w:=O) (w':=O.drew) cB.1 (aFm _));have dc:Hid (eS kP O.drew A.ba al0):=eC (eS.later (w:=O) (w':=O.drew) (nG.1 cB.2.1) (aFm _));clear cB;have dn:=eC ef;have ey:=eC aa;have be:=eC eo;have fM:=eC al;clear c0 u c2 c3 c4 c5 c6 c7 c8 d0 d1 d2 d3 d4 d5 d6 d7 d8 k0 k1 k2 k3 k4 k5 k6 k7 k8 j0 j1 j2 j3 j4 j5 j6 j7 j8 n0 n1 n2 n3 n4 n5 n6 n7 n8 m0 m1 N m3 m4 m5 m6 m7 m8 aq aa ef eo al CK cV;refine Code.wp_mono (Q:=Exit.then _ (λ_ _ _=>False)) (λe a w h=>by cases e<;>first|exact h|exact h.elim) ?_;refine zgW [2,5,9] (λi U=>match i with|2|5|9=>aV M O U|_=>True) (.cons bh (.cons bh (.cons bh .nil))) ?_;refine jV 0 ?_;refine jV 1 ?_;refine BS 2 ?_;refine jV 3 ?_;refine jV 4 ?_;refine BS 5 ?_;refine jV 7 ?_;refine jV 8 ?_;refine BS 9 ?_;refine tG 6 [2,9] λK hK=>?_;refine jZ (K:=kI) (o:=⟨some 60,_,_,_,_,_⟩) rV (λh=>h) rfl (.const qN) (.tmp 59) zR O.drew.heap.size qN [] zR (eD.nil _ _ _ _) A.va A.vc [0] zR db.out (by show 0+1<=10000000;omega) (eX _) ?_;intro v1 w6 cz fD bi;obtain⟨a1,u,rfl,_⟩:=fV cz;have bu:aV M O w6:=bh.trans (bi.mono bz.out);simp only[Act.put,aJ2,aB4,aEi,xq7,uS,aIA,aFK];refine hK _ _ (.cons bu (.cons bu .nil)) ?_;clear hK K;refine tG 10 [2] λK hK=>?_;refine jZ (K:=kP) (o:=⟨some 64,_,_,_,_,_⟩) FA (λh=>h) rfl (.const qN) (.tmp 63) zR O qN [] zR (eD.nil _ _ _ _) A.ba A.bc al0 zR (dc.out.later bi) (by show 0+3<=10000000;omega) (by exact bi.size) ?_;intro v2 f cA dT cr;obtain⟨a2,c2,rfl,_⟩:=fV cA;have ck:aV M O f:=bu.trans (cr.mono bz.out);have dm:=eC cA;have dl:=eC (gA cz (λh=>h) (eD.nil kP 54 O w6) zD dT);have h5:=(bi.trans (cr.mono (eX _))).block M (by have:=be.out;show M<(O:Nat);omega);have H5:=eC (h5.trans dn.out);obtain⟨y0,y1,y2⟩:=pX H5.out;have x0:=tK H5.out;clear h5 cA dT;simp only[Act.put,aJ2,aB4,aEi,xq7,uS,aIA,aFK];refine hK _ _ (.cons ck .nil) ?_;clear hK K;refine jV 11 ?_;refine EY 12 [] ?_;refine EY 13 [] ?_;refine QU ?_;obtain⟨W8,bg⟩:=eR (qS (qS (qS f (M,0) (qI 1)) (M,1) (aA a1 1 u)) (M,2) (aA a2 al0.length c2));have cv:∀q,q≠(M:Nat)->W8.heap[q]?=f.heap[q]?:=λq hq=>by rw[<-bg,eF _ hq,eF _ hq,eF _ hq]
   have cE:=iB _ _ 2 _ _ (aA a2 al0.length c2) (iB _ _ 1 _ _ (aA a1 1 u) (iB _ _ 0 _ _ (qI 1) H5.out));have dy:aV M O W8:=by rw[<-bg];exact((ck.setCell bw _).setCell bw _).setCell bw _
   rw[bg]at cE;obtain⟨cb,bk⟩:=eR (M:Nat);have cX:=eC (show uQ QS PM M cb (aA a1 QS.p.vs.length u) (aA a2 QS.p.bd.length c2) qN qN [] [] W8 from⟨by rw[<-bk];exact cE,eD.nil _ _ _ _,eD.nil _ _ _ _,(fJ dl.out zD (λt ht=>ht.elim) H5.out cv).mono bz.out,(fJ dm.out zD (λt ht=>ht.elim) H5.out cv).mono bz.out,ey.out.trans dy,uU bk⟩);have cW:=eC bk;rw[bg];rw[bk];clear bg cv cE dy bk y0 x0 y1 y2 ck bu bi cr bw bh s0 s1 s2 dl dm H5 db dc dn cz fD;have dk:=eC (λU(h:aV M M U)=>b6.out U (fC a7 h));obtain⟨⟨e0,e1,e2,e3,e4,e5,e6,e7,e8⟩,_⟩:=dk.out W8 cX.out.bel;simp only[kQ]at e1 e2 e3 e4 e5 e6 e7 e8;go_wp2;clear e0 e1 e2 e4 e5 e6 e7 e8;go_loopw [70] (λi wr=>∃k:Nat,k<=2/\i=qI k/\Hid (∃tv,uQ QS PM M cb (aA a1 QS.p.vs.length u) (aA a2 QS.p.bd.length c2) tv qN (oJ.take k) [] wr)) (λi _=>2-(aW i).toNat)
   case atStart=>exact⟨0,zO,rfl,eC ⟨_,cX.out⟩⟩
   case round=>
    obtain⟨k,hk,rfl,bL⟩:=hrel;by_cases hlt:k<2
    .obtain⟨ag,av⟩:=fN (show k<oJ.length by rw[show oJ.length=2 from rfl];exact hlt);obtain⟨tv,h0⟩:=bL.out;obtain⟨tb,fI,pa,pc,ek,dC,d9⟩:=(HA.out.later (fC az h0.bel)).2.1.at av;obtain⟨ra,rc,rfl,_⟩:=eL h0.rows;have H0:=eC h0;have k3:=uG h0.box;have cL:(oJ.take k).length=k:=by rw[jR,show oJ.length=2 from rfl];omega
     rw[cL]at k3 H0;have fj:Hid ((oJ.take (k+1)).length=k+1):=eC (by rw[jR,show oJ.length=2 from rfl];omega);have fi:=eC cL;have fk:Hid (oJ.take k++[ag]=oJ.take (k+1)):=eC (by rw[F4,av];rfl);have eT:=eC (uD d9);have fg:Hid (ag.length<=10):=eC (by
      rcases(by omega:k=0\/k=1)with rfl|rfl
      .cases av;decide
      .cases av;decide);have fR:qC wr tb (fI+k) (aA pa ag.length pc):=dC;have fF:(k:Int)<2:=zO;have fE:(0:Int)<=(k:Int):=zO;have wk:aP.wrap ((k:Int)+1)=(k:Int)+1:=by rw[iA];omega
     rw[ek];clear dC d9 h0 bL av cL ek e3;go_wp2_with fail;refine Code.wp_mono (Q:=Exit.then _ (λ_ _ _=>False)) (λe a w h=>by cases e<;>first|exact h|exact h.elim) ?_;refine zgW [1] (λi U=>match i with|1=>qC U cb 3 (aA ra k rc)|_=>True) (.cons k3 .nil) ?_;refine jV 0 ?_;refine BS 1 ?_;refine jV 2 ?_;refine tG 3 [1] λK hK=>?_;refine jZ (K:=kI) (o:=⟨some 77,_,_,_,_,_⟩) rV (λh=>h) rfl (.const qN) (.tmp 76) zR wr.drew.heap.size qN [] zR (eD.nil _ _ _ _) pa pc ag zR (eT.out.later (aFm _)) (by have:=fg.out;simp;omega) (eX _) ?_;intro vq w6 cy fz a4;obtain⟨qa,qc,rfl,_⟩:=eL cy;have dA:aV wr wr w6:=⟨a4.os,a4.tape,a4.output,a4.size,a4.block⟩;have H5:=eC (H0.out.later dA);have k5:=uG H5.out.box;obtain⟨W6,ar,cq,-⟩:=lB w6 (aK #[aA qa ag.length qc] 22);have b1:Hid (eG W6 w6 0 [aA qa ag.length qc]):=eC (by rw[<-ar];exact eG.new _ _ _);have b4:Hid (YA.R W6 ag [aA qa ag.length qc]):=eC ⟨_,rfl,(by simpa using(cy.mono (kU _)).later cq)⟩;have H6:=eC (H5.out.later cq);have k6:=uG H6.out.box;replace ar:=eC ar;clear cy fz a4 dA cq;simp only[Act.put,xq7,uS];refine hK _ _ (.cons k5 .nil) ?_;clear hK K;refine tG 4 [1] λK hK=>?_;go_simp;rw[ar.out];refine hK _ _ (.cons k6 .nil) ?_;clear hK K;refine tG 5 [] λK hK=>?_;refine iS (o:=⟨some 79,_,_,_,_,_⟩) S5 rfl (.tmp 75) (.tmp 78) zR M (aA ra k rc) (oJ.take k) zR H6.out.rows w6 ag [aA qa ag.length qc] b4.out zR b1.out (by have:=fi.out;omega) (H6.out.bel.size) (λh=>absurd (show(22:aX)=3 from h) zD) ?_;intro v' f ao bl au;rw[fk.out]at ao;obtain⟨fU,fX,el,_⟩:=eL ao;rw[fj.out]at el;subst el;have HP:=eC (H6.out.pushT bl au ao);have y7:=uG HP.out.1;have x7:=tK HP.out.1;clear ao bl au;simp only[Act.put,UY];refine hK _ _ .nil ?_;clear hK K;refine EY 6 [] ?_;refine EY 7 [] ?_;refine QU ?_;go_wp2_with fail;go_roundw
     case rel=>exact⟨k+1,zO,by go_num,eC ⟨_,HP.out.2⟩⟩
     case measure=>simp[aW];omega
    .obtain rfl:k=2:=zO;obtain⟨tv,h0⟩:=bL.out;rw[show oJ.take 2=oJ from rfl]at h0;have eg:=h0.rows;obtain⟨ra,rc,rfl,_⟩:=eL eg;have H0:=eC h0;obtain⟨⟨e0,e1,e2,e3,e4,e5,e6,e7,e8⟩,⟨f0,f1,f2,f3,f4,f5,f6,f7,f8⟩⟩:=dk.out wr h0.bel;simp only[kQ]at e1 e2 e3 e4 e5 e6 e7 e8 f1 f2 f3 f4 f5 f6 f7 f8;clear bL h0 eg hlt hk;go_wp2_with(go_at_call 141;refine(aDA _ _ _ _ _ _ _).mono ?_;rintro e wz⟨rfl,en⟩;have ds:=eC en;clear en);rename_i hK;obtain⟨er,et,eu,dB,bm⟩:=B0 ds.out.symm;have b2:=eC (H0.out.later dB);have b7:=eC (bG er (bG et eu));have fu:=eC bm;have fQ:=eC (show aV w w wz from fC az b2.out.bel);have bb:Hid (wr<=(wz:Nat)/\cb<wz/\M<=(wr:Nat)/\w<=(M:Nat)/\cb<wr):=eC ⟨zO,(fB.1 b2.out.box).1,H0.out.bel.size,az.out.size,(fB.1 H0.out.box).1⟩;have eU:=eC hK;clear er et eu dB bm e0 e1 e2 e3 e4 e5 e6 e7 e8 f0 f1 f2 f3 f4 f5 f6 f7 f8 hK ds H0;refine wpIn_wide.1 (VV (n:=0) (gf:=195) (lb:=#[qP wr 0,qP ((wr:Nat)+1) 0,qP ((wr:Nat)+1+1) 0]) rfl (l8 func195 zK rfl) ?_);intro Y U0 cg cf cc cd ca ce cu ch ae cR;have ec:=bb.out;have bm:=fu.out;have ac:Hid (Y.l=wz+1/\Y.D=wz/\U0=(wz:Nat)+1+1):=eC ⟨ce,ca,cR⟩;have a8:=eC (bG cg (bG cf (bG cc cd)));have eO:=eC cu;have eW:=eC ch;have ez:=eC ae;have eH:=eC (b2.out.later ae);have dh:Hid (∀i k U,ZJ Y M cb (aA a1 QS.p.vs.length u) (aA a2 QS.p.bd.length c2) (aA ra oJ.length rc) U0 (LK R S lm) i k U->aV w w U):=eC (λi k U hj=>by
      obtain⟨_,L,mv,Z,_⟩:=hj
      exact fC az Z.cm.bel);refine(SG Y.l wr ((wr:Nat)+1) ((wr:Nat)+1+1) A.ma B.ma A.mc B.mc R S (by have:=bn.out.len;omega) (by have:=bo.out.len;omega) (λm hm=>by obtain rfl|rfl|rfl:=bn.out.mem m hm<;>decide) (λm hm=>by obtain rfl|rfl|rfl:=bo.out.mem m hm<;>decide)
      (ZJ Y M cb (aA a1 QS.p.vs.length u) (aA a2 QS.p.bd.length c2) (aA ra oJ.length rc) U0 (LK R S lm)) (ZJ Y M cb (aA a1 QS.p.vs.length u) (aA a2 QS.p.bd.length c2) (aA ra oJ.length rc) U0 (LK R S lm) R.length S.length) ?_ ?_ (λU h=>h) ?_ U0 ?_).mono ?_
     .intro i k U hj;have bj:=dh.out i k U hj;obtain⟨_,L,mv,Z,_⟩:=hj;have g:=λ(q:Nat)(h1:q<wz)(h2:q≠cb)=>(Z.chg.block q (by have:=ac.out;omega) (by have:=ac.out;omega)).trans (ez.out.block q h1);exact⟨kG U _ 0 _ _ _ ((g _ zO zO).trans b7.out.1),kG U _ 0 _ _ _ ((g _ zO zO).trans b7.out.2.1),kG U _ 0 _ _ _ ((g _ zO zO).trans b7.out.2.2),HA.out.2.2.later bj,HB.out.2.2.later bj⟩
     .intro i k U U' hj hb;obtain⟨hl,L,mv,Z,hm⟩:=hj;exact⟨hl.later hb,L,mv,Z.later hb,hm⟩
     .intro i k U hi hk hn hj;have bj:=dh.out i k U hj;obtain⟨ap,L,mv,Z,am⟩:=hj;obtain⟨qa,qc,rfl,_⟩:=eL Z.muts;have e9:Hid (L.length<=1000):=eC (fA am.len de.out);obtain⟨m,j,ab⟩|⟨m,j,ab⟩|⟨m,N,j,hy,ab⟩:=VH hi hk hn
      case' inl=>
       have aw:=am.step hi hk hn (.inl ab) (m:=m) (by rw[ab,j];rfl);obtain⟨gm,o1,pm,cm,a6,bx,bA,hce⟩:=BC HA.out.2.2 j;rw[ab]at aw|-;obtain⟨om,ak⟩:=eR (o1+i*8);have a5:G8 A.ma i true=qP gm om:=by rw[a6,<-ak];rfl
       rw[show G8 B.ma k false=aE none from rfl,a5];rw[ak]at hce;have bs:=eC (bn.out.mem m (iG j))
      case' inr.inl=>
       have aw:=am.step hi hk hn (.inr (.inl ab)) (m:=m) (by rw[ab,j];rfl);obtain⟨gm,o1,pm,cm,a6,bx,bA,hce⟩:=BC HB.out.2.2 j;rw[ab]at aw|-;obtain⟨om,ak⟩:=eR (o1+k*8);have a5:G8 B.ma k true=qP gm om:=by rw[a6,<-ak];rfl
       rw[show G8 A.ma i false=aE none from rfl,a5];rw[ak]at hce;have bs:=eC (bo.out.mem m (iG j))
      case' inr.inr=>
       have aw:=am.step hi hk hn (.inr (.inr ab)) (m:=m) (by rw[ab,j];rfl);obtain⟨gm,o1,pm,cm,a6,bx,bA,hce⟩:=BC HA.out.2.2 j;obtain⟨gn,o2,pn,cn,ei,dF,eb,cs⟩:=BC HB.out.2.2 hy;have fc:=eC (fh.out i k m N j hy ab);rw[ab]at aw|-;obtain⟨om,ak⟩:=eR (o1+i*8);obtain⟨on,cx⟩:=eR (o2+k*8);have a5:G8 A.ma i true=qP gm om:=by rw[a6,<-ak];rfl
       have ed:G8 B.ma k true=qP gn on:=by rw[ei,<-cx];rfl
       rw[ed,a5];rw[ak]at hce;rw[cx]at cs;have bs:=eC (bn.out.mem m (iG j));have eQ:=eC dF;have fb:=eC eb;have eM:=eC cs;have fr:=eC (bo.out.mem N (iG hy));clear ei dF eb cs cx ed hy
      all_goals
       refine yG λRP du=>?_;have dp:Hid ((∀a W3,iP Y .busy none W3->(∃cS,J8 M cb Y.l (aA a1 QS.p.vs.length u) (aA a2 QS.p.bd.length c2) (aA ra oJ.length rc) U0 W3 cS (L++[m]))->sO Y RP .normal a W3)/\∀a W3,¬sO Y RP .outgrown a W3):=eC ⟨λa W3 hl⟨cS,fH⟩=>⟨hl,by rw[<-du];exact .inl ⟨rfl,hl.put,L++[m],cS,fH.put _ hl.lp rfl,aw⟩⟩,λa W3 h=>h⟩;have dg:=eC ap;have ft:=eC Z;have fK:=eC bj;have eP:=eC bx;have df:=eC bA;have eK:=eC hce;have fL:=eC (bG hi hk);clear aw du ap Z bj bx bA hce a6 ak a5 ab j am hn hi hk cg cf cc cd ca ce cu ch ae cR ec bm;refine O9 (n:=0) _ dg.out eO.out (by rw[a8.out.2.1];rfl) (by rw[a8.out.1,a8.out.2.1,a8.out.2.2.1];intro K hK;gi_wp2;exact hK) ?_;intro ci;rw[a8.out.2.2.2];have b0:=ft.out.put (.loop (Y.lrec .busy none)) dg.out.lp rfl;obtain⟨J,cl⟩:=eR (U.putObj Y.l (.loop (Y.lrec .busy none)));rw[cl]at ci b0|-;have em:aV w w J:=fC az b0.cm.bel;have bc:=eC em;have bt:=eC b0;have eY:=eC ci;have ae:=jX J;have ai:∀V,aV J J V->eG V gm om [aA pm m.d.path.length cm,m.d.op,m.d.n,m.v,m.test,m.out.1,m.out.2,m.dig]:=λV h=>eK.out.below (fC bc h) eP.out;have s8:∀V,aV J J V->qC V gm om (aA pm m.d.path.length cm)/\qC V gm (om+1) m.d.op/\qC V gm (om+2) m.d.n/\qC V gm (om+3) m.v/\qC V gm (om+4) m.test/\qC V gm (om+5) m.out.1/\qC V gm (om+6) m.out.2/\qC V gm (om+7) (aB m.dig):=λV h=>⟨ai V h 0 _ rfl,ai V h 1 _ rfl,ai V h 2 _ rfl,ai V h 3 _ rfl,ai V h 4 _ rfl,ai V h 5 _ rfl,ai V h 6 _ rfl,ai V h 7 _ rfl⟩;have s5:∀V,aV J J V->qC V cb 5 (aA qa L.length qc):=λV h=>kG V _ 5 _ _ _ (bt.out.later h).cm.box;have CC:=eC (show∀V,aV J J V->qK 143 #[aH #[aA pm m.d.path.length cm,m.d.op,m.d.n,m.v,m.test,m.out.1,m.out.2,m.dig]] V λe w'=>(∃v,e=aO (aH #[v,m.d.op,m.d.n,m.v,m.test,m.out.1,m.out.2,m.dig])/\eD kI 3 V w' v m.d.path)/\aV V V w' from λV h=>KE pm cm m V (df.out.later (fC bc h)) (by obtain rfl|rfl|rfl:=bs.out<;>decide));obtain⟨RQ,cj⟩:=eR (sO Y RP);rw[cj]at dp|-;replace cj:=eC cj;replace cl:=eC cl;clear ci b0 ai em;gi_wp2
       first
        |(
         have aj:∀V,aV J J V->eG V gn on [aA pn N.d.path.length cn,N.d.op,N.d.n,N.v,N.test,N.out.1,N.out.2,N.dig]:=λV h=>eM.out.below (fC bc h) eQ.out
         have t8:∀V,aV J J V->qC V gn on (aA pn N.d.path.length cn)/\qC V gn (on+1) N.d.op/\qC V gn (on+2) N.d.n/\qC V gn (on+3) N.v/\qC V gn (on+4) N.test/\qC V gn (on+5) N.out.1/\qC V gn (on+6) N.out.2/\qC V gn (on+7) (aB N.dig):=λV h=>⟨aj V h 0 _ rfl,aj V h 1 _ rfl,aj V h 2 _ rfl,aj V h 3 _ rfl,aj V h 4 _ rfl,aj V h 5 _ rfl,aj V h 6 _ rfl,aj V h 7 _ rfl⟩
         have CV:=eC (show qK 9 #[aH #[aA pm m.d.path.length cm,m.d.op,m.d.n,m.v,m.test,m.out.1,m.out.2,m.dig],aH #[aA pn N.d.path.length cn,N.d.op,N.d.n,N.v,N.test,N.out.1,N.out.2,N.dig]] J.drew λe w'=>e=aO true/\aV J J.drew w' by
          refine(FK pm pn cm cn m N J.drew (df.out.later (fC bc ae)) (fb.out.later (fC bc ae)) (by obtain rfl|rfl|rfl:=bs.out<;>decide) (by obtain rfl|rfl|rfl:=fr.out<;>decide)).mono ?_
          rintro e w'⟨rfl,hb⟩
          exact⟨by rw[fc.out],hb⟩)
         clear aj
         refine Code.wpIn_mono (Q:=Exit.then _ (λ_ _ _=>False)) (λe a w h=>by cases e<;>first|exact h|exact h.elim) ?_
         refine zgR [5,8] (λi U=>match i with|5|8=>aV J J U|_=>True) (.cons ae (.cons ae .nil)) ?_
         refine jV 0 ?_
         refine jV 1 ?_
         refine jV 2 ?_
         refine jV 3 ?_
         refine jV 4 ?_
         refine BS 5 ?_
         refine jV 6 ?_
         refine jV 7 ?_
         refine BS 8 ?_
         refine tG 9 [] λK hK=>?_
         go_simp
         go_wp2_with(go_at_call 9;refine CV.out.mono ?_;rintro e w2⟨rfl,aL⟩;have ew:=eC aL;clear aL)
         refine hK _ _ .nil ?_;clear hK K
         refine jV 10 ?_
         refine jV 11 ?_
         refine QU ?_
         gi_wp2
         have a3:aV J J w2.drew:=(ae.trans ew.out).trans (aFm _))
        |(
         refine Code.wpIn_mono (Q:=Exit.then _ (λ_ _ _=>False)) (λe a w h=>by cases e<;>first|exact h|exact h.elim) ?_
         refine zgR [] (λi U=>match i with|_=>True) .nil ?_
         refine jV 0 ?_
         refine jV 1 ?_
         refine jV 2 ?_
         refine zgP 3 ?_
         refine zgP 4 ?_
         refine zgP 5 ?_
         refine zgP 6 ?_
         refine zgP 7 ?_
         refine zgP 8 ?_
         refine zgP 9 ?_
         refine zgP 10 ?_
         refine jV 11 ?_
         refine QU ?_
         gi_wp2
         have a3:aV J J J.drew.drew:=⟨rfl,rfl,rfl,eX _,λ_ _=>rfl⟩)
        |(have a3:aV J J J.drew:=ae)
       refine Code.wpIn_mono (Q:=Exit.then _ (λ_ _ _=>False)) (λe a w h=>by cases e<;>first|exact h|exact h.elim) ?_;refine zgR [1,4] (λi U=>match i with|1|4=>aV J J U|_=>True) (.cons a3 (.cons a3 .nil)) ?_;refine jV 0 ?_;refine BS 1 ?_;refine jV 2 ?_;refine jV 3 ?_;refine BS 4 ?_;refine tG 5 [1] λK hK=>?_;go_simp;go_wp2_with(go_at_call 143;refine(CC.out _ a3).mono ?_;rintro e w4⟨⟨v4,rfl,cP⟩,ah⟩;obtain⟨va,vc,rfl,_⟩:=eL cP;have fm:=eC (cP.mono (kU _));have dx:aV J J w4:=fC a3 ah;clear cP ah);refine hK _ _ (.cons dx .nil) ?_;clear hK K;obtain⟨O,aq,aa,-⟩:=lB w4 (aK #[aA va m.d.path.length vc,m.d.op,m.d.n,m.v,m.test,m.out.1,m.out.2,m.dig] 42);have b1:Hid (eG O w4 0 [aA va m.d.path.length vc,m.d.op,m.d.n,m.v,m.test,m.out.1,m.out.2,m.dig]):=eC (by rw[<-aq];exact eG.new _ _ _);have b4:Hid (kM.R O m [aA va m.d.path.length vc,m.d.op,m.d.n,m.v,m.test,m.out.1,m.out.2,m.dig]):=eC ⟨_,rfl,fm.out.later aa⟩;have cp:aV J J O:=fC dx aa;have be:=eC (bt.out.later cp);replace aq:=eC aq;clear aa;refine tG 6 [1] λK hK=>?_;go_simp;rw[aq.out];refine hK _ _ (.cons cp .nil) ?_;clear hK K;refine tG 7 [] λK hK=>?_;refine iS (o:=⟨some 112,_,_,_,_,_⟩) MX rfl (.tmp 106) (.tmp 111) zR U0 (aA qa L.length qc) L zR be.out.muts w4 m [aA va m.d.path.length vc,m.d.op,m.d.n,m.v,m.test,m.out.1,m.out.2,m.dig] b4.out zR b1.out (by have:=e9.out;omega) be.out.chg.size (λh=>absurd (show(42:aX)=3 from h) zD) ?_;intro v' w6 ao bl au;obtain⟨fT,fW,ax,_⟩:=eL ao;obtain⟨n1,cw⟩:=eR ((L++[m]).length);rw[cw]at ax;subst ax;replace cw:=eC cw;have HP:=eC (be.out.push bl au (by have h1:=ac.out;have h2:=bb.out;omega) ao);have y5:=F7 HP.out.1;have x5:=tK HP.out.1;have eV:=eC (eY.out.chg ((eZ.of cp).trans HP.out.2.2) (by have h1:=ac.out;have h2:=bb.out;have h3:=bt.out.chg.size;omega) (by have h1:=ac.out;have h2:=bb.out;have h3:=bt.out.chg.size;omega));clear ao bl au;simp only[Act.put,UY];refine hK _ _ .nil ?_;clear hK K;refine EY 8 [] ?_;refine EY 9 [] ?_;refine QU ?_;show RQ .normal _ _;exact dp.out.1 _ _ eV.out ⟨_,HP.out.2.1⟩
     .exact⟨eW.out,[],qN,⟨eH.out,eD.nil _ _ _ _,eZ.refl _ _,by have:=ac.out;omega,by have:=ac.out;omega,by have:=ac.out;omega,by have:=ac.out;omega⟩,R.length+S.length,by rw[uS];exact HZ.out,zO⟩
     .rintro e dt⟨he,ap,L,mv,Z,am⟩;refine⟨he,.inl ⟨ap,λo=>?_⟩⟩;refine eU.out _ _ ?_;rw[am.done]at Z;obtain⟨ma,mc,rfl,_⟩:=eL Z.muts;have bV:=Z.put o ap.lp rfl;have ct:(dt.putObj Y.l o).heap[Y.D]?=some (aM (some [])):=(jY (by have:=ac.out;omega)).trans ap.df;obtain⟨W6,ar⟩:=eR (dt.putObj Y.l o);rw[ar]at bV ct|-;have bv:=bV.cm;have bO:=fC ay a7.out;have ax:=fC bO bv.bel;have eh:=(ax.block _ (by have:=bf.out;omega)).trans fd.out;have dE:=(ax.block _ (by have:=bf.out;omega)).trans ff.out;have CS:=eC (show qK 61 #[aA ma lm.length mc] W6 λe w'=>e=aO (aH #[qI (kL lm).a,qI (kL lm).k,qI (kL lm).t])/\aV W6 W6 w' from DL ma mc lm W6 (EJ bV.muts) (fA de.out zD));have b5:=F7 bv.box;have fS:w+1+1<cb:=by have h1:=bf.out;have h2:=bO.size;have h3:=cW.out;omega
      have fG:w+1+1+1<cb:=by have h1:=bf.out;have h2:=bO.size;have h3:=cW.out;omega
      have eI:=eC bv;have dr:=eC eh;have da:=eC dE;have c9:=eC ct;have fo:=eC ax;clear ar bV Z bv bO ax eh dE ct ap am he cg cf cc cd ca ce cu ch ae cR ec bm;dsimp only;go_wp2_with(go_at_call 61;refine CS.out.mono ?_;rintro e f⟨rfl,a0⟩;have ba:=eC (eI.out.later a0);have W:=eC ((a0.block _ (fB.1 dr.out).1).trans dr.out);have b3:=eC ((a0.block _ (fB.1 da.out).1).trans da.out);have eN:=eC ((a0.block _ (fB.1 c9.out).1).trans c9.out);obtain⟨y0,y1,y2,y3,y4,y5,y6,y7,y8⟩:=pQ9 ba.out.box;have x6:=g8 f _ 6 _ _ ba.out.box;have x7:=g8 f _ 7 _ _ ba.out.box;have x8:=g8 f _ 8 _ _ ba.out.box;have z0:=nS W.out;have f0:=g8 f _ 0 _ _ W.out;have z1:=rI W.out;have f1:=g8 f _ 1 _ _ W.out;have z2:=uI W.out;have f2:=g8 f _ 2 _ _ W.out;have z3:=uG W.out;have f3:=g8 f _ 3 _ _ W.out;have z4:=E0 W.out;have f4:=g8 f _ 4 _ _ W.out;have z5:=F7 W.out;have f5:=g8 f _ 5 _ _ W.out;have z6:=L4 W.out;have f6:=g8 f _ 6 _ _ W.out;have z7:=LI W.out;have f7:=g8 f _ 7 _ _ W.out;have z8:=pE8 W.out;have f8:=g8 f _ 8 _ _ W.out;have ze:=nS b3.out;have fe:=tK b3.out;have fp:=mG fo a0;clear b5 a0);clear y0 y1 y2 y3 y4 y5 y6 y7 y8 x6 x7 x8 z0 z1 z2 z3 z4 z5 z6 z7 z8 f0 f1 f2 f3 f4 f5 f6 f7 f8 ze fe;have fy:=λfv hW=>aBT (W10:=fv) (D:=Y.D) ba.out W.out b3.out eN.out (fC br fp.out) fG (by have h1:=ac.out;have h2:=bb.out;omega) hW;obtain⟨hdd,av,fx,fw,au⟩:=fy _ rfl;change bodyPostM _ _ _ _ Q .ret _ _;refine⟨zS,.inl ⟨_,_,rfl,E6 hdd,?_⟩⟩;refine⟨_,WN rfl rfl av fx rfl rfl,?_⟩;rw[<-HQ.out];exact⟨⟨⟨a1,u,a2,c2,ra,rc,ma,mc⟩,rfl,fw⟩,au⟩
end
end Go.Proofs.YtgmjilingndloaaGreatDoor
