/- Part 15 of the proof of TopFuel. No conditions. -/
import Derived.Test.YtgmjilingndloaaGreatDoorZ14
open And renaming intro->bG
open Array renaming getElem?_eq_some_iff->bD
open Go renaming Value->aT,World->aS,cell_of_row->aU,frozen_of_row->bE
open Go.Ending renaming returned->aO
open Go.Instr renaming lookup->dS
open Go.IntKind renaming i64->aP
open Go.Lib renaming hid->eB
open Go.Obj renaming cells->aK,deferred->aM,loop->aN
open Go.RowKit renaming Below->aV,intOf->aW
open Go.RowKit.Below renaming refl->cF
open Go.Value renaming agg->aH,bool->aG,func->aD,int->aC,pointer->aE,slice->aA,string->aB,tuple->aF
open List renaming length_filter_le->cU,mem_map->cG,not_mem_nil->cC
open Nat renaming le_of_lt->cY,le_refl->bF
namespace Go.Proofs.YtgmjilingndloaaGreatDoor
set_option linter.unusedVariables false
set_option linter.unusedSimpArgs false
set_option maxRecDepth 100000
set_option maxHeartbeats 20000000
open Go Go.RowKit Go.Proofs.Tryz
variable{d:List Mt}{B i:Nat}{l L:List Nd}{W w w' U:aS}{a:Option Addr}{x:Nd}{p:Pg}{n:Int}{M:List (Int×aT)}
theorem fD.cell{d:aS}(g:fD B W d){a:Addr}{v:aT}(h:W.cell? a=some v):d.cell? a=some v:=by obtain⟨o,e,f⟩:=wU h;exact(lA (w:=W) (a:=a) ((g.same _ _ e (.inr f)).trans e.symm)).trans h
theorem fD.ls{d:aS}(g:fD B W d){α:Type}{K:lL α}{L:List α}(h:eS K W a L):eS K d a L:=by
 obtain h|⟨b,off,rfl,hlt,h⟩:=h
 .exact .inl h
 .refine .inr ⟨b,off,rfl,gV hlt g.size,λi x hi=>?_⟩;obtain⟨vs,h1,h2⟩:=h i x hi;exact⟨vs,K.on h1 λk aa t z e _=>(g.same _ _ e (.inr rfl)).trans e.symm,λj v hj=>g.cell (h2 j v hj)⟩
theorem fD.nodes{d:aS}(g:fD B W d)(h:eP W a L):eP d a L:=by
 obtain h|⟨b,off,rfl,hlt,h⟩:=h
 .exact .inl h
 .exact .inr ⟨b,off,rfl,gV hlt g.size,λi x e=>⟨g.cell (h i x e).1,g.cell (h i x e).2⟩⟩
theorem fD.pg{d:aS}(g:fD B W d){i e:Option Addr}{j f:Nat}(h:iE W i e j f p):iE d i e j f p:=⟨g.ls h.1,g.nodes h.2.1,h.2.2⟩
theorem fD.intsAt{d:aS}(g:fD B W d){l:List Int}(h:oB W a l):oB d a l:=by
 obtain h|⟨b,off,rfl,hlt,h⟩:=h
 .exact .inl h
 .exact .inr ⟨b,off,rfl,gV hlt g.size,λj x e=>g.cell (h j x e)⟩
theorem fD.rows{d:aS}(g:fD B W d){L:List (List Int)}(h:gG W a L):gG d a L:=by
 obtain h|⟨b,off,rfl,hlt,h⟩:=h
 .exact .inl h
 .refine .inr ⟨b,off,rfl,gV hlt g.size,λi l j=>?_⟩;obtain⟨k,c,e,f⟩:=h i l j;exact⟨k,c,g.cell e,g.intsAt f⟩
theorem AI{m:Nat}(d:eZ (λq=>q=m) w w')(hm:kK w m M):fD 0 w w':=
 ⟨d.os,d.tape,d.output,d.size,λk o f i=>(d.block k (fB.1 f).1 (λe=>by
  subst e
  obtain⟨es,c,g,_⟩:=hm
  rw[g]at f
  cases f
  obtain h|h:=i
  .omega
  .cases h)).trans f⟩
theorem aDS(M:List (Int×aT))(k:Int)(v:aT)(j:Int):GT (M++[(k,v)]) j=match GT M j with|some u=>some u|none=>if j=k then some v else none:=by
 induction M with
 |nil=>simp[GT]
 |cons p M ih=>
  simp only[rO,GT];by_cases h:j=p.1
  .rw[eI h,eI h]
  .rw[eE h,eE h];exact ih
def oZ:Pg:=⟨1,[0],al0⟩
def oJ:List (List Int):=[[0],[5]]
structure UN where
 cb:Nat
 m:Nat
 va:Option Addr
 ba:Option Addr
 ta:Option Addr
 vc:Nat
 bc:Nat
 tc:Nat
def P4(M:List (Int×aT)):Prop:=∀(i:Nat)v,GT M (i:Int)=some v->∃x,oJ[i]?=some [x]/\v=aH #[aC aP 0,aC aP x]
structure EZ(C:UN)(w:aS):Prop where
 box:aHQ w C.cb C.m C.va C.ba C.ta C.vc C.bc 2 C.tc oZ 9
 pg:iE w C.va C.ba C.vc C.bc oZ
 rows:gG w C.ta oJ
 known:∃M,kK w C.m M/\P4 M
theorem EZ.later{C:UN}{w w':aS}(h:EZ C w)(d:Bl w w'):EZ C w':=by obtain⟨M,e,f⟩:=h.known;exact⟨(d.block _ (fB.1 h.box).1).trans h.box,h.pg.later d,h.rows.later d,M,e.on (d.block _ e.lt),f⟩
theorem EZ.step{C:UN}(h:EZ C w)(e:eZ (λq=>q=C.m) w w')(hm:kK w' C.m M)(f:P4 M):EZ C w':=by obtain⟨i,d,j⟩:=h.known;have g:=AI e d;exact⟨g.same _ _ h.box (.inr rfl),g.pg h.pg,g.rows h.rows,M,hm,f⟩
theorem EZ.grows{C:UN}(h:EZ C w)(e:eZ (λq=>q=C.m) w w'):fD 0 w w':=by obtain⟨f,d,g⟩:=h.known;exact AI e d
def aEo(C:UN)(x:Int)(w:aS)(e:Ending)(w':aS):Prop:=e=aO (aH #[aC aP 0,aC aP x])/\EZ C w'/\eZ (λq=>q=C.m) w w'
theorem aFw(C:UN)(i:Nat)(x:Int)(w:aS)(hC:EZ C w)(Y:oJ[i]?=some [x]):
  Calls prog 221 #[aE (some ⟨C.cb,0,none⟩),aC aP i] w (aEo C x w):=by
 obtain⟨M,hm,hk⟩:=hC.known;obtain⟨V,hV⟩:∃V,w.alloc (aK #[aC aP 0,aC aP 0] 40)=V:=⟨_,rfl⟩;have R:aV w w V:=by rw[<-hV];exact(cF _ w).alloc (bF _) _
 have az:V.heap.size=(w:Nat)+1:=by rw[<-hV];exact World.size_alloc _ _
 have ak:V.heap[(w:Nat)]?=some (aK #[aC aP 0,aC aP 0] 40 (0,0)):=by rw[<-hV];exact heap_alloc_new w _
 have al:V.heap[C.cb]?=_:=(R.block _ (bD.1 hC.box).1).trans hC.box;have y5:V.cell? ⟨C.cb,5,none⟩=some (.map (some C.m)):=aU V _ 5 _ _ _ al;have ai:=hm.on (R.block _ hm.lt);have bk:=eB R;have bg:=eB ak;have af:=eB az;have bm:=eB al;have HC:=eB hC;have HM:=eB hm;have HK:=eB hk;have HI:=eB Y;obtain⟨Q,hQ⟩:∃Q,aEo C x w=Q:=⟨_,rfl⟩;rw[hQ];have HQ:=eB hQ;cases hl:GT M i with
 |some v=>
  obtain⟨x',ay,rfl⟩:=hk i v hl;rw[Y]at ay;obtain rfl:x=x':=by simpa using ay
  have a5:(dS 259 (.map (some C.m)) (aC aP (i:Int)) true).run prog V=.ok (aF #[aH #[aC aP 0,aC aP x],aG true]) V:=oN (P:=prog) V underlying259 underlying3 ai i hl true;obtain⟨W,hW⟩:∃W,V.alloc (aK #[aC aP 0,aC aP x] 40)=W:=⟨_,rfl⟩;have X:aV V.heap.size V W:=by rw[<-hW];exact(cF _ V).alloc (bF _) _
  have y:W.heap[V.heap.size]?=some (aK #[aC aP 0,aC aP x] 40 (0,0)):=by rw[<-hW];exact heap_alloc_new V _
  have z0:W.cell? ⟨V.heap.size,0,none⟩=some (aC aP 0):=aU W _ 0 _ _ _ y;have z1:W.cell? ⟨V.heap.size,1,none⟩=some (aC aP x):=aU W _ 1 _ _ _ y;have Z:=(X.block _ (by omega)).trans ak;have t0:W.cell? ⟨w,0,none⟩=some (aC aP 0):=aU W _ 0 _ _ _ Z;have t1:W.cell? ⟨w,1,none⟩=some (aC aP 0):=aU W _ 1 _ _ _ Z;have s0:=bE W _ 0 _ _ Z;have s1:=bE W _ 1 _ _ Z;have am:=eB (heap_setCell_same _ _ 1 _ _ (aC aP x) (heap_setCell_same _ _ 0 _ _ (aC aP 0) Z));have HB:=eB (((R.trans (X.mono (by omega))).setCell (p:=⟨w,0,none⟩) (bF _) (aC aP 0)).setCell (p:=⟨w,1,none⟩) (bF _) (aC aP x));have HW:=eB hW;clear R az ak al hm hk hC Y hl hQ ai X y Z hW ay;go_enter func221,ntmps221;go_wp2_with(first|(rw[hV])|(rw[HW.out]));rw[<-HQ.out];exact bodyPost_ret (results_cell_row rfl _ _ (w:Nat) 40 _ (0,0) _ rfl am.out underlying40 rfl (by kernel_rfl)) rfl ⟨rfl,HC.out.later HB.out,eZ.of HB.out⟩
 |none=>
  have a5:(dS 259 (.map (some C.m)) (aC aP (i:Int)) true).run prog V=.ok (aF #[aH #[aC aP 0,aC aP 0],aG false]) V:=rQ (P:=prog) V underlying259 underlying3 (z:=aH #[aC aP 0,aC aP 0]) (λW=>by kernel_rfl) ai i hl true;obtain⟨W,hW⟩:∃W,V.alloc (aK #[aC aP 0,aC aP 0] 40)=W:=⟨_,rfl⟩;have X:aV V.heap.size V W:=by rw[<-hW];exact(cF _ V).alloc (bF _) _
  have be:W.heap.size=V.heap.size+1:=by rw[<-hW];exact World.size_alloc _ _
  have y:W.heap[V.heap.size]?=some (aK #[aC aP 0,aC aP 0] 40 (0,0)):=by rw[<-hW];exact heap_alloc_new V _
  have N:aV w w W:=R.trans (X.mono (by omega));have ab:W.heap[C.cb]?=_:=(N.block _ (bD.1 hC.box).1).trans hC.box;obtain⟨rb,ro,pa,pc,bb,ax,a8⟩:=hC.rows.at Y;have q0:W.cell? ⟨C.cb,0,none⟩=some (aC aP 1):=aU W _ 0 _ _ _ ab;have q1:W.cell? ⟨C.cb,1,none⟩=some (aA C.va 1 C.vc):=aU W _ 1 _ _ _ ab;have q2:W.cell? ⟨C.cb,2,none⟩=some (aA C.ba 3 C.bc):=aU W _ 2 _ _ _ ab;have q3:W.cell? ⟨C.cb,3,none⟩=some (aA (some ⟨rb,ro,none⟩) 2 C.tc):=by rw[<-bb];exact aU W _ 3 _ _ _ ab
  have q4:W.cell? ⟨C.cb,4,none⟩=some (aC aP 9):=aU W _ 4 _ _ _ ab;have ba:rb<(w:Nat):=by obtain⟨o,h,_⟩:=wU ax;exact(bD.1 h).1
  have q6:W.cell? ⟨rb,ro+i,none⟩=some (aA pa 1 pc):=(N.cell (p:=⟨rb,ro+i,none⟩) ba).trans ax;have bj:i<2:=(List.getElem?_eq_some_iff.1 Y).1;have g1:(0:Int)<=(i:Int):=zO;have g2:(i:Int)<(2:Int):=zO;obtain⟨J,ac⟩:∃J,W.drew=J:=⟨_,rfl⟩;have ae:aV w w J:=by rw[<-ac];exact⟨N.os,N.tape,N.output,N.size,N.block⟩
  have CO:Hid (Calls prog 222 #[aH #[aC aP 1,aA C.va 1 C.vc,aA C.ba 3 C.bc],aA pa 1 pc,aC aP 9] J λe w'=>e=aO (aH #[aC aP 0,aC aP x])/\aV J.heap.size J w'):=eB (Z8 (aKr x) C.va C.ba pa C.vc C.bc pc J (hC.pg.later ae) (uD (a8.later ae)));have bl:=eB (show J.heap[C.cb]?=_ from(ae.block _ (bD.1 hC.box).1).trans hC.box);have a1:=eB (show J.heap[V.heap.size]?=some (aK #[aC aP 0,aC aP 0] 40 (0,0))by rw[<-ac];exact y);have bi:=eB (show J.heap.size=V.heap.size+1 by rw[<-ac];exact be);have a0:=eB ae;have HW:=eB hW;have a2:=eB ac;have HL:=eB hl;clear R az ak al hm hk hC Y hl hQ ai X y hW N ab ax a8 ba bj ae ac be bb;go_enter func221,ntmps221;go_wp2_with(rw[hV]);rw[HW.out];go_still_tail 15,(by kernel_rfl);change wpList _ _ _ _ _ W.drew;rw[a2.out];clear y5 a5 q0 q1 q2 q3 q4 q6;go_wp2_with(go_at_call 222;refine CO.out.mono ?_;rintro e S⟨rfl,ao⟩;have f:=(ao.block _ (bD.1 a1.out).1).trans a1.out;have t0:=aU S _ 0 _ _ _ f;have t1:=aU S _ 1 _ _ _ f;have s0:=bE S _ 0 _ _ f;have s1:=bE S _ 1 _ _ f;have aL:=eB ao;have bf:=eB f;clear ao f);obtain⟨D,ag⟩:∃D,(S.setCell ⟨V.heap.size,0,none⟩ (aC aP 0)).setCell ⟨V.heap.size,1,none⟩ (aC aP x)=D:=⟨_,rfl⟩;have aj:D.heap[V.heap.size]?=some (aK #[aC aP 0,aC aP x] 40 (0,0)):=by rw[<-ag];exact heap_setCell_same _ _ 1 _ _ (aC aP x) (heap_setCell_same _ _ 0 _ _ (aC aP 0) bf.out)
  have ap:aV V.heap.size S D:=by rw[<-ag];exact((cF V.heap.size S).setCell (p:=⟨V.heap.size,0,none⟩) (bF _) _).setCell (p:=⟨V.heap.size,1,none⟩) (bF _) _
  have ah:aV w w D:=(a0.out.trans (aL.out.mono a0.out.size)).trans (ap.mono (by have:=af.out;omega));have bd:=(ah.block _ (bD.1 HC.out.box).1).trans HC.out.box;have bc:D.heap[(w:Nat)]?=some (aK #[aC aP 0,aC aP 0] 40 (0,0)):=by refine(ap.block _ (by have:=af.out;omega)).trans ((aL.out.block _ (by have:=af.out;have:=bi.out;omega)).trans ?_);rw[<-a2.out];refine Eq.trans ?_ bg.out;show W.heap[(w:Nat)]?=_;rw[<-HW.out];exact heap_alloc_old V _ (by have:=af.out;omega)
  have a6:=HM.out.on (ah.block _ HM.out.lt);obtain⟨W4,U⟩:∃W4,D.drew=W4:=⟨_,rfl⟩;have au:kK W4 C.m M:=by rw[<-U];exact a6
  obtain⟨B,hu,av,aq⟩:=pO (P:=prog) (T:=259) W4 underlying259 underlying3 au (i:Int) (aH #[aC aP 0,aC aP x]) HL.out;have g5:=AI aq au;have aw:B.heap[V.heap.size]?=_:=g5.same _ _ (by rw[<-U];exact aj) (.inr rfl);have aa:B.heap[(w:Nat)]?=_:=g5.same _ _ (by rw[<-U];exact bc) (.inr rfl);have p3:D.cell? ⟨C.cb,5,none⟩=some (.map (some C.m)):=aU D _ 5 _ _ _ bd;have r0:D.cell? ⟨V.heap.size,0,none⟩=some (aC aP 0):=aU D _ 0 _ _ _ aj;have r1:D.cell? ⟨V.heap.size,1,none⟩=some (aC aP x):=aU D _ 1 _ _ _ aj;have k0:B.cell? ⟨V.heap.size,0,none⟩=some (aC aP 0):=aU B _ 0 _ _ _ aw;have k1:B.cell? ⟨V.heap.size,1,none⟩=some (aC aP x):=aU B _ 1 _ _ _ aw;have j0:B.cell? ⟨w,0,none⟩=some (aC aP 0):=aU B _ 0 _ _ _ aa;have j1:B.cell? ⟨w,1,none⟩=some (aC aP 0):=aU B _ 1 _ _ _ aa;have f0:=bE B _ 0 _ _ aa;have f1:=bE B _ 1 _ _ aa;have am:=eB (heap_setCell_same _ _ 1 _ _ (aC aP x) (heap_setCell_same _ _ 0 _ _ (aC aP 0) aa));have a3:eZ (λq=>q=C.m) w W4:=by rw[<-U];exact(eZ.of ah).drew
  have ar:=((a3.trans aq).set (b:=(w:Nat)) (o:=0) (s:=none) (.inr (bF _)) (aC aP 0)).set (b:=(w:Nat)) (o:=1) (s:=none) (.inr (bF _)) (aC aP x);have a7:kK ((B.setCell ⟨w,0,none⟩ (aC aP 0)).setCell ⟨w,1,none⟩ (aC aP x)) C.m (M++[((i:Int),aH #[aC aP 0,aC aP x])]):=av.on ((((eZ.refl (λq=>q=(w:Nat)) B).set (.inl rfl) _).set (.inl rfl) _).block _ av.lt (by have:=HM.out.lt;omega));have a4:P4 (M++[((i:Int),aH #[aC aP 0,aC aP x])]):=by
   intro j v O;rw[aDS]at O;cases h:GT M (j:Int)with
   |some u=>
      rw[h]at O;obtain rfl:u=v:=by simpa using O
      exact HK.out j u h
   |none=>
    rw[h]at O;simp only at O;split at O
    .rename_i bn;obtain rfl:j=i:=zO;cases O;exact⟨x,HI.out,rfl⟩
    .cases O
  have HF:=eB (show aEo C x w (aO (aH #[aC aP 0,aC aP x])) ((B.setCell ⟨w,0,none⟩ (aC aP 0)).setCell ⟨w,1,none⟩ (aC aP x))from⟨rfl,HC.out.step ar a7 a4,ar⟩);rw[HQ.out]at HF;have bh:=eB U;rw[ag];clear t0 t1 s0 s1 ag aj ap ah bd bc a6 au av aq g5 aw aa a3 ar a7 a4 U;go_still_tail 6,(by kernel_rfl);change wpList _ _ _ _ _ D.drew;rw[bh.out];go_wp2_with(refine pC rfl (.tmp 37) (.tmp 38) (.tmp 39) _ (by rfl) _ _ _ (by rfl) (by rfl) (by rfl) hu ?_;clear hu);exact bodyPost_ret (results_cell_row rfl _ _ (w:Nat) 40 _ (0,0) _ rfl am.out underlying40 rfl (by kernel_rfl)) rfl HF.out
section
attribute [local go_sem] Oper.semAt_some
structure AJ(bd:List Nd)(j:Nat):Prop where
 lt:j<2
 bl:bd.length<=100000
 no:∀(i:Nat)x,i<j->oJ[i]?=some [x]->∃st k v,wV bd x st k v/\lE (0,x) (k,v)=0
 yes:∀x,oJ[j]?=some [x]->∃st k v,wV bd x st k v/\lE (0,x) (k,v)=1
theorem aIq(h:i<2):∃x,oJ[i]?=some [x]:=by
 rcases(by omega:i=0\/i=1)with rfl|rfl
 .exact⟨0,rfl⟩
 .exact⟨5,rfl⟩
theorem aA2(C:UN)(b1 J lp j:Nat)(u O:Option Addr)(y S:Nat)(M:List Nd)(W:aS)(R:aS->Prop)
  (X:Boxed W b1 169 (aE (some ⟨C.cb,0,none⟩)))
  (Y:W.heap[J]?=some (aK #[qI 1,aA u 1 y,aA O M.length S] 25 (0,0)))
  (hq:iE W u O y S ⟨1,[0],M⟩)(hC:EZ C W)(hj:AJ M j)
  (hY:∀U,EZ C U->eZ (λq=>q=C.m) W U->YieldAt Fence.wide 0 prog lp #[qI j,qI 1] U λe W'=>e=aO (aG false)/\R W'):
  CallsIn Fence.wide 1 prog 220 (#[aD (.yield lp) #[] #[]]++#[aE (some ⟨b1,0,none⟩),aE (some ⟨J,0,none⟩)]) W λe W'=>(∃v,e=aO v)/\R W':=by
 have HS:=eC (λU(h:eZ (λq=>q=C.m) W U)=>show(U.cell? ⟨b1,0,none⟩=some (aE (some ⟨C.cb,0,none⟩))/\U.cell? ⟨J,0,none⟩=some (qI 1)/\U.cell? ⟨J,1,none⟩=some (aA u 1 y)/\U.cell? ⟨J,2,none⟩=some (aA O M.length S)/\U.cell? ⟨C.cb,4,none⟩=some (qI 9))by
  have g:=hC.grows h
  have e2:=g.same _ _ Y (.inr rfl)
  exact⟨g.cell X.cell,nS e2,rI e2,uI e2,g.cell (E0 hC.box)⟩);have HO:=eC (λU(h:eZ (λq=>q=C.m) W U)=>show∀(i:Nat)x st k v(N:Option Addr)(f:Nat),wV M x st k v->oB U N [x]->qK 222 #[aH #[qI 1,aA u 1 y,aA O M.length S],aA N 1 f,qI 9] U (Rt (aH #[qI k,qI v]) U)from λi x st k v N f hw ha=>Z8 hw u O N y S f U ((hC.grows h).pg hq) (uD ha));have HY:=eC hY;have HJ:=eC hj;obtain⟨c1,c2,c3,c4,c5⟩:=HS W (eZ.refl _ _);have c6:=uG hC.box;have HC:=eC hC;have a5:=hj.lt;clear X Y hq hC hj hY;refine hH.2 ((hH (n:=2)).1 ?_);refine xI func220 rfl trivial ?_ rfl;simp only[ntmps220,pN,Nat.reduceAdd,Nat.reduceSub];gi_wp2;clear c1 c2 c3 c4 c5 c6;gi_loopw [12] (λi wr=>∃k:Nat,k<=j/\i=qI k/\Hid (EZ C wr)/\Hid (eZ (λq=>q=C.m) W wr)) (λi _=>3-(aW i).toNat)
 case atStart=>exact⟨0,kU _,rfl,HC,eC (eZ.refl _ _)⟩
 case round=>
  obtain⟨k,hk,rfl,aj,HG⟩:=hrel;obtain⟨x,Z⟩:=aIq (show k<2 by omega);obtain⟨rb,ro,N,f,ar,ag,aq⟩:=aj.out.rows.at Z;have ag:wr.cell? ⟨rb,ro+k,none⟩=some (aA N 1 f):=ag;have g1:(0:Int)<=(k:Int):=zO;have g2:(k:Int)<(2:Int):=zO;have a6:aP.wrap ((k:Int)+1)=(k:Int)+1:=by rw[iA];omega
  obtain⟨st,B,D,hw,hv⟩:∃st B D,wV M x st B D/\lE (0,x) (B,D)=if k=j then 1 else 0:=by
   by_cases h:k=j
   .subst h;obtain⟨st,B,D,X,Y⟩:=HJ.yes x Z;exact⟨st,B,D,X,by rw[eI rfl];exact Y⟩
   .obtain⟨st,B,D,X,Y⟩:=HJ.no k x (by omega) Z;exact⟨st,B,D,X,by rw[eE h];exact Y⟩
  obtain⟨tv,ah⟩:=eR (lE (0,x) (B,D));rw[ah]at hv;have az:=eC ah;have aL:=eC hv;clear ah hv;obtain⟨c1,c2,c3,c4,c5⟩:=HS wr HG.out;obtain⟨V,hV⟩:=eR wr.drew;have af:EZ C V:=by rw[<-hV];exact aj.out.later (jX _)
  have ao:eZ (λq=>q=C.m) W V:=by rw[<-hV];exact HG.out.drew
  have CB:=eC (aFw C k x V af Z);have ax:=eC (show oB V N [x]by rw[<-hV];exact aq);have aw:=eC af;have am:=eC ao;have HW:=eC hw;have HV:=eC hV;have HX:=eC Z;clear aq Z af ao hw hV;rw[ar];clear ar;gi_wp2;refine Code.wpIn_mono (Q:=Exit.then _ (λ_ _ _=>False)) (λe a w h=>by cases e<;>first|exact h|exact h.elim) ?_;refine wpIn_wide.2 ?_;go_region_held3(λU=>U.cell? ⟨b1,0,none⟩=some (aE (some ⟨C.cb,0,none⟩))/\U.cell? ⟨J,0,none⟩=some (qI 1)/\U.cell? ⟨J,1,none⟩=some (aA u 1 y)/\U.cell? ⟨J,2,none⟩=some (aA O M.length S)/\U.cell? ⟨C.cb,4,none⟩=some (qI 9)) (first|(with_reducible assumption)|exact⟨c1,c2,c3,c4,c5⟩) (first
   |(go_at_call 156;refine(MT _ _ _ _ w2).mono ?_;rintro e w3⟨rfl,ab⟩;rw[az];have a2:=HS w3 (ak.then ab);have ai:=eC (av.later ab);have al:=eC (ak.then ab);clear ab)
   |(go_at_call 222;refine(HO w1 ae k x st B D N f HW ay).mono ?_;rintro e w2⟨rfl,aa⟩;have a1:=HS w2 (ae.then aa);have av:=eC (au.later aa);have ak:=eC (ae.then aa);clear aa)
   |(go_at_call 221;rw[HV];refine CB.mono ?_;rintro e w1⟨rfl,ap,ac⟩;have a0:=HS w1 (am.trans ac);have ay:=eC ((aw.grows ac).intsAt ax);have au:=eC ap;have ae:=eC (am.trans ac);clear ap ac));rw[aL];clear a0 a1 a2 c1 c2 c3 c4 c5 ag;by_cases hkj:k=j
  .subst hkj;rw[eI rfl];obtain⟨fn,a8,a3,a4,a7,hR⟩:=HY w3 ai al;gi_wp2;refine(jN hR).mono ?_;rintro e W2⟨rfl,hr⟩;gi_wp2;exact⟨_,iU rfl _ _ _,⟨_,rfl⟩,hr⟩
  .rw[eE hkj];gi_wp2;refine⟨λ_ _=>trivial,?_⟩;gi_wp2;trace_state;exact⟨⟨k+1,by omega,by go_num,ai,al⟩,by simp[aW];omega⟩
theorem aDG(J:Nat)(M B:Option Addr)(N D n:Nat)(w:aS):
  qK 168 #[qP J 0,aH #[qI 1,aA M 1 N,aA B n D]] w λe w'=>e=aO (aD (.func 220) #[] #[qP w 0,qP ((w:Nat)+1) 0])/\w'=(w.alloc (aK #[qP J 0] 169)).alloc (aK #[qI 1,aA M 1 N,aA B n D] 25):=by go_enter func168,ntmps168;go_wp2;go_ret;exact⟨rfl,rfl⟩
end
section
attribute [local go_sem] Oper.semAt_some
def VF(C:UN)(f:Option Addr)(g:Nat)(d:Dl)(j:Nat)(k v:Int)(st:Nat)(w:aS)(e:Ending)(w':aS):Prop:=e=aO (E1 f g ⟨d,1,j,(k,v),iC ⟨(k,v),st,[]⟩⟩)/\EZ C w'/\eZ (λq=>q=C.m) w w'
theorem EZ.go{C:UN}(h:EZ C w)(g:fD B w w')(hm:w'.heap[C.m]?=w.heap[C.m]?):EZ C w':=by obtain⟨M,d,e⟩:=h.known;exact⟨g.same _ _ h.box (.inr rfl),g.pg h.pg,g.rows h.rows,M,d.on hm,e⟩
theorem fD.then{e:Nat}{V:aS}(h:fD B U V)(k:fD e V W):fD 0 U W:=
 ⟨k.os.trans h.os,k.tape.trans h.tape,k.output.trans h.output,fA h.size k.size,λi o f d=>by
  obtain d|d:=d
  .omega
  .exact k.same _ _ (h.same _ _ f (.inr d)) (.inr d)⟩
theorem eZ.far{M N:Nat->Prop}{A B C:aS}(h:eZ M A B)(k:eZ N B C)(f:∀q,N q->(A:Nat)<=q):eZ M A C:=
 ⟨k.os.trans h.os,k.tape.trans h.tape,k.output.trans h.output,fA h.size k.size,λi d g=>(k.block i (gV d h.size) (λe=>by have:=f i e;omega)).trans (h.block i d g)⟩
structure pD(C:UN)(w V:aS)(fm:Nat)(M:List (Int×aT))(W:aS):Prop where
 crt:EZ C W
 map:kK W fm M
 grows:fD 0 V W
 chg:eZ (λq=>q=C.m) w W
theorem pD.put{C:UN}{w V W:aS}{e l:Nat}{M:List (Int×aT)}{o:Obj}(h:pD C w V e M W)(f:Obj)(q:W.heap[l]?=some o)(m:o.isCells=false)(j:l≠C.m)(k:l≠e)(s:w<=l):pD C w V e M (W.putObj l f):=by
 have g:=fD.put (B:=0) f (kU _) q m;have d:=grownBy_putObj' W l f;exact⟨h.crt.go g (jY (Ne.symm j)),h.map.on (jY (Ne.symm k)),h.grows.then g,
  ⟨d.os.trans h.chg.os,d.tape.trans h.chg.tape,d.output.trans h.chg.output,fA h.chg.size d.size,λi n r=>(jY zO).trans (h.chg.block i n r)⟩⟩
theorem pD.later{C:UN}{w V W e:aS}{f:Nat}{M:List (Int×aT)}(h:pD C w V f M W)(d:Bl W e):pD C w V f M e:=
 ⟨h.crt.later d,h.map.on (d.block _ h.map.lt),h.grows.then (fD.of (B:=0) d),h.chg.then d⟩
theorem aAN{C:UN}{g d:aS}(j:Option Addr)(k:Nat)(e:Dl)(m:Mt)(D:Nat)(hC:EZ C w)(u:EZ C g)(x:eZ (λq=>q=C.m) w g)
  (s:qB g ((w:Nat)+1) #[qN,qI 0,qI 0,qI 0,qI 0,qI 0,qI 0,aB ⟨#[]⟩] 42)(hd:g.heap[D]?=some (aM (some [])))(L:w+1<D)
  (hW:(qS (qS (qS (qS (qS (qS (qS (qS g ((w:Nat)+1,0) (aA j e.path.length k)) ((w:Nat)+1,1) (qI e.op)) ((w:Nat)+1,2) (qI e.n)) ((w:Nat)+1,3) (qI m.v)) ((w:Nat)+1,4) (qI m.test)) ((w:Nat)+1,5) (qI m.out.1)) ((w:Nat)+1,6) (qI m.out.2)) ((w:Nat)+1,7) (aB m.dig))=d):
  d.heap[D]?=some (aM (some []))/\(d.putObj D (aM none)).heap[(w:Nat)+1]?=some (aK (wF j k e m) 42 (0,0))/\EZ C (d.putObj D (aM none))/\eZ (λq=>q=C.m) w (d.putObj D (aM none)):=by
 obtain⟨n,f⟩:=JX _ _ _ _ _ _ _ _ j k e m s x (.inr (sA _));obtain⟨_,e3⟩:=JX _ _ _ _ _ _ _ _ j k e m s (eZ.refl (λq=>q=(w:Nat)+1) g) (.inl rfl);rw[hW]at n f e3;obtain⟨M,hm,E⟩:=u.known;have N:C.m<w:=by obtain⟨K,F,_⟩:=hC.known;exact F.lt
 have A:=(fB.1 hd).1;have y:d.heap[D]?=some (aM (some [])):=(e3.block _ A zO).trans hd;have G:kK d C.m M:=hm.on (e3.block _ hm.lt zO);have h:=grownBy_putObj' d D (aM none);have r:eZ (λq=>q=C.m) w (d.putObj D (aM none)):=⟨h.os.trans f.os,h.tape.trans f.tape,h.output.trans f.output,fA f.size h.size,λi B J=>(jY zO).trans (f.block i B J)⟩;exact⟨y,(jY zO).trans n,hC.step r (G.on (jY zO)) E,r⟩
theorem aDN(C:UN)(y:Option Addr)(pc:Nat)(J:Dl)(j:Nat)(x:Int)(Y:List Nd)(st:Nat)(k v:Int)(w:aS)(hC:EZ C w)(hd:eS kI w y J.path)(d7:J.path.length<=1000000)
  (c2:(jA oZ J).1=⟨1,[0],Y⟩)(cB:Y≠[])(hj:AJ Y j)(hx:oJ[j]?=some [x])(hw:wV Y x st k v)(cr:aAh ⟨(k,v),st,[]⟩):
  qK 105 #[qP C.cb 0,aH #[aA y J.path.length pc,qI J.op,qI J.n]] w (VF C y pc J j k v st w):=by
 obtain⟨V,hV⟩:=eR ((w.alloc (aK #[aA y J.path.length pc,J.op,qI J.n] 38)).alloc (aK #[qN,qI 0,qI 0,qI 0,qI 0,qI 0,qI 0,aB ⟨#[]⟩] 42));obtain⟨r0,r1,aL,db⟩:=iY hV;have a6:=hC.later aL;have s0:∀U,aV V V U->qC U C.cb 0 (qI 1):=λU h=>(a6.later h).box|>kG U _ 0 _ _ _;have s1:∀U,aV V V U->qC U C.cb 1 (aA C.va 1 C.vc):=λU h=>(a6.later h).box|>kG U _ 1 _ _ _;have s2:∀U,aV V V U->qC U C.cb 2 (aA C.ba 3 C.bc):=λU h=>(a6.later h).box|>kG U _ 2 _ _ _;have u0:=rU (nS r0);have u1:=rU (rI r0);have u2:=rU (uI r0);have ag:=jX V;have CM:=eC (λU(hU:aV V V U)=>show qK 154 #[aH #[qI 1,aA C.va 1 C.vc,aA C.ba 3 C.bc],aH #[aA y J.path.length pc,J.op,qI J.n]] U (λe w'=>(∃O S R X er,e=aO (aF #[aH #[qI 1,aA O 1 S,aA R Y.length X],qI er])/\iE w' O R S X ⟨1,[0],Y⟩/\(∀ad,O=some ad->U.heap.size<=ad.block)/\∀ad,R=some ad->U.heap.size<=ad.block)/\aV U U w')by
  refine(JO C.va C.ba y C.vc C.bc pc oZ J U ((hC.pg.later aL).later hU) ((hd.later aL).later hU) zD zD d7).mono ?_
  rintro e w3⟨⟨O,S,R,X,rfl,h2,h3,h4⟩,hb⟩
  rw[c2]at h2 h3 h4|-
  exact⟨⟨O,S,R,X,_,rfl,h2,λad e=>h3 ad e zS,λad e=>h4 ad e cB⟩,hb⟩);have HC:=eC hC;have HD:=eC hd;have HJ:=eC hj;have HX:=eC hx;have HW:=eC hw;have df:=eC cr;have dt:=eC r0;have du:=eC r1;have cf:=eC aL;have cp:=eC db;obtain⟨Q,hQ⟩:=eR (VF C y pc J j k v st w);rw[hQ];have HQ:=eC hQ;clear hC hd hj hx hw cr r0 r1 aL db a6 hQ c2 cB;refine(hH (n:=2)).1 ?_;refine xI func105 rfl trivial ?_ rfl;simp only[ntmps105,pN,Nat.reduceAdd,Nat.reduceSub];refine wpIn_wide.2 ?_;go_wp2_with(rw[hV]);refine wp_scope_straight ?_;go_wp2;go_cut [5]from 18 to 26 (λs5 wx=>∃(tq:Nat)(O:Option Addr)(S:Nat)(R:Option Addr)(X:Nat),s5=qP tq 0/\Hid (aG7 V ⟨1,[0],Y⟩ tq O R S X wx))
 case first=>
  go_region_held3(λU=>aV V V U) (first|(with_reducible assumption)|exact am.alloc am.size _|exact ag.alloc (eX _) _|exact((am.setCell (eX _) _).setCell (eX _) _).setCell (eX _) _|go_grown) ((go_at_call 154;refine(CM.out _ (by first|(with_reducible assumption)|exact ag.alloc (eX _) _|go_grown)).mono ?_;rintro e w3⟨⟨O,S,R,X,er,rfl,aw,bf,be⟩,aj⟩;have am:aV V V w3:=(by first|exact ag.trans (aj.mono (eX _))|exact(ag.alloc (eX _) _).trans (aj.mono zS));(try(have ar:qB w3 V #[qI 0,qN,qN] 25:=(by exact(aj.block _ zS).trans (fG V _));obtain⟨y0,y1,y2⟩:=pX ar;have z0:=g8 w3 _ 0 _ _ ar;have z1:=g8 w3 _ 1 _ _ ar;have z2:=g8 w3 _ 2 _ _ ar;replace ar:=eC ar));replace aw:=eC aw;replace bf:=eC bf;replace be:=eC be;replace aj:=eC aj))
  all_goals
   first
    |(obtain⟨D,aa⟩:=eR (w3.alloc (aK #[qI 1,aA O 1 S,aA R Y.length X] 25))
      rw[aa]
      have ai:=aGW aa
      have af:aV V V D:=by rw[<-aa];exact am.alloc am.size _
      have b3:iE D O R S X ⟨1,[0],Y⟩:=by rw[<-aa];exact aw.out.later (fL w3 _)
      have b4:V<=(w3:Nat):=am.size
      clear aa
      generalize(w3:Nat)=tq at*)
    |(obtain⟨D,aa⟩:=eR (qS (qS (qS w3 (V,0) (qI 1)) (V,1) (aA O 1 S)) (V,2) (aA R Y.length X))
      rw[aa]
      have ai:D.heap[(V:Nat)]?=some (aK #[qI 1,aA O 1 S,aA R Y.length X] 25 (0,0)):=by rw[<-aa];exact iB _ _ 2 _ _ _ (iB _ _ 1 _ _ _ (iB _ _ 0 _ _ _ ar.out))
      have af:aV V V D:=by rw[<-aa];exact((am.setCell (eX _) _).setCell (eX _) _).setCell (eX _) _
      have b6:∀k,k≠(V:Nat)->D.heap[k]?=w3.heap[k]?:=λk hk=>by rw[<-aa,eF _ hk,eF _ hk,eF _ hk]
      have ee:D=(w3:Nat):=by rw[<-aa];simp
      have b3:iE D O R S X ⟨1,[0],Y⟩:=⟨lH aw.out.1 zO λad e c3 _=>b6 _ (by have:=bf.out ad e;simp at this;omega),aw.out.2.1.kept zO λad e _=>b6 _ (by have:=be.out ad e;simp at this;omega),aw.out.2.2⟩
      clear aa b6 ee
      obtain⟨tq,ca⟩:=eR (V:Nat)
      rw[ca]at ai|-
      have b4:V<=tq:=uU ca
      clear ca)
   have bk:=eC (show aG7 V ⟨1,[0],Y⟩ tq O R S X D from⟨b4,af,ai,b3,λad e c3=>by have:=bf.out ad e;simp at this;omega,λad e c3=>by have:=be.out ad e;simp at this;omega⟩);clear b4 af ai b3;go_wp2;go_meet;exact⟨_,_,_,_,_,rfl,bk⟩
 case rest=>
  obtain⟨tq,O,S,R,X,rfl,bc⟩:=hcut;generalize wc=D at*;have af:=bc.out.bel;have ai:qB D tq #[qI 1,aA O 1 S,aA R Y.length X] 25:=bc.out.box;have c1:∀U:aS,(Instr.makeMap 262 none).run prog U=.ok (.map (some U)) (U.alloc (.map #[] 0)):=λ_=>rfl;obtain⟨V1,bv,b1,-,z1⟩:=lB D (.map #[] 0);have m1:kK V1 D []:=by rw[<-bv];exact kK.new D
  obtain⟨V2,bw,b2,-,z2⟩:=lB V1 (aK #[.map (some D)] 262);have x2:Boxed V2 V1 262 (.map (some D)):=by rw[<-bw];exact oI V1 _ _
  obtain⟨V3,bx⟩:=eR ((V2.alloc (aK #[qP C.cb 0] 169)).alloc (aK #[qI 1,aA O 1 S,aA R Y.length X] 25));obtain⟨g0,g1,aj,a3⟩:=iY bx;have cL:aV w w V2:=cf.out.trans (((af.trans ((fC b1 b2).mono af.size))).mono cf.out.size);have b9:=(b2.block _ (by have:=(fB.1 ai).1;omega)).trans ((b1.block _ (fB.1 ai).1).trans ai);obtain⟨e0,e1,e2⟩:=pX b9;have m2:=m1.on (b2.block _ m1.lt);have bl:=eC m2;have dF:=eC x2;have cm:=eC b9;have di:=eC cL;have d0:=eC (show V1=(D:Nat)+1/\V2=(V1:Nat)+1/\w+2<=(D:Nat)from⟨z1,z2,by have:=af.size;have:=cp.out;omega⟩);have cj:=eC (show iE V2 O R S X ⟨1,[0],Y⟩from(bc.out.pg.later b1).later b2);have al:=eC aj;have d1:=eC a3;have dp:=eC g0;have dr:=eC g1;have ce:=eC af;have cd:Hid (aV D D V2):=eC (fC b1 b2);have dT:=eC (show V=(w:Nat)+1+1/\V<=(D:Nat)from⟨cp.out,af.size⟩);have dz:=eC bv;have dA:=eC bw;have dB:=eC bx;clear s0 s1 s2 u0 u1 u2 ag bc af ai b1 z1 m1 b2 z2 x2 m2 b9 cL g0 g1 aj a3 hV bv bw bx;go_wp2_with(first|(rw[dz.out])|(rw[dA.out]));go_step3;go_wp2_with(go_at_call 168;refine(aDG _ _ _ _ _ _ V2).mono ?_;rintro e w5⟨rfl,c9⟩;rw[dB.out]at c9);clear c9;have bb:aV w w V3:=fC di al.out;have ct:=HC.out.later bb;have b8:C.m<w:=by obtain⟨M,hm,_⟩:=HC.out.known;exact hm.lt
  have ej:=eC b8;refine wpIn_wide.1 (VV (n:=0) (gf:=220) (lb:=#[qP V2 0,qP ((V2:Nat)+1) 0]) rfl (l8 func220 zK rfl) ?_);intro B u br bq bo bp a4 a5 b0 bs ab cc;have da:=d0.out;have a3:=d1.out;have a0:aV w w u:=fC bb ab;have a7:EZ C u:=HC.out.later a0;have a2:kK u D []:=(bl.out.on (al.out.block _ bl.out.lt)).on (ab.block _ (by have:=bl.out.lt;omega));have bi:Boxed u V1 262 (.map (some D)):=(ab.block _ zO).trans ((al.out.block _ zO).trans dF.out);have ei:=eC a2;have dE:=eC bi;have eh:=eC a0;have eg:=eC ab;have ek:=eC cc;have HB:=eC (bG br (bG bq (bG bo (bG bp (bG a4 a5)))));have cs:B.l=V3+1:=a5;have bn:B.D=V3:=a4;refine(aA2 C V2 ((V2:Nat)+1) B.l j O R S X Y u (λW'=>iP B .done (some (.exit 0)) W'/\pD C w u D [(1,qI j)] W')
   ((ab.block _ zO).trans dp.out) ((ab.block _ zO).trans dr.out) (((cj.out.later al.out).later ab)) a7 HJ.out ?_).mono ?_
  .intro U cu ax;have cw:=bs.chg ax zO zO;have gU:=a7.grows ax;have cW:pD C w u D [] U:=⟨cu,a2.on (ax.block _ a2.lt zO),gU,(eZ.of a0).trans ax⟩;have ck:=eC cw;have dn:=eC cW;have ds:Hid (B.l≠C.m/\B.l≠D/\B.D≠D/\w<=B.l/\D≠C.m/\w<=(D:Nat)):=eC ⟨zO,zO,zO,zO,zO,zO⟩;have dm:=eC b0;clear cw gU cu ax bs a7 a0 a2 bi da a3 ab cc br bq bo bp a4 a5 cs bn c1 bb ct b8 b0 cW;refine O9 (n:=0) ?a1 ck.out dm.out (by rw[HB.out.2.1];rfl) ?has ?hbody
   case has=>rw[HB.out.1,HB.out.2.1,HB.out.2.2.1];intro K hK;gi_wp2;exact hK
   case hbody=>intro bt;rw[HB.out.2.2.2.1];obtain⟨m1,m2,m3,m4,m5,m6⟩:=ds.out;have ah:=dn.out.put (aN (B.lrec .busy none)) ck.out.lp rfl m1 m2 m4;obtain⟨Ub,cy⟩:=eR (U.putObj B.l (aN (B.lrec .busy none)));rw[cy]at bt ah|-;have cx:qC Ub V1 0 (.map (some D)):=ah.grows.cell dE.out.cell;have d6:(dS 262 (.map (some D)) (qI 1) true).run prog Ub=.ok (aF #[qI 0,false]) Ub:=rQ (P:=prog) Ub underlying262 underlying3 (z:=qI 0) (λW=>zK) ah.map 1 rfl true;obtain⟨Uc,hu,c0,aq⟩:=pO (P:=prog) (T:=262) Ub underlying262 underlying3 ah.map 1 (qI j) rfl;have gc:=AI aq ah.map;have ba:iP B .busy none Uc:=bt.chg aq m2 m3;have cX:pD C w u D [(1,qI j)] Uc:=⟨ah.crt.go gc (aq.block _ (by obtain⟨M,hm,_⟩:=ah.crt.known;exact hm.lt) (λe=>m5 e.symm)),c0,ah.grows.then gc,ah.chg.far aq (λq hq=>by rw[hq];exact m6)⟩;have HF:=eC (show iP B .busy none Uc/\(aO false=aO false/\iP B .done (some (.exit 0)) (Uc.putObj B.l (aN (B.lrec .done (some (.exit 0)))))/\pD C w u D [(1,qI j)] (Uc.putObj B.l (aN (B.lrec .done (some (.exit 0))))))from⟨ba,rfl,ba.put,cX.put _ ba.lp rfl m1 m2 m4⟩);obtain⟨RQ,bu⟩:=eR (sO B (λe W'=>e=aO false/\iP B .done (some (.exit 0)) W'/\pD C w u D [(1,qI j)] W'));have dx:Hid (∀a,RQ (.exit 0) a Uc):=eC (λa=>by rw[<-bu];exact HF.out);rw[bu];clear bu ah cy c0 aq gc ba cX bt m1 m2 m3 m4 m5 m6;gi_wp2_with(refine AU rfl (.tmp 41) (.tmp 42) (.tmp 43) _ zR _ _ _ zR zR zR hu ?_;clear hu);exact dx.out _
  .rintro e W5⟨he,a8,cS⟩;refine⟨he,.inr ⟨_,a8,λo=>?_⟩⟩;have cV:=cS.put o a8.lp rfl zO zO zO;have bV:(W5.putObj B.l o).heap[B.D]?=some (aM (some [])):=(jY zO).trans a8.df;generalize W5.putObj B.l o=W6 at*;have ed:=dT.out;have bL:aV V V u:=ce.out.trans ((cd.out.trans ((fC al ab).mono cd.out.size)).mono ce.out.size);have cP:qB u w #[aA y J.path.length pc,J.op,qI J.n] 38:=(bL.block _ zO).trans dt.out;have c7:qB u ((w:Nat)+1) #[qN,qI 0,qI 0,qI 0,qI 0,qI 0,qI 0,aB ⟨#[]⟩] 42:=(bL.block _ zO).trans du.out;have eb:=(fB.1 cm.out).1;have c4:qB u tq #[qI 1,aA O 1 S,aA R Y.length X] 25:=(ab.block _ zO).trans ((al.out.block _ zO).trans cm.out);obtain⟨f,cA,bz,c5,-⟩:=lB W6 (aK #[qI 1,qI 2] 3);have ae:=cV.later bz;have b7:B.D<W6:=(fB.1 bV).1;have cR:f.heap[B.D]?=some (aM (some [])):=(bz.block _ b7).trans bV;have n0:=nS c5;have cx:qC f V1 0 (.map (some D)):=ae.grows.cell bi.cell;have d6:(dS 262 (.map (some D)) (qI 1) true).run prog f=.ok (aF #[qI j,true]) f:=oN (P:=prog) f underlying262 underlying3 ae.map 1 rfl true;have cq:iE f O R S X ⟨1,[0],Y⟩:=ae.grows.pg ((cj.out.later al.out).later ab);have dc:=ae.grows.same _ _ cP (.inr rfl);have de:=ae.grows.same _ _ c7 (.inr rfl);have bj:=ae.grows.same _ _ c4 (.inr rfl);obtain⟨rb,ro,pl,cl,c8,bg,c6⟩:=ae.crt.rows.at HX.out;have bg:qC f rb (ro+j) (aA pl 1 cl):=bg;have s0:=rU (nS bj);have s1:=rU (rI bj);have s2:=rU (uI bj);have s3:∀U,aV f f U->qC U C.cb 3 (aA (some (rb,ro)) 2 C.tc):=λU h=>by rw[<-c8];exact kG U _ 3 _ _ _ (ae.crt.later h).box
   have s4:∀U,aV f f U->qC U C.cb 4 (qI 9):=λU h=>kG U _ 4 _ _ _ (ae.crt.later h).box;have s5:=rU bg;have CR:=eC (λU(hU:aV f f U)=>show qK 169 #[aH #[qI 1,aA O 1 S,aA R Y.length X],aA pl 1 cl,qI 9] U (NQ k v st U)from Y4 HW.out O R pl S X cl U (cq.later hU) ((uD c6).later hU));have em:(0:Int)<=(j:Int):=zO;have en:(j:Int)<(2:Int):=by have:=HJ.out.lt;omega
   have ag:=jX f;have ch:=eC ae;have cg:=eC cR;have cn:=eC dc;have bm:=eC de;have dC:=eC cA;have dh:=eC (bG bn (bG (show w+1<B.D from zO) b7));clear bL cP c7 c4 bz c5 ae cR cq dc de bj bg c6 c8 cV bV cS a8 he da a3 ed a2 bi a7 a0 ab cc bs br bq bo bp a4 a5 cs bn c1 bb ct b8 b0 cA eb b7;refine wpIn_wide.2 ?_;go_wp2_with(rw[dC.out]);go_loopw [48] (λi wr=>i=qI 0/\wr=f) (λ_ _=>0)
   case atStart=>exact⟨rfl,rfl⟩
   case round=>
    obtain⟨rfl,rfl⟩:=hrel;go_wp2;go_cut [16]from 59 to 74 (λef wx=>∃(tr:Nat)(ea:Option Addr)(ec:Nat),ef=qP tr 0/\Hid (aFs wr ⟨(k,v),st,[]⟩ tr ea ec wx))
    case first=>
     go_region_held3(λU=>aV wr wr U) (first|(with_reducible assumption)|exact ao.alloc ao.size _|exact ag.alloc (eX _) _|exact(((ao.setCell (eX _) _).setCell (eX _) _).setCell (eX _) _).setCell (eX _) _|go_grown) ((go_at_call 169;refine(CR.out _ (by first|(with_reducible assumption)|exact ag.alloc (eX _) _|go_grown)).mono ?_;rintro e w5⟨rfl,ay⟩;have ao:aV wr wr w5:=(by first|exact ag.trans (ay.mono (eX _))|exact(ag.alloc (eX _) _).trans (ay.mono zS));(try(have ak:qB w5 wr #[qI 0,qI 0,qI 0,qN] 243:=(by exact(ay.block _ zS).trans (fG wr _));obtain⟨y0,y1,y2,y3⟩:=pQ4 ak;have z0:=g8 w5 _ 0 _ _ ak;have z1:=g8 w5 _ 1 _ _ ak;have z2:=g8 w5 _ 2 _ _ ak;have z3:=g8 w5 _ 3 _ _ ak;replace ak:=eC ak));replace ay:=eC ay))
     all_goals
       first
        |(
         obtain⟨N,ap⟩:=eR (w5.alloc (aK #[qI k,qI v,qI st,qN] 243))
         rw[ap]
         have ac:=aGW ap
         have au:aV wr wr N:=by rw[<-ap];exact ao.alloc ao.size _
         have b5:wr<=(w5:Nat):=ao.size
         generalize(w5:Nat)=tr at*)
        |(
         obtain⟨N,ap⟩:=eR (qS (qS (qS (qS w5 (wr,0) (qI k)) (wr,1) (qI v)) (wr,2) (qI st)) (wr,3) qN)
         rw[ap]
         have g1:=iB _ _ 0 _ _ (qI k) ak.out
         have g2:=iB _ _ 1 _ _ (qI v) g1
         have g3:=iB _ _ 2 _ _ (qI (st:Nat)) g2
         have ac:N.heap[(wr:Nat)]?=some (aK #[qI k,qI v,qI st,qN] 243 (0,0)):=by rw[<-ap];exact iB _ _ 3 _ _ _ g3
         have au:aV wr wr N:=by rw[<-ap];exact(((ao.setCell (eX _) _).setCell (eX _) _).setCell (eX _) _).setCell (eX _) _
         have b5:wr<=(wr:Nat):=eX _
         obtain⟨tr,cb⟩:=eR (wr:Nat)
         rw[cb]at ac|-
         replace b5:wr<=tr:=uU cb
         clear cb)
       have bk:=eC (show aFs wr ⟨(k,v),st,[]⟩ tr none 0 N from⟨b5,au,ac,.inl rfl⟩);go_wp2;go_meet;exact⟨_,_,_,rfl,bk⟩
    case rest=>
     obtain⟨tr,ea,ec,rfl,bO⟩:=hcut;generalize wc=N at*;have au:=bO.out.bel;have ac:qB N tr #[qI k,qI v,qI st,aA ea 0 ec] 243:=bO.out.box;have av:=(au.block _ (fB.1 cn.out).1).trans cn.out;have d9:=(au.block _ (fB.1 bm.out).1).trans bm.out;have bh:tr≠w+1:=by have h1:=bO.out.ge;have h2:=bm.out;have h3:=(fB.1 h2).1;omega
     have u0:∀U,eN ((w:Nat)+1) N U->qC U w 0 (aA y J.path.length pc):=λU h=>kG U _ 0 _ _ _ ((h.block _ (fB.1 av).1 zO).trans av);have u1:∀U,eN ((w:Nat)+1) N U->qC U w 1 J.op:=λU h=>kG U _ 1 _ _ _ ((h.block _ (fB.1 av).1 zO).trans av);have u2:∀U,eN ((w:Nat)+1) N U->qC U w 2 (qI J.n):=λU h=>kG U _ 2 _ _ _ ((h.block _ (fB.1 av).1 zO).trans av);have v0:∀U,eN ((w:Nat)+1) N U->qC U tr 0 (qI k):=λU h=>kG U _ 0 _ _ _ ((h.block _ (fB.1 ac).1 bh).trans ac);have v1:∀U,eN ((w:Nat)+1) N U->qC U tr 1 (qI v):=λU h=>kG U _ 1 _ _ _ ((h.block _ (fB.1 ac).1 bh).trans ac);have v2:∀U,eN ((w:Nat)+1) N U->qC U tr 2 (qI st):=λU h=>kG U _ 2 _ _ _ ((h.block _ (fB.1 ac).1 bh).trans ac);have v3:∀U,eN ((w:Nat)+1) N U->qC U tr 3 (aA ea 0 ec):=λU h=>kG U _ 3 _ _ _ ((h.block _ (fB.1 ac).1 bh).trans ac);have CD:=eC (λU(h:aV N N U)=>show qK 157 #[aH #[qI k,qI v,qI st,aA ea 0 ec]] U λe w'=>e=aO (aB (iC ⟨(k,v),st,[]⟩))/\aV U U w' from KH ⟨(k,v),st,[]⟩ ea ec U (.inl rfl) df.out);have cE:=jX N;have el:eN ((w:Nat)+1) N N.drew:=(eN.refl _ _).drew;have co:=eC d9;have dg:=eC au;obtain⟨DG,cv⟩:=eR (iC ⟨(k,v),st,[]⟩);rw[cv]at CD;have dk:=eC cv;go_wp2;go_region_held3(λU=>eN ((w:Nat)+1) N U) (first|(with_reducible assumption)|with_reducible exact(((((((d3.setCell _ _).setCell _ _).setCell _ _).setCell _ _).setCell _ _).setCell _ _).setCell _ _).setCell _ _) ((go_at_call 157;refine(CD.out _ cE).mono ?_;rintro e w9⟨rfl,az⟩;have bA:aV N N w9:=cE.trans (az.mono (eX _));have d3:eN ((w:Nat)+1) N w9:=Below.only bA;have Z:=(bA.block _ (fB.1 co.out).1).trans co.out;have y0:=nS Z;have z0:=g8 w9 _ 0 _ _ Z;have y1:=rI Z;have z1:=g8 w9 _ 1 _ _ Z;have y2:=uI Z;have z2:=g8 w9 _ 2 _ _ Z;have y3:=uG Z;have z3:=g8 w9 _ 3 _ _ Z;have y4:=E0 Z;have z4:=g8 w9 _ 4 _ _ Z;have y5:=F7 Z;have z5:=g8 w9 _ 5 _ _ Z;have y6:=L4 Z;have z6:=g8 w9 _ 6 _ _ Z;have y7:=LI Z;have z7:=g8 w9 _ 7 _ _ Z;have dv:=eC Z;have dy:=eC bA));obtain⟨d2,cz⟩:=eR (qS (qS (qS (qS (qS (qS (qS (qS w9 ((w:Nat)+1,0) (aA y J.path.length pc)) ((w:Nat)+1,1) (qI J.op)) ((w:Nat)+1,2) (qI J.n)) ((w:Nat)+1,3) (qI 1)) ((w:Nat)+1,4) (qI j)) ((w:Nat)+1,5) (qI k)) ((w:Nat)+1,6) (qI v)) ((w:Nat)+1,7) (aB DG));rw[cz];have az:aV wr wr w9:=fC dg dy.out;have d4:eZ (λq=>q=C.m) w w9:=ch.out.chg.then az;obtain⟨hdd,d8,aq,d5⟩:=aAN y pc J ⟨J,1,j,(k,v),DG⟩ B.D HC.out (ch.out.crt.later az) d4 dv.out ((az.block _ (fB.1 cg.out).1).trans cg.out) dh.out.2.1 cz;have dj:=eC hdd;have dw:=eC d8;have ci:=eC (show VF C y pc J j k v st w (aO (E1 y pc ⟨J,1,j,(k,v),DG⟩)) (d2.putObj B.D (aM none))from⟨by rw[dk.out],aq,d5⟩);rw[HQ.out]at ci;go_wp2;change bodyPostM _ _ _ _ Q .ret _ _;refine⟨zS,.inl ⟨_,_,rfl,E6 dj.out,?_⟩⟩;exact⟨_,EP rfl _ _ ((w:Nat)+1) 42 _ (0,0) _ rfl dw.out underlying42 rfl zK,ci.out⟩
end
def FL(m:Mt):Prop:=∃(j:Nat)(x:Int)(d:List Nd)(st:Nat)(k v:Int),(jA oZ m.d).1=⟨1,[0],d⟩/\d≠[]/\AJ d j/\oJ[j]?=some [x]/\wV d x st k v/\aAh ⟨(k,v),st,[]⟩/\m.d.path.length<=1000000/\m=⟨m.d,1,j,(k,v),iC ⟨(k,v),st,[]⟩⟩
theorem uA(m:Mt):zB m m=true:=by unfold zB;simp[J5]
theorem QM(C:UN)(d:Option Addr)(f:Nat)(m:Mt)(w:aS)(hC:EZ C w)(hd:eS kI w d m.d.path)(hm:FL m):
  qK 105 #[qP C.cb 0,aH #[aA d m.d.path.length f,qI m.d.op,qI m.d.n]] w λe w'=>e=aO (E1 d f m)/\EZ C w'/\eZ (λq=>q=C.m) w w':=by obtain⟨j,x,g,st,k,v,h,i,n,r,s,u,y,A⟩:=hm;refine(aDN C d f m.d j x g st k v w hC hd y h i n r s u).mono ?_;rintro e w'⟨he,B,D⟩;exact⟨he.trans (by rw[<-A]),B,D⟩
theorem SW(A:CA)(B:List Mt)(J:Sc)(w:aS)(hc:kW w A ⟨oZ,oJ,9,B,J⟩)(ho:JH ⟨oZ,oJ,9,B,J⟩)(br:LO ⟨oZ,oJ,9,B,J⟩=0)(hj:∀m∈B,FL m):
  qK 36 #[tR A ⟨oZ,oJ,9,B,J⟩] w λe w'=>e=aO (aF #[qI 0,qI B.length])/\aV w w w':=by
 obtain⟨V,Y,ap,-⟩:=lB w (aK (fU A ⟨oZ,oJ,9,B,J⟩) 33);have ay:rJ V w A ⟨oZ,oJ,9,B,J⟩:=by rw[<-Y];exact fG w _
 have bu:=PC Y;have X:=uZ A ⟨oZ,oJ,9,B,J⟩ V (hc.later ap) ho;rw[br]at X;have bz:=eC ay;have a7:=eC ho.ml;have HC:=eC hc;have HJ:=eC hj;have af:=eC ap;have bA:=eC bu;have cs:∀U,aV V V U->qC U w 0 (qI 1)/\qC U w 1 (aA A.va 1 A.vc)/\qC U w 2 (aA A.ba 3 A.bc)/\qC U w 3 (aA A.ta 2 A.tc)/\qC U w 4 (qI 9)/\qC U w 5 (aA A.ma B.length A.mc)/\qC U w 6 (qI J.a)/\qC U w 7 (qI J.k)/\qC U w 8 (qI J.t):=λU h=>by have D:=ay.later h;exact⟨D.c 0 rfl,D.c 1 rfl,D.c 2 rfl,D.c 3 rfl,D.c 4 rfl,D.c 5 rfl,D.c 6 rfl,D.c 7 rfl,D.c 8 rfl⟩
 have f:=eC cs;obtain⟨c0,c1,c2,c3,c4,c5,c6,c7,c8⟩:=cs V (iL _ _);have CP:Hid (∀U:aS,qK 104 #[aH #[qI 1,aA A.va 1 A.vc,aA A.ba 3 A.bc],aA A.ta 2 A.tc,qI 9] U (aHv A.va A.ba A.ta A.vc A.bc 2 A.tc oZ 9 U)):=eC (λU=>aIh A.va A.ba A.ta A.vc A.bc 2 A.tc oZ 9 U);unfold tR at X|-;unfold fU at Y X|-;have HV:=eC Y;have a2:=eC X;obtain⟨Q,hQ⟩:∃Q:Ending->aS->Prop,(λe w'=>e=aO (aF #[qI 0,qI B.length])/\aV w w w')=Q:=⟨_,rfl⟩;rw[hQ];have HQ:=eC hQ;go_enter func36,ntmps36;go_wp2_with(first|(rw[HV.out])|(go_at_call 104;refine(CP.out w1).mono ?_;rintro e W⟨cb,m,rfl,bj,bp,bq,bk,bo,bi⟩;have x:=mG u bi;obtain⟨k0,k1,k2,k3,k4,k5,k6,k7,k8⟩:=f.out W x.out;have az:=eC bj;have a8:=eC bp;have bb:=eC (bG bq (bG (fA u.out.size bk) (fA u.out.size bo))))|(go_at_call 28;refine a2.out.mono ?_;rintro e w1⟨rfl,M⟩;have u:=eC M;obtain⟨j0,j1,j2,j3,j4,j5,j6,j7,j8⟩:=f.out w1 M));obtain⟨C,am⟩:∃C:UN,C=⟨cb,m,A.va,A.ba,A.ta,A.vc,A.bc,A.tc⟩:=⟨_,rfl⟩;have aq:aV w w W:=fC af x.out;have ab:=HC.out.later aq;have bg:EZ C W:=by rw[am];exact⟨az.out,ab.1,ab.2.1,[],a8.out,λi v h=>by cases h⟩
 have a6:=eC ab.2.2;have ah:=eC bg;have ai:Hid (C.cb=cb/\C.m=m):=eC (by rw[am];exact⟨rfl,rfl⟩);have ag:=eC aq;go_loopw [24] (λi wr=>∃k:Nat,k<=B.length/\i=qI k/\Hid (EZ C wr)/\Hid (eZ (λq=>q=C.m) W wr)) (λi _=>B.length-(aW i).toNat)
 case atStart=>exact⟨0,kU _,rfl,ah,eC (eZ.refl _ _)⟩
 case round=>
  obtain⟨k,hk,rfl,aj,y⟩:=hrel;have au:=ah.out.grows y.out;have bV:B.length<=2000:=a7.out;by_cases hlt:k<B.length
  .obtain⟨mt,D⟩:∃mt,B[k]?=some mt:=⟨_,lJ hlt⟩;have ae:=HJ.out mt (iG D);have bl:eS kM wr A.ma B:=au.ls a6.out;obtain⟨b,b1,N,O,bn,bL,av,d0,d1,d2,d3,d4,d5,d6,d7,b0⟩:=sR bl D;have bm:(k:Int)<(B.length:Int):=zO;have bO:(0:Int)<=(k:Int):=zO;have wk:aP.wrap ((k:Int)+1)=(k:Int)+1:=by rw[iA];omega
   obtain⟨V1,bh,M,aw,-⟩:=lB wr (aK #[aA N mt.d.path.length O,mt.d.op,mt.d.n,mt.v,mt.test,mt.out.1,mt.out.2,mt.dig] 42);obtain⟨q0,q1,q2⟩:=pX aw;have j:=eC (QM C N O mt V1 (aj.out.later M) (av.later M) ae);rw[ai.out.1]at j;have bd:=eC aw;have aL:=eC (aj.out.later M);have a3:=eC (y.out.then M);have bc:=eC (av.later M);have al:=eC (show mt.d.path.length<=1000000 by obtain⟨_,_,_,_,_,_,_,_,_,_,_,_,h,_⟩:=ae;exact h);have bx:=eC ae;have be:=eC bh;have ba:=eC (uA mt);rw[bn];unfold E1 at j;go_wp2_with(first|(rw[be.out])|(go_at_call 105;refine j.out.mono ?_;rintro e R⟨rfl,ar,ac⟩;have bv:=eC ar;have bw:=eC ac;obtain⟨W5,aa⟩:=eR (R.alloc (aK #[aA N mt.d.path.length O,mt.d.op,mt.d.n,mt.v,mt.test,mt.out.1,mt.out.2,mt.dig] 42));have Z:aV R R W5:=(by rw[<-aa];exact fL R _);have bt:qB W5 R #[aA N mt.d.path.length O,mt.d.op,mt.d.n,mt.v,mt.test,mt.out.1,mt.out.2,mt.dig] 42:=(by rw[<-aa];exact fG R _);have g4:=aL.out.grows ac;have ax:=g4.same _ _ bd.out (.inr rfl);have bs:=(Z.block _ (fB.1 ax).1).trans ax;obtain⟨s0,s1,s2,s3,s4,s5,s6,s7⟩:=pQ8 bs;obtain⟨t0,t1,t2,t3,t4,t5,t6,t7⟩:=pQ8 bt;have ak:=eC ((g4.ls bc.out).later Z);have a0:=eC (ar.later Z);have a4:=eC ((a3.out.trans ac).then Z);have bf:=eC aa)|(rw[bf.out])|(go_at_call 9;refine(FK N N O O mt mt W5 ak.out ak.out al.out al.out).mono ?_;rintro e w6⟨rfl,ao⟩;rw[ba.out];have a1:=eC (a0.out.later ao);have a5:=eC (a4.out.then ao)));exact⟨⟨k+1,zO,by go_num,a1,a5⟩,by simp[aW];omega⟩
  .obtain rfl:k=B.length:=zO;have bm:¬(B.length:Int)<(B.length:Int):=zO;have c5:qC wr w 5 (aA A.ma B.length A.mc):=au.cell (f.out W x.out).2.2.2.2.2.1;have S:=eC (show aV w w wr from ag.out.trans (y.out.below ag.out.size (λq hq=>by rw[hq,ai.out.2];exact fA af.out.size bb.out.2.2)));go_wp2;go_quiet (fail);go_wp2;rw[<-HQ.out];exact⟨rfl,S.out.os,S.out.tape,S.out.output,S.out.size,S.out.block⟩
def SY(p:Pg):Bool:=decide ((p.bd.length:Int)<=60)&&decide ((p.vs.length:Int)<=20)
def wD(T:List (List Int)):Bool:=!decide ((T.length:Int)>40)&&T.all λl=>!decide ((l.length:Int)>40)
def xX(p:Pg)(T:List (List Int))(F:Int):Bool:=(SY p&&wD T)&&decide ((p.bd.length:Int)<=40)&&decide ((T.length:Int)<=5)&&(decide (F<=200)||decide (F>10000))
def uE(p:Pg)(T:List (List Int))(F:Int):Bool:=xX p T F&&decide ((p.bd.length:Int)<=20)&&decide ((T.length:Int)<=3)&&(decide (F<=80)||decide (F>10000))
theorem aHs(p:Pg)(O D:Option Addr)(R J:Nat)(w:aS):
  qK 149 #[kE O D R J p] w (Rt (aG (SY p)) w):=by
 obtain⟨V,M,B,N,-⟩:=lB w (aK #[p.pa,aA O p.vs.length R,aA D p.bd.length J] 25);obtain⟨-,S,U⟩:=pX N;change Hid _ at B;clear N;unfold kE SY;cases h:decide ((p.bd.length:Int)<=60)with
 |true=>rw[Bool.true_and];go_enter func149,ntmps149;go_wp2_with(rw[M]);go_ret;exact⟨rfl,B⟩
 |false=>rw[Bool.false_and];go_enter func149,ntmps149;go_wp2_with(rw[M]);go_ret;exact⟨rfl,B⟩
theorem aDY(T:List (List Int))(X:Option Addr)(f:Nat)(w:aS)(W:gG w X T)(M:T.length<=9223372036854775807):
  Calls prog 150 #[aA X T.length f] w λe w'=>e=aO (aG (wD T))/\aV w w w':=by
 have Z:=eB W;clear W;cases h:decide ((T.length:Int)>40)with
 |true=>
  have B:wD T=false:=by unfold wD;rw[h];rfl
  rw[B];go_enter func150,ntmps150;go_wp2;go_ret;exact⟨rfl,cF _ _⟩
 |false=>
  have B:wD T=T.all λl=>!decide ((l.length:Int)>40):=by unfold wD;rw[h];rfl
  obtain⟨r,U⟩:∃r,wD T=r:=⟨_,rfl⟩;rw[U]at B|-;have O:=eB B;clear B U;go_enter func150,ntmps150;go_wp2;go_loopw [3] (λi wr=>∃k:Nat,k<=T.length/\i=aC aP k/\(∀l∈T.take k,l.length<=40)/\wr=w) (λi _=>T.length-(aW i).toNat)
  case atStart=>exact⟨0,Nat.zero_le _,rfl,λl M=>by simp at M,rfl⟩
  case round=>
   obtain⟨k,u,rfl,D,rfl⟩:=hrel;by_cases hlt:k<T.length
   .obtain⟨l,J⟩:∃l,T[k]?=some l:=⟨_,List.getElem?_eq_getElem hlt⟩;obtain⟨b,aa,pa,pc,rfl,j,_⟩:=Z.out.at J;have y:(k:Int)<(T.length:Int):=zO;have x:(0:Int)<=(k:Int):=zO;have wk:aP.wrap ((k:Int)+1)=(k:Int)+1:=by rw[IntKind.wrap_i64];omega
    cases hd:decide ((l.length:Int)>40)with
    |true=>
     obtain rfl:r=false:=by rw[O.out,List.all_eq_false];exact⟨l,List.mem_of_getElem? J,by rw[hd];simp⟩
     clear J D;go_wp2;go_ret;exact⟨rfl,cF _ _⟩
    |false=>
     have S:∀N∈T.take (k+1),N.length<=40:=by
      intro N R;rw[List.take_add_one,J]at R;obtain h1|h1:=List.mem_append.1 R
      .exact D N h1
      .obtain rfl:N=l:=by simpa using h1
       have:=of_decide_eq_false hd;omega
     have Y:=eB S;clear J D S;go_wp2;exact⟨⟨k+1,by omega,by go_num,Y.out,trivial⟩,by simp[aW];omega⟩
   .obtain rfl:k=T.length:=zO;obtain rfl:r=true:=by rw[O.out,List.all_eq_true];intro l M;have:=D l (by rw[List.take_of_length_le (bF _)];exact M);simp;omega
    clear D;go_wp2;go_ret;exact⟨rfl,cF _ _⟩
theorem aEA(p:Pg)(T:List (List Int))(F:Int)(va Z ta:Option Addr)(vc f tc:Nat)(w:aS)(ht:gG w ta T)(hl:T.length<=9223372036854775807):
  qK 70 #[kE va Z vc f p,aA ta T.length tc,qI F] w (Rt (aG (xX p T F)) w):=by
 obtain⟨V,j,u,R,-⟩:=lB w (aK #[p.pa,aA va p.vs.length vc,aA Z p.bd.length f] 25);have aa:=(fB.1 R).1;obtain⟨e0,e1,e2⟩:=pX R;have W:=aHs p va Z vc f V;unfold kE at W|-;have J:=eC W;have O:=eC (λU(h:Bl V U)=>aDY T ta tc U (ht.later (u.trans (h.mono (cY aa)))) hl);have X:=eC u;have HR:=eC R;have N:=eC aa;obtain⟨r,x⟩:=eR (xX p T F);rw[x];have Y:=eC x;clear W ht u R aa x;cases h9:SY p with
 |false=>
  obtain rfl:r=false:=by rw[<-Y];unfold xX;rw[h9];rfl
  rw[h9]at J;go_enter func70,ntmps70;go_wp2_with(first|(rw[j])|(go_at_call 149;refine J.mono ?_;rintro e S⟨rfl,ab⟩;have M:=eC (X.trans (ab.mono (cY N)));clear ab));go_ret;exact⟨rfl,M⟩
 |true=>
  rw[h9]at J;cases h15:wD T with
  |false=>
   obtain rfl:r=false:=by rw[<-Y];unfold xX;rw[h9,h15];rfl
   rw[h15]at O;go_enter func70,ntmps70;go_wp2_with(first|(rw[j])|(go_at_call 150;refine(O S B).mono ?_;rintro e w2⟨rfl,D⟩;have M:=eC (X.trans ((fC B D).mono (cY N)));clear D)|(go_at_call 149;refine aIi J λS B=>?_));go_ret;exact⟨rfl,M⟩
  |true=>
   rw[h15]at O;have y:r=(decide ((p.bd.length:Int)<=40)&&decide ((T.length:Int)<=5)&&(decide (F<=200)||decide (F>10000))):=by rw[<-Y];unfold xX;rw[h9,h15];rfl
   cases d1:decide ((p.bd.length:Int)<=40)<;>cases d2:decide ((T.length:Int)<=5)<;>cases d3:decide (F<=200)
   all_goals rw[d1,d2,d3]at y;simp only[Bool.true_and,Bool.false_and,Bool.true_or,Bool.false_or,Bool.and_true,Bool.and_false]at y;subst y;go_enter func70,ntmps70;go_wp2_with(first|(rw[j])|(go_at_call 150;refine(O S B).mono ?_;rintro e w2⟨rfl,D⟩;have ac:=(D.block _ (gV N B.size)).trans ((B.block _ N).trans HR);have q2:=uI ac;have M:=eC (X.trans ((fC B D).mono (cY N)));clear D ac)|(go_at_call 149;refine aIi J λS B=>?_));go_ret;exact⟨rfl,M⟩
theorem aE2(p:Pg)(T:List (List Int))(F:Int)(Z R Y:Option Addr)(f S tc:Nat)(w:aS)(ht:gG w Y T)(hl:T.length<=9223372036854775807):
  qK 20 #[kE Z R f S p,aA Y T.length tc,qI F] w (Rt (aG (uE p T F)) w):=by
 obtain⟨V,x,U,J,-⟩:=lB w (aK #[p.pa,aA Z p.vs.length f,aA R p.bd.length S] 25);have aa:=(fB.1 J).1;obtain⟨e0,e1,e2⟩:=pX J;have M:=aEA p T F Z R Y f S tc V (ht.later U) hl;unfold kE at M|-;have D:=eC M;have j:=eC U;have HR:=eC J;have O:=eC aa;obtain⟨r,W⟩:=eR (uE p T F);rw[W];have u:=eC W;clear M ht U J aa W;cases h9:xX p T F with
 |false=>
  obtain rfl:r=false:=by rw[<-u];unfold uE;rw[h9];rfl
  rw[h9]at D;go_enter func20,ntmps20;go_wp2_with(first|(rw[x])|(go_at_call 70;refine D.mono ?_;rintro e w1⟨rfl,B⟩;have N:=eC (j.trans (B.mono (cY O)));clear B));go_ret;exact⟨rfl,N⟩
 |true=>
  rw[h9]at D;have X:r=(decide ((p.bd.length:Int)<=20)&&decide ((T.length:Int)<=3)&&(decide (F<=80)||decide (F>10000))):=by rw[<-u];unfold uE;rw[h9];rfl
  cases d1:decide ((p.bd.length:Int)<=20)<;>cases d2:decide ((T.length:Int)<=3)<;>cases d3:decide (F<=80)
  all_goals rw[d1,d2,d3]at X;simp only[Bool.true_and,Bool.false_and,Bool.true_or,Bool.false_or,Bool.and_true,Bool.and_false]at X;subst X;go_enter func20,ntmps20;go_wp2_with(first|(rw[x])|(go_at_call 70;refine D.mono ?_;rintro e w1⟨rfl,B⟩;have y:=(B.block _ O).trans HR;have q2:=uI y;have N:=eC (j.trans (B.mono (cY O)));clear B y));go_ret;exact⟨rfl,N⟩
theorem aCD(p:Pg)(T:List (List Int))(F:Int)(O D N:Option Addr)(R J W:Nat)(w:aS)(U:gG w N T)(Z:T.length<=9223372036854775807):
  qK 6 #[kE O D R J p,aA N T.length W,qI F] w (Rt (aG (uE p T F)) w):=by obtain⟨V,Y,M,S,-⟩:=lB w (aK #[p.pa,aA O p.vs.length R,aA D p.bd.length J] 25);obtain⟨f,j,u⟩:=pX S;have B:=aE2 p T F O D N R J W V (U.later M) Z;unfold kE at B|-;change Hid _ at B M;clear U S;generalize uE p T F=r at B|-;go_enter func6,ntmps6;go_wp2_with(first|(rw[Y])|(go_at_call 20;refine UL M B λx X=>?_));go_ret;exact⟨rfl,X⟩
theorem DD{α β:Type}{f:α->List β}{c:Nat}:∀(l:List α),(∀x∈l,(f x).length<=c)->(l.flatMap f).length<=l.length*c
 |[],_=>by simp
 |a::r,h=>by
  rw[List.flatMap_cons,List.length_append,List.length_cons,Nat.add_mul,Nat.one_mul]
  have h1:=h a (DZ ..)
  have h2:=DD r λx hx=>h x (BP _ hx)
  omega
theorem yO(e d f:Int):(yH e d f).length<=(d-e+1).toNat:=by unfold yH;refine fA (cU _ _) ?_;rw[rN,List.length_range];exact eX _
theorem xU{e d f:Int}(h:n∈yH e d f):e<=n/\n<=d:=by unfold yH at h;obtain⟨i,d,rfl⟩:=cG.1 (List.mem_filter.1 h).1;have:=List.mem_range.1 d;omega
theorem TB(l:List Int):(Lib.compact l).length<=l.length:=by unfold Lib.compact Lib.compactUpTo;rw[rN];refine fA (cU _ _) ?_;rw[List.length_range];exact eX _
theorem TM{l:List Int}{x:Int}(h:x∈Lib.compact l):x∈l:=by unfold Lib.compact Lib.compactUpTo at h;obtain⟨i,d,rfl⟩:=cG.1 h;have:=List.mem_range.1 (List.mem_filter.1 d).1;rw[getElem!_pos l.toArray i (by simpa using this)];simp
theorem GI(d:Int)(l:List Int):(uB d l).length<=l.length:=by unfold uB;refine fA (cU _ _) (fA (TB _) ?_);rw[List.length_mergeSort];exact eX _
theorem GO{d:Int}{l:List Int}{x:Int}(h:x∈uB d l):x∈l:=by unfold uB at h;exact List.mem_mergeSort.1 (TM (List.mem_filter.1 h).1)
theorem I9(x:Nd):(oG x).length<=2:=by
 unfold oG;split
 .exact GI _ _
 .exact eX _
theorem I3(h:n∈oG x):n=0\/n=1:=by
 unfold oG at h;split at h
 .simpa using GO h
 .simpa using h
theorem TS(x:Nd):(xQ x).length<=1/\∀y∈xQ x,y.2.length<=6/\∀n∈y.2,kS n:=by
 unfold xQ;split
 .refine⟨eX _,λy d=>?_⟩;obtain rfl:=rD.1 d;exact⟨fA (yO _ _ _) zD,λn e=>by have:=xU e;unfold kS;omega⟩
 split
 .refine⟨eX _,λy d=>?_⟩;obtain rfl:=rD.1 d;exact⟨fA (yO _ _ _) zD,λn e=>by have:=xU e;unfold kS;omega⟩
 split
 .refine⟨eX _,λy d=>?_⟩;obtain rfl:=rD.1 d;exact⟨fA (yO _ _ _) zD,λn e=>by have:=xU e;unfold kS;omega⟩
 split
 .refine⟨eX _,λy d=>?_⟩;obtain rfl:=rD.1 d;refine⟨fA (GI _ _) zS,λn e=>?_⟩;have h:=GO e;simp only[xD,cC,or_false]at h;obtain rfl|rfl|rfl|rfl|rfl:=h
  .unfold kS;omega
  .unfold kS;omega
  .unfold kS;omega
  .exact uN _
  .exact uN _
 split
 .refine⟨eX _,λy d=>?_⟩;obtain rfl:=rD.1 d;refine⟨zS,λn e=>?_⟩;obtain rfl:=rD.1 e;exact uN _
 .exact⟨zS,λy d=>absurd d cC⟩
theorem RE(x:Nd):(yK x).length<=1/\∀y∈yK x,y.2.length<=6/\∀n∈y.2,kS n:=by
 unfold yK;split
 .refine⟨eX _,λy d=>?_⟩;obtain rfl:=rD.1 d;refine⟨zS,λn e=>?_⟩;obtain rfl:=rD.1 e;unfold kS;omega
 .exact⟨zS,λy d=>absurd d cC⟩
theorem T8(x z:Nd):(wY x z).length<=1/\∀y∈wY x z,y.2.length<=6/\∀n∈y.2,kS n:=by
 unfold wY;split
 .refine⟨eX _,λy d=>?_⟩;obtain rfl:=rD.1 d;refine⟨zS,λn e=>?_⟩;obtain rfl:=rD.1 e;unfold kS;omega
 split
 .refine⟨eX _,λy d=>?_⟩;obtain rfl:=rD.1 d;refine⟨fA (I9 _) zD,λn e=>?_⟩;have:=I3 e;unfold kS;omega
 .exact⟨zS,λy d=>absurd d cC⟩
theorem GW(x z:Nd):(g9 x z).length<=3/\∀y∈g9 x z,y.2.length<=6/\∀n∈y.2,kS n:=by
 have d:=TS x;have e:=RE x;have f:=T8 x z;unfold g9;refine⟨by rw[iR,iR];omega,λy g=>?_⟩;obtain h|h:=wM.1 g
 .obtain h|h:=wM.1 h
  .exact d.2 y h
  .exact e.2 y h
 .exact f.2 y h
theorem JG(l:List Nd)(k:Nat):(jC l k).length<=18:=by
 unfold jC;split
 .simp
 .have h:=GW (jC.nodeL l k) (jC.nodeL l (k+1));refine fA (DD (c:=6) _ λy d=>by rw[rN];exact(h.2 y d).1) ?_;omega
theorem JN{k:Nat}{c:Int×Int}(h:c∈jC l k):kS c.2:=by
 unfold jC at h;split at h
 .exact absurd h cC
 .obtain⟨y,f,d⟩:=List.mem_flatMap.1 h;obtain⟨n,e,rfl⟩:=cG.1 d;exact((GW _ _).2 y f).2 n e
theorem VW(p:Pg):(fH p).length<=p.bd.length*18:=by unfold fH;refine fA (DD (c:=18) _ λk d=>by rw[rN];exact JG _ _) ?_;rw[List.length_range];exact eX _
theorem DN(l:List Nd):∀(f k:Nat)(e:List Int),∀x∈kZ l f k e,x.2.length<=e.length+f
 |0,k,e,x,d=>by simp[kZ]at d
 |f+1,k,e,x,d=>by
  simp only[kZ]at d
  obtain rfl|d:=List.mem_cons.1 d
  .simp only;omega
  .obtain⟨y,g,d⟩:=List.mem_flatMap.1 d
   have:=DN l f _ _ x d
   simp only[iR,iW,rP]at this
   omega
theorem aAF(l:List Nd)(k:Nat):((ZU l k).getD []).length<=l.length:=by
 unfold ZU;split
 .simp
 .cases h:(kZ l l.length 0 []).find? λx=>x.1==k with
  |none=>simp
  |some x=>have:=DN l _ _ _ x (List.mem_of_find?_eq_some h);simpa using this
theorem BL{d:Dl}(h:d∈fH p):d.path.length<=p.bd.length/\kS d.n:=by unfold fH at h;obtain⟨k,f,hd⟩:=List.mem_flatMap.1 h;obtain⟨c,e,rfl⟩:=cG.1 hd;exact⟨aAF _ _,JN e⟩
def QL(l:List Nd):Prop:=∀x∈l,kS x.2
theorem QL.at(h:QL l)(k:Nat):kS (l[k]?.getD (0,0)).2:=H4 (P:=λx:Nd=>kS x.2) h (by unfold kS;simp)
theorem QL.set(h:QL l)(k:Nat)(d:kS x.2):QL (l.set k x):=by
 intro y e;obtain h1|rfl:=List.mem_or_eq_of_mem_set e
 .exact h y h1
 .exact d
theorem QL.nil:QL []:=λx d=>absurd d cC
theorem QL.mid(h:QL l)(a b:Nat)(e:kS x.2):QL (l.take a++[x]++l.drop b):=by
 intro y d;obtain d|d:=wM.1 d
 .obtain d|d:=wM.1 d
  .exact h y (List.mem_of_mem_take d)
  .obtain rfl:=rD.1 d;exact e
 .exact h y (List.mem_of_mem_drop d)
theorem VE(l:List Nd)(a b:Nat)(x:Nd):(l.take a++[x]++l.drop b).length<=2*l.length+1:=by rw[iR,iR,jR,sB,LV];omega
def Nl(n:Nat)(l:List Nd):Prop:=QL l/\l.length<=2*n+1
theorem Nl.of(h:QL l):Nl l.length l:=⟨h,zO⟩
theorem Nl.set{l:List Nd}(h:QL l)(k:Nat){x:Nd}(d:kS x.2):Nl l.length (l.set k x):=⟨h.set k d,by rw[List.length_set];omega⟩
theorem Nl.mid{l:List Nd}(h:QL l)(a b:Nat){x:Nd}(d:kS x.2):Nl l.length (l.take a++[x]++l.drop b):=⟨h.mid a b d,VE _ _ _ _⟩
theorem Nl.repl(h:QL l)(k:Nat)(d:kS x.2):Nl l.length (tZ l k [x]):=by
 unfold tZ;split
 .exact Nl.of h
 .exact Nl.mid h _ _ d
theorem Nl.tag(h:QL l)(k:Nat)(n e d:Int):Nl l.length (EA l k n e d):=by
 unfold EA;simp only;split
 .exact Nl.set h _ (h.at k)
 .exact⟨QL.nil,zS⟩
theorem Nl.nil(n:Nat):Nl n []:=⟨QL.nil,zS⟩
theorem P0(h:QL l)(f:Int)(k:Nat)(e:kS n):Nl l.length (iH f l k n):=by
 have d:kS 0:=by unfold kS;omega
 unfold iH;simp only;split
 .exact Nl.tag h _ _ _ _
 split
 .exact Nl.tag h _ _ _ _
 split
 .exact Nl.tag h _ _ _ _
 split
 .split
  .exact Nl.nil _
  .exact Nl.set h _ e
 split
 .split
  .exact Nl.repl h _ d
  .exact Nl.nil _
 split
 .split
  .exact Nl.nil _
  .exact Nl.mid h _ _ d
 split
 .exact Nl.nil _
 .exact Nl.repl h _ e
theorem yC:aEN mQ:=⟨λx d=>absurd d cC,by simp[mQ],by simp[mQ]⟩
theorem WI{d:Dl}(h:P64 p)(f:p.vs.length<=1000)(e:p.bd.length<=1000)(hd:kS d.n):aEN (jA p d).1:=by
 unfold jA;split
 .exact yC
 split
 .exact yC
 .unfold o8;split
  .exact yC
  .split
   .exact yC
   split
   .exact yC
   .rename_i k _ _ _;have:=P0 (l:=p.bd) h d.op k hd;exact⟨this.1,by simp only;omega,by have:=this.2;simp only;omega⟩
theorem aFe{T:List (List Int)}{F:Int}(h:P64 p)(f:∀l∈T,(∀x∈l,kS x)/\l.length<=1000)(g:p.vs.length<=1000)(i:p.bd.length<=1000)(hT:T.length<=1000)(k:gH p=0)(j:pW p.pa T F=0):KU p T F:=
 ⟨⟨h,λl e=>⟨(f l e).1,by have:=(f l e).2;omega⟩,zO,zO,zO⟩,k,j,by have:=VW p;omega,λd hd=>by have:=(BL hd).1;omega,λd hd=>WI h g i (BL hd).2,g⟩
theorem UK(h:eP w a L)(e:L[i]?=some x):∃b d,a=some ⟨b,d,none⟩/\w.cell? (qP b (d+i*2))=some (qI x.1)/\w.cell? (qP b (d+i*2+1))=some (qI x.2):=by
 obtain rfl|⟨b,d,rfl,_,h⟩:=h
 .simp at e
 .exact⟨b,d,rfl,(h i x e).1,(h i x e).2⟩
theorem UG(N O:Option Addr)(U W:Nat)(A:List Nd)(w:aS)(J:eP w N A)(M:eP w O A)(hm:A.length<=maxLen):
  qK 193 #[aA N A.length U,aA O A.length W] w λe w'=>e=aO (aG true)/\∃m,w'=w.drewN m:=by
 unfold maxLen at hm;change Hid _ at J M;obtain⟨n,B⟩:=eR A.length;rw[B]at hm|-;change Hid _ at B;go_enter func193,ntmps193;go_wp2_with fail;go_loopw [13] (λi wr=>∃k m:Nat,k<=n/\i=qI k/\wr=w.drewN m) (λi _=>n-(aW i).toNat)
 case atStart=>exact⟨0,0,zO,rfl,rfl⟩
 case round=>
  obtain⟨k,m,Z,rfl,rfl⟩:=hrel;by_cases hlt:k<n
  .obtain⟨x,D⟩:=fN (show k<A.length by rw[B];exact hlt);obtain⟨X,f,rfl,R,d1⟩:=UK J D;obtain⟨Y,j,rfl,S,d2⟩:=UK M D;obtain⟨x1,x2⟩:=x;simp only at R d1 S d2;clear D;go_wp2_with fail;go_quiet (fail);go_wp2_with fail;exact⟨⟨k+1,m+nq,zO,by go_num,rfl⟩,by simp[aW];omega⟩
  .obtain rfl:k=n:=zO;go_wp2_with fail;go_ret;exact⟨rfl,m,rfl⟩
theorem T4(p:Pg)(S U J M:Option Addr)(W X N O:Nat)(w:aS)(x:iE w S J W N p)(y:iE w U M X O p):
  qK 139 #[kE S J W N p,kE U M X O p] w (Rt (aG true) w):=by
 obtain⟨V,Z⟩:=eR ((w.alloc (aK #[p.pa,aA S p.vs.length W,aA J p.bd.length N] 25)).alloc (aK #[p.pa,aA U p.vs.length X,aA M p.bd.length O] 25));obtain⟨j,u,R,ac⟩:=iY Z;have B:=x.later R;have f:=y.later R;have Y:=NP S U W X p.vs p.vs V (PH B.1) (PH f.1) (by have:=B.2.2.1;have:=B.2.2.2.1;omega);simp only[decide_true]at Y;have aa:=eC Y;have ab:=eC (λm=>UG J M N O p.bd (V.drewN m) B.2.1 f.2.1 (by have:=B.2.2.2.2.1;have:=B.2.2.2.2.2;omega));obtain⟨x0,x1,x2⟩:=pX j;obtain⟨y0,y1,y2⟩:=pX u;have HX:=eC (bG j u);have D:=eC R;have HV:=eC Z;clear x y j u R ac B f Y Z;unfold kE;go_enter func139,ntmps139;go_wp2_with(first
  |(rw[HV])
  |(go_at_call 193;refine(ab m1).mono ?_;rintro e w2⟨rfl,m2,rfl⟩)
  |(go_at_call 192;refine aa.mono ?_;rintro e w1⟨rfl,m1,rfl⟩));go_ret;exact⟨rfl,D.os,D.tape,D.output,D.size,D.block⟩
section
attribute [local go_sem] Oper.semAt_some
def iJ(d e:List Mt)(i k:Nat):Bool×Bool:=match d[i]?,e[k]?with
 |some x,some y=>(decide (jD x.d y.d<=0),decide (0<=jD x.d y.d))
 |some _,none=>(true,false)
 |none,some _=>(false,true)
 |none,none=>(false,false)
def atP(a:Option Addr)(i:Nat):aT:=match a with
 |some ad=>aE (some ⟨ad.block,ad.off+i*8,none⟩)
 |none=>aE none
def G8(a:Option Addr)(i:Nat)(b:Bool):aT:=if b then atP a i else aE none
structure aKu(ba bb bc:Nat)(sa sb:Option Addr)(ca cb:Nat)(La Lb:List Mt)(U:aS):Prop where
 xa:U.cell? ⟨ba,0,none⟩=some (aA sa La.length ca)
 xb:U.cell? ⟨bb,0,none⟩=some (aA sb Lb.length cb)
 xc:U.cell? ⟨bc,0,none⟩=some (aD (.func 142) #[] #[])
 la:eS kM U sa La
 lb:eS kM U sb Lb
theorem J7{P:Program}{a:Act}{Q:Exit->Act->aS->Prop}{D X:Code}(l:Nat)(J:Act->aS->Prop)(μ:Act->aS->Nat)(hf:findLabel (Code.seq D (Code.seq (Code.label l) X)) l=some (Code.seq Code.skip X))
  (first:D.wp P (Exit.then J (λ_ _ _=>False)) a w)(aa:∀a w,J a w->X.wp P (Exit.jump l (λa' w'=>J a' w'/\μ a' w'<μ a w) Q) a w):(Code.scope (Code.seq D (Code.seq (Code.label l) X))).wp P Q a w:=by
 refine wp_scope_jumps l J μ hf (wp_seq (wp_mono first ?_)) (λa w h=>wp_seq (wp_skip (aa a w h)));intro e a' w' h;cases e with
 |normal=>
  refine wp_seq (wp_label (wp_mono (aa a' w' h) ?_));intro e a2 w2 B;cases e with
  |goto l'=>exact⟨B.1,B.2.1⟩
  |normal=>exact B
  |ret=>exact B
  |exit id=>exact B
  |panic ch=>exact B
  |outgrown=>exact B
 |ret=>exact h.elim
 |exit id=>exact h.elim
 |goto t=>exact h.elim
 |panic ch=>exact h.elim
 |outgrown=>exact h.elim
theorem BC{s:Option Addr}{L:List Mt}(h:eS kM U s L){m:Mt}(j:L[i]?=some m):∃b d e c,s=some ⟨b,d,none⟩/\b<(U:Nat)/\eS kI U e m.d.path/\
  eG U b (d+i*8) [aA e m.d.path.length c,qI m.d.op,qI m.d.n,qI m.v,qI m.test,qI m.out.1,qI m.out.2,aB m.dig]:=by obtain⟨b,d,q,rfl,f,⟨v,rfl,n⟩,g⟩:=h.at j;obtain⟨e,c,rfl,k,_⟩:=n.ls;exact⟨b,d,e,c,rfl,f,k,g⟩
theorem SG(lp ba bb bc:Nat)(sa sb:Option Addr)(ca cb:Nat)(D B:List Mt)(cw:D.length<=100000)(cx:B.length<=100000)(az:∀m∈D,m.d.path.length<=1000000)(aL:∀m∈B,m.d.path.length<=1000000)
  (J:Nat->Nat->aS->Prop)(R:aS->Prop)(hS:∀i k U,J i k U->aKu ba bb bc sa sb ca cb D B U)(hJ:∀i k U U',J i k U->Bl U U'->J i k U')(aw:∀U,J D.length B.length U->R U)
  (hY:∀i k U,i<=D.length->k<=B.length->¬(i=D.length/\k=B.length)->J i k U->YieldAt Fence.wide 0 prog lp #[G8 sa i (iJ D B i k).1,G8 sb k (iJ D B i k).2] U λe S=>
   (e=aO (aG true)/\J (if(iJ D B i k).1 then i+1 else i) (if(iJ D B i k).2 then k+1 else k) S)\/(e=aO (aG false)/\R S))
  (W:aS)(av:J 0 0 W):
  CallsIn Fence.wide 1 prog 195 (#[aD (.yield lp) #[] #[]]++#[aE (some ⟨ba,0,none⟩),aE (some ⟨bb,0,none⟩),aE (some ⟨bc,0,none⟩)]) W λe S=>(∃v,e=aO v)/\R S:=by
 refine hH.2 ((hH (n:=2)).1 ?_);refine xI func195 rfl trivial ?_ rfl;simp only[ntmps195,pN,Nat.reduceAdd,Nat.reduceSub];refine wpIn_wide.2 ?_;refine J7 0 (λa' w'=>∃(i k:Nat)(u4 u7 u8 u9 a1 a2 a3 a4 a5 a6 a7 a8 bd be bf bg bh bi bj bk bl bm bn bo bp bq br bs bt bu bv bw bx bz bA bL bO bV b0 b1 b2 b3 b4 b5 b6 b7 b8 b9 cc cd ce cf cg ch ci cj ck cl:aT),a'={tmps:=#[aD (.yield lp) #[] #[],aE (some ⟨ba,0,none⟩),aE (some ⟨bb,0,none⟩),aE (some ⟨bc,0,none⟩),u4,qI (i:Int),qI (k:Int),u7,u8,u9,a1,a2,a3,a4,a5,a6,a7,a8,bd,be,bf,bg,bh,bi,bj,bk,bl,bm,bn,bo,bp,bq,br,bs,bt,bu,bv,bw,bx,bz,bA,bL,bO,bV,b0,b1,b2,b3,b4,b5,b6,b7,b8,b9,cc,cd,ce,cf,cg,ch,ci,cj,ck,cl],defers:=[]}/\i<=D.length/\k<=B.length/\J i k w') (λa' _=>(D.length+B.length)-(aW (a'.tmps.getD 5 undef)).toNat-(aW (a'.tmps.getD 6 undef)).toNat) rfl ?_ ?_
 .go_wp2;exact⟨0,0,_,_,_,_,_,_,_,_,_,_,_,_,_,_,_,_,_,_,_,_,_,_,_,_,_,_,_,_,_,_,_,_,_,_,_,_,_,_,_,_,_,_,_,_,_,_,_,_,_,_,_,_,_,_,_,_,_,_,rfl,by omega,by omega,av⟩
 .rintro a w⟨i,k,u4,u7,u8,u9,a1,a2,a3,a4,a5,a6,a7,a8,bd,be,bf,bg,bh,bi,bj,bk,bl,bm,bn,bo,bp,bq,br,bs,bt,bu,bv,bw,bx,bz,bA,bL,bO,bV,b0,b1,b2,b3,b4,b5,b6,b7,b8,b9,cc,cd,ce,cf,cg,ch,ci,cj,ck,cl,rfl,hi,hk,hj⟩;refine(wpIn_wide (n:=2)).1 ?_;obtain⟨xa,xb,xc,ax,ay⟩:=hS i k w hj;have cr:(0:Int)<=(i:Int):=zO;have cu:(0:Int)<=(k:Int):=zO;have wi:aP.wrap ((i:Int)+1)=(i:Int)+1:=by rw[iA];omega
  have wk:aP.wrap ((k:Int)+1)=(k:Int)+1:=by rw[iA];omega
  have HJ:=eC hj;have HS:=eC hS;have ap:=eC hJ;have HE:=eC aw;have HY:=eC hY;have cm:=eC ax;have ar:=eC ay;have cn:=eC az;have co:=eC aL;have cs:(i:Int)<=(D.length:Int):=zO;have cv:(k:Int)<=(B.length:Int):=zO;clear hS hJ aw hY ax ay hj av az aL;by_cases hia:i=D.length
  .by_cases hkb:k=B.length
   .subst hia hkb;gi_wp2;exact⟨_,iU rfl _ _ _,⟨_,rfl⟩,HE _ HJ⟩
   .have u:k<B.length:=zO;obtain⟨y,Z⟩:∃y,B[k]?=some y:=⟨_,lJ u⟩;obtain⟨gb,ob,pb,au,X,_,_,_⟩:=BC ar Z;have O:iJ D B i k=(false,true):=by unfold iJ;rw[AS (by omega),Z]
    have ao:=HY i k w (by omega) (by omega) (λh=>hkb h.2) HJ;rw[O,X]at ao;obtain⟨fn,ak,ai,aj,ah,N⟩:=ao;have ah:(Instr.yield lp #[aE none,aE (some ⟨gb,ob+k*8,none⟩)]).run prog w=.ok (.round lp fn ak ai aj) w:=ah;have cq:(k:Int)<(B.length:Int):=zO;have e1:((i:Int)==(D.length:Int))=true:=zT;have e2:((k:Int)==(B.length:Int))=false:=zT;have e3:¬(i:Int)<(D.length:Int):=zO;have HR:=eC N;have M:=eC (bG hi (bG hk u));rw[X]at xb;clear X Z N O hia hkb hi hk u;generalize D.length=la at*;generalize B.length=lb at*;gi_wp2;refine(jN HR).mono ?_;rintro e W2(⟨rfl,ae⟩|⟨rfl,hr⟩)
    .have af:J (i) (k+1) W2:=by simpa using ae
     gi_wp2;refine wpIn_goto ?_;exact bG rfl (bG ⟨i,k+1,_,_,_,_,_,_,_,_,_,_,_,_,_,_,_,_,_,_,_,_,_,_,_,_,_,_,_,_,_,_,_,_,_,_,_,_,_,_,_,_,_,_,_,_,_,_,_,_,_,_,_,_,_,_,_,_,_,_,rfl,by have:=M.out;omega,by have:=M.out;omega,af⟩ (by have:=M.out;simp[aW];omega))
    .gi_wp2;exact⟨_,iU rfl _ _ _,⟨_,rfl⟩,hr⟩
  .have ac:i<D.length:=zO;obtain⟨x,hx⟩:∃x,D[i]?=some x:=⟨_,lJ ac⟩;obtain⟨ga,oa,pa,cp,Y,_,aq,aa⟩:=BC cm hx;have ct:(i:Int)<(D.length:Int):=zO;have e1:((i:Int)==(D.length:Int))=false:=zT;by_cases hkb:k=B.length
   .have O:iJ D B i k=(true,false):=by unfold iJ;rw[AS (l:=B) (by omega),hx]
    have ao:=HY i k w (by omega) (by omega) (λh=>hia h.1) HJ;rw[O,Y]at ao;obtain⟨fn,ak,ai,aj,ah,N⟩:=ao;have ah:(Instr.yield lp #[aE (some ⟨ga,oa+i*8,none⟩),aE none]).run prog w=.ok (.round lp fn ak ai aj) w:=ah;have e2:((k:Int)==(B.length:Int))=true:=zT;have e3:¬(k:Int)<(B.length:Int):=zO;have HR:=eC N;have M:=eC (bG hi (bG hk ac));rw[Y]at xa;clear Y hx N O hia hkb hi hk ac aq aa;generalize D.length=la at*;generalize B.length=lb at*;gi_wp2;refine(jN HR).mono ?_;rintro e W2(⟨rfl,ae⟩|⟨rfl,hr⟩)
    .have af:J (i+1) (k) W2:=by simpa using ae
     gi_wp2;refine wpIn_goto ?_;exact bG rfl (bG ⟨i+1,k,_,_,_,_,_,_,_,_,_,_,_,_,_,_,_,_,_,_,_,_,_,_,_,_,_,_,_,_,_,_,_,_,_,_,_,_,_,_,_,_,_,_,_,_,_,_,_,_,_,_,_,_,_,_,_,_,_,_,rfl,by have:=M.out;omega,by have:=M.out;omega,af⟩ (by have:=M.out;simp[aW];omega))
    .gi_wp2;exact⟨_,iU rfl _ _ _,⟨_,rfl⟩,hr⟩
   .have u:k<B.length:=zO;obtain⟨y,Z⟩:∃y,B[k]?=some y:=⟨_,lJ u⟩;obtain⟨gb,ob,pb,au,X,_,a0,ab⟩:=BC ar Z;have cq:(k:Int)<(B.length:Int):=zO;have e2:((k:Int)==(B.length:Int))=false:=zT;have d0:=aa 0 _ rfl;have d1:=aa 1 _ rfl;have d2:=aa 2 _ rfl;have d3:=aa 3 _ rfl;have d4:=aa 4 _ rfl;have d5:=aa 5 _ rfl;have d6:=aa 6 _ rfl;have d7:=aa 7 _ rfl;have f0:=ab 0 _ rfl;have f1:=ab 1 _ rfl;have f2:=ab 2 _ rfl;have f3:=ab 3 _ rfl;have f4:=ab 4 _ rfl;have f5:=ab 5 _ rfl;have f6:=ab 6 _ rfl;have f7:=ab 7 _ rfl;simp only[yZ]at d0 f0;have CC:=eC (λ(U:aS)(hU:Bl w U)=>aCt pa pb cp au x y U (aq.later hU) (a0.later hU) (cn x (iG hx)) (co y (iG Z)));unfold E1 at CC;clear aq a0 aa ab;rcases(by omega:jD x.d y.d<0\/jD x.d y.d=0\/0<jD x.d y.d)with hc|hc|hc
    .have O:iJ D B i k=(true,false):=by unfold iJ;rw[hx,Z];simp only;rw[Prod.mk.injEq];refine⟨?_,?_⟩<;>(first|(apply uW;omega)|(apply BQ;omega))
     have am:=eC (λ(U:aS)(hU:Bl w U)=>show YieldAt Fence.wide 0 prog lp #[aE (some ⟨ga,oa+i*8,none⟩),aE none] U λe S=>(e=aO true/\J (i+1) (k) S)\/(e=aO false/\R S)by
      have h:=HY i k U (by omega) (by omega) (λh=>hia h.1) (ap i k w U HJ hU)
      rw[O,Y,X]at h
      exact h);have M:=eC (bG hi (bG hk (bG ac u)));rw[Y]at xa;rw[X]at xb;clear Y X hx Z O hia hkb hi hk ac u;generalize D.length=la at*;generalize B.length=lb at*;generalize jD x.d y.d=c at*;gi_wp2;refine Code.wpIn_mono (Q:=Exit.then _ (λ_ _ _=>False)) (λe a w h=>by cases e<;>first|exact h|exact h.elim) ?_;refine wpIn_wide.2 ?_;go_still_tail 7,(by kernel_rfl);change wpList _ _ _ _ _ w.drew;obtain⟨W1,f⟩:=eR w.drew;have j:Bl w W1:=by rw[<-f];exact(jX _)
     rw[f];have al:=eC j;have HC:=eC (CC W1 j);clear f j;go_wp2_with(refine HC.mono ?_;rintro e w2⟨rfl,ag⟩;obtain⟨fn,ak,ai,aj,ah,N⟩:=am w2 (fC al ag);have HR:=eC N;clear ag N);gi_wp2;refine(jN HR).mono ?_;rintro e W2(⟨rfl,ae⟩|⟨rfl,hr⟩)
     .have af:J (i+1) (k) W2:=by simpa using ae
      gi_wp2;refine wpIn_goto ?_;exact bG rfl (bG ⟨i+1,k,_,_,_,_,_,_,_,_,_,_,_,_,_,_,_,_,_,_,_,_,_,_,_,_,_,_,_,_,_,_,_,_,_,_,_,_,_,_,_,_,_,_,_,_,_,_,_,_,_,_,_,_,_,_,_,_,_,_,rfl,by have:=M.out;omega,by have:=M.out;omega,af⟩ (by have:=M.out;simp[aW];omega))
     .gi_wp2;exact⟨_,iU rfl _ _ _,⟨_,rfl⟩,hr⟩
    .have O:iJ D B i k=(true,true):=by unfold iJ;rw[hx,Z];simp only;rw[Prod.mk.injEq];refine⟨?_,?_⟩<;>(first|(apply uW;omega)|(apply BQ;omega))
     have am:=eC (λ(U:aS)(hU:Bl w U)=>show YieldAt Fence.wide 0 prog lp #[aE (some ⟨ga,oa+i*8,none⟩),aE (some ⟨gb,ob+k*8,none⟩)] U λe S=>(e=aO true/\J (i+1) (k+1) S)\/(e=aO false/\R S)by
      have h:=HY i k U (by omega) (by omega) (λh=>hia h.1) (ap i k w U HJ hU)
      rw[O,Y,X]at h
      exact h);have M:=eC (bG hi (bG hk (bG ac u)));rw[Y]at xa;rw[X]at xb;clear Y X hx Z O hia hkb hi hk ac u;generalize D.length=la at*;generalize B.length=lb at*;generalize jD x.d y.d=c at*;gi_wp2;refine Code.wpIn_mono (Q:=Exit.then _ (λ_ _ _=>False)) (λe a w h=>by cases e<;>first|exact h|exact h.elim) ?_;refine wpIn_wide.2 ?_;go_still_tail 7,(by kernel_rfl);change wpList _ _ _ _ _ w.drew;obtain⟨W1,f⟩:=eR w.drew;have j:Bl w W1:=by rw[<-f];exact(jX _)
     rw[f];have al:=eC j;have HC:=eC (CC W1 j);clear f j;go_wp2_with(refine HC.mono ?_;rintro e w2⟨rfl,ag⟩;obtain⟨fn,ak,ai,aj,ah,N⟩:=am w2 (fC al ag);have HR:=eC N;clear ag N);gi_wp2;refine(jN HR).mono ?_;rintro e W2(⟨rfl,ae⟩|⟨rfl,hr⟩)
     .have af:J (i+1) (k+1) W2:=by simpa using ae
      gi_wp2;refine wpIn_goto ?_;exact bG rfl (bG ⟨i+1,k+1,_,_,_,_,_,_,_,_,_,_,_,_,_,_,_,_,_,_,_,_,_,_,_,_,_,_,_,_,_,_,_,_,_,_,_,_,_,_,_,_,_,_,_,_,_,_,_,_,_,_,_,_,_,_,_,_,_,_,rfl,by have:=M.out;omega,by have:=M.out;omega,af⟩ (by have:=M.out;simp[aW];omega))
     .gi_wp2;exact⟨_,iU rfl _ _ _,⟨_,rfl⟩,hr⟩
    .have O:iJ D B i k=(false,true):=by unfold iJ;rw[hx,Z];simp only;rw[Prod.mk.injEq];refine⟨?_,?_⟩<;>(first|(apply uW;omega)|(apply BQ;omega))
     have am:=eC (λ(U:aS)(hU:Bl w U)=>show YieldAt Fence.wide 0 prog lp #[aE none,aE (some ⟨gb,ob+k*8,none⟩)] U λe S=>(e=aO true/\J (i) (k+1) S)\/(e=aO false/\R S)by
      have h:=HY i k U (by omega) (by omega) (λh=>hia h.1) (ap i k w U HJ hU)
      rw[O,Y,X]at h
      exact h);have M:=eC (bG hi (bG hk (bG ac u)));rw[Y]at xa;rw[X]at xb;clear Y X hx Z O hia hkb hi hk ac u;generalize D.length=la at*;generalize B.length=lb at*;generalize jD x.d y.d=c at*;gi_wp2;refine Code.wpIn_mono (Q:=Exit.then _ (λ_ _ _=>False)) (λe a w h=>by cases e<;>first|exact h|exact h.elim) ?_;refine wpIn_wide.2 ?_;go_still_tail 7,(by kernel_rfl);change wpList _ _ _ _ _ w.drew;obtain⟨W1,f⟩:=eR w.drew;have j:Bl w W1:=by rw[<-f];exact(jX _)
     rw[f];have al:=eC j;have HC:=eC (CC W1 j);clear f j;go_wp2_with(refine HC.mono ?_;rintro e w2⟨rfl,ag⟩;obtain⟨fn,ak,ai,aj,ah,N⟩:=am w2 (fC al ag);have HR:=eC N;clear ag N);gi_wp2;refine(jN HR).mono ?_;rintro e W2(⟨rfl,ae⟩|⟨rfl,hr⟩)
     .have af:J (i) (k+1) W2:=by simpa using ae
      gi_wp2;refine wpIn_goto ?_;exact bG rfl (bG ⟨i,k+1,_,_,_,_,_,_,_,_,_,_,_,_,_,_,_,_,_,_,_,_,_,_,_,_,_,_,_,_,_,_,_,_,_,_,_,_,_,_,_,_,_,_,_,_,_,_,_,_,_,_,_,_,_,_,_,_,_,_,rfl,by have:=M.out;omega,by have:=M.out;omega,af⟩ (by have:=M.out;simp[aW];omega))
     .gi_wp2;exact⟨_,iU rfl _ _ _,⟨_,rfl⟩,hr⟩
end
def dA:Dl:=⟨[0],5,0⟩
def dB:Dl:=⟨[0],7,0⟩
def dC:Dl:=⟨[0],7,1⟩
def mA:Mt:=⟨dA,1,0,(3,0),iC ⟨(3,0),2,[]⟩⟩
def mB:Mt:=⟨dB,1,1,(0,0),iC ⟨(0,0),3,[]⟩⟩
def mC:Mt:=⟨dC,1,0,(0,1),iC ⟨(0,1),3,[]⟩⟩
theorem aD0:fH oZ=[dA,dB,dC]:=zK
theorem aKq:(jA oZ dA).1=⟨1,[0],al1⟩:=zK
theorem aKC:(jA oZ dB).1=⟨1,[0],Y9 0⟩:=zK
theorem aKs:(jA oZ dC).1=⟨1,[0],Y9 1⟩:=zK
theorem aId:fQ iC oZ oJ 9 dA=mA:=zK
theorem aIl:fQ iC oZ oJ 9 dB=mB:=zK
theorem aIN:fQ iC oZ oJ 9 dC=mC:=zK
theorem aJL:nZ iC oZ oJ 9=[mA,mB,mC]:=by unfold nZ;rw[aD0];simp only[List.map_cons,List.map_nil,aId,aIl,aIN]
theorem P8{k v:Int}{st:Nat}(e:0<=k/\k<=10)(g:0<=v/\v<=10)(f:st<=10):aAh ⟨(k,v),st,[]⟩:=by refine⟨?_,zS⟩;intro n d;simp[rY]at d;unfold rH;obtain rfl|rfl|rfl|rfl:=d<;>omega
theorem aH7:AJ al1 0:=⟨zD,zD,λi x h=>absurd h (Nat.not_lt_zero _),λx d=>by
 obtain rfl:(0:Int)=x:=by simpa[oJ]using d
 exact⟨_,_,_,aJH 0,rfl⟩⟩
theorem aIB:AJ (Y9 0) 1:=⟨zD,zD,λi x h d=>by
 obtain rfl:i=0:=zO
 obtain rfl:(0:Int)=x:=by simpa[oJ]using d
 exact⟨_,_,_,aCF 0,rfl⟩,λx d=>by
 obtain rfl:(5:Int)=x:=by simpa[oJ]using d
 exact⟨_,_,_,aCF 5,rfl⟩⟩
theorem aIu:AJ (Y9 1) 0:=⟨zD,zD,λi x h=>absurd h (Nat.not_lt_zero _),λx d=>by
 obtain rfl:(0:Int)=x:=by simpa[oJ]using d
 exact⟨_,_,_,aHR 0,rfl⟩⟩
theorem aGp:FL mA:=⟨0,0,al1,2,3,0,aKq,by simp[al1],aH7,rfl,aJH 0,P8 zO zO zO,zD,rfl⟩
theorem aGQ:FL mB:=⟨1,5,Y9 0,3,0,0,aKC,by simp[Y9],aIB,rfl,aCF 5,P8 zO zO zO,zD,rfl⟩
theorem aG6:FL mC:=⟨0,0,Y9 1,3,0,1,aKs,by simp[Y9],aIu,rfl,aHR 0,P8 zO zO zO,zD,rfl⟩
theorem aH6:qG mA=true:=by simp[qG,mA,FC]
theorem aIE:qG mB=true:=by simp[qG,mB,FC]
theorem aIV:qG mC=true:=by simp[qG,mC,FC]
theorem aDB{d:Int}(h:1<=d/\d<=7)(e:rH n):aAS ⟨[0],d,n⟩:=⟨zS,λx f=>by obtain rfl:=rD.1 f;omega,h,e⟩
theorem aJw:EM mA:=⟨aDB zO (by unfold rH;omega),aH6,by unfold rH mA;simp⟩
theorem aJQ:EM mB:=⟨aDB zO (by unfold rH;omega),aIE,by unfold rH mB;simp⟩
theorem aKi:EM mC:=⟨aDB zO (by unfold rH;omega),aIV,by unfold rH mC;simp⟩
def gZ:List Mt:=[mA,mB,mC]
def gF:List Mt:=[mB,mC]
def kV(d:List Mt):Cp:=⟨oZ,oJ,9,d,kL d⟩
theorem Y6:UO oZ oJ 9=kV gZ:=by unfold UO;rw[aJL];rfl
inductive GP:List Mt->Prop
 |all:GP gZ
 |some:GP gF
theorem GP.mem(h:GP d):∀m∈d,m=mA\/m=mB\/m=mC:=by
 cases h
 .intro m hm;simpa[gZ]using hm
 .intro m hm;right;simpa[gF]using hm
theorem GP.len(h:GP d):d.length<=3:=by cases h<;>decide
theorem GP.judged(h:GP d):∀m∈d,FL m:=λm hm=>by
 obtain rfl|rfl|rfl:=h.mem m hm
 .exact aGp
 .exact aGQ
 .exact aG6
theorem GP.mt(h:GP d):∀m∈d,EM m:=λm hm=>by
 obtain rfl|rfl|rfl:=h.mem m hm
 .exact aJw
 .exact aJQ
 .exact aKi
theorem aJy:jD dA dB<0:=zD
theorem aHM:jD dB dC<0:=zD
theorem aJJ:0<=mW (fH oZ) dA ((fH oZ).length+1) 0 (fH oZ).length:=by rw[aD0];decide
theorem aJz:0<=mW (fH oZ) dB ((fH oZ).length+1) 0 (fH oZ).length:=by rw[aD0];decide
theorem aJX:0<=mW (fH oZ) dC ((fH oZ).length+1) 0 (fH oZ).length:=by rw[aD0];decide
theorem kc0:gH oZ=0:=zK
theorem cf0:pW oZ.pa oJ 9=0:=zK
theorem TL{g:List Mt}(h:GP g):JH (kV g) where
 kc:=kc0
 cf:=cf0
 ml:=by have:=h.len;show g.length<=2000;omega
 rise:=by
  cases h
  .intro i x y f e
   match i with
   |0=>cases f;cases e;exact aJy
   |1=>cases f;cases e;exact aHM
   |i+2=>simp[kV,gZ]at e
  .intro i x y f e
   match i with
   |0=>cases f;cases e;exact aHM
   |i+1=>simp[kV,gF]at e
 find:=λm hm=>by
  obtain rfl|rfl|rfl:=h.mem m hm
  .exact aJJ
  .exact aJz
  .exact aJX
 right:=λm hm=>(h.mt m hm).right
 sc:=rfl
 vl:=show oZ.vs.length<=1000 by decide
 bl:=show oZ.bd.length<=100000 by decide
 al:=by show(fH oZ).length<=_;rw[aD0];decide
 pl:=λm hm=>fA (h.mt m hm).d.pl zD
theorem aDX(h:GP d):LO (kV d)=0:=by cases h<;>kernel_rfl
theorem aHX:X9 oZ:=⟨zD,zD,zD,zD,λx d=>by
 have h:x=(20,1)\/x=(25,0)\/x=(3,0):=by simpa[oZ,al0]using d
 obtain rfl|rfl|rfl:=h<;>(refine⟨zD,zD,by unfold rH;simp,λ_=>zD⟩),λx d=>by
 have h:x=(20,1)\/x=(25,0)\/x=(3,0):=by simpa[oZ,al0]using d
 obtain rfl|rfl|rfl:=h
 .intro _ h;simp[yT]at h
 .intro _ _;rfl
 .intro _ _;rfl⟩
theorem X8:∀l∈oJ,∀x∈l,rH x:=by
 intro l e x d;have h:l=[0]\/l=[5]:=by simpa[oJ]using e
 unfold rH;obtain rfl|rfl:=h
 .obtain rfl:x=0:=by simpa using d
  omega
 .obtain rfl:x=5:=by simpa using d
  omega
theorem aKd(h:GP d):aDP (kL d):=by have e:=IF 0 d;have f:=IF 1 d;have g:=IF 2 d;have i:=h.len;refine⟨⟨?_,?_⟩,⟨?_,?_⟩,⟨?_,?_⟩⟩<;>(unfold kL;simp only;omega)
theorem DK(h:GP d):(MC d).length<=2000:=by have e:=KO h.mt;have f:=IP (l:=d) (by have:=h.len;omega);have g:=h.len;simp only[MC,iR];omega
theorem aFZ:(FE oZ).length<=100:=Nat.le_of_ble_eq_true zK
theorem AA:(fP oJ 9).length<=100:=Nat.le_of_ble_eq_true zK
theorem aGH(h:GP d):(VP (kL d)).length<=100:=by cases h<;>exact Nat.le_of_ble_eq_true zK
theorem sz0(h:GP d):(p9 (jS (kV d))).length<=1048576:=by
 have j:=aFZ;have k:=AA;have e3:=DK h;have m:=aGH h;have g:∀x∈jS (kV d),x.2.size<=1000000000:=by
  intro x i;have h:x=(1,eH (FE oZ))\/x=(2,eH (fP oJ 9))\/x=(3,eH (MC d))\/x=(4,eH (VP (kL d))):=by simpa[jS,kV]using i
  obtain rfl|rfl|rfl|rfl:=h
  .show(FE oZ).length<=_;omega
  .show(fP oJ 9).length<=_;omega
  .show(MC d).length<=_;omega
  .show(VP (kL d)).length<=_;omega
 have e:=Y7 g;have n:xJ (jS (kV d))=(FE oZ).length+((fP oJ 9).length+((MC d).length+((VP (kL d)).length+0))):=by unfold xJ jS kV;rfl
 have f:(jS (kV d)).length=4:=rfl;rw[f]at e;have q:=KF (L:=jS (kV d)) (by omega);rw[vM];omega
theorem JP(h:GP d):uV (kV d):=⟨TL h,aDX h,aHX,X8,zK,h.mt,aKd h,sz0 h⟩
theorem aKv:KU oZ oJ 9:=aFe (λx d=>by
 have h:x=(20,1)\/x=(25,0)\/x=(3,0):=by simpa[oZ,al0]using d
 obtain rfl|rfl|rfl:=h<;>(unfold kS;simp)) (λl e=>⟨λx d=>X8 l e x d,by
 have h:l=[0]\/l=[5]:=by simpa[oJ]using e
 obtain rfl|rfl:=h<;>simp⟩) zD zD zD kc0 cf0
theorem aJ1:kL gZ=⟨0,3,0⟩:=zK
structure F5(V:aS)(v:aT)(L:List Mt)(wr:aS):Prop where
 own:eD kM 42 V wr v L
 bel:aV V V wr
def ZE(w:aS)(e:Ending)(w':aS):Prop:=(∃C:CA,e=aO (tR C (kV gF))/\kW w' C (kV gF))/\aV (w:Nat) w w'
theorem aF1(A:CA)(w:aS)(hc:kW w A (kV gZ)):qK 17 #[tR A (kV gZ),aC .u64 6] w (ZE w):=by
 obtain⟨V,hV⟩:=eR ((w.alloc (aK (fU A (kV gZ)) 33)).alloc (aK #[qI 0,qN,qN,qN,qI 0,qN,qI 0,qI 0,qI 0] 33));obtain⟨r0,r1,ap,a4⟩:=iY hV;have a1:=hc.later ap;have u:=eC (λU(h:Bl V U)=>show qC U w 0 (qI 1)/\qC U w 1 (aA A.va 1 A.vc)/\qC U w 2 (aA A.ba 3 A.bc)/\qC U w 3 (aA A.ta 2 A.tc)/\qC U w 4 (qI 9)/\U.cell? (w,5)=some (aA A.ma 3 A.mc)by
  have e:=(h.block _ (fB.1 r0).1).trans r0
  exact pQ6 e);obtain⟨S,W,X,Y,Z,N⟩:=u V (iL _ _);have HM:=eC (λU(h:Bl V U)=>a1.2.2.later h);have ay:=eC r1;have HB:=eC ap;have ax:=eC hc;have HZ:=eC a4;obtain⟨Q,hQ⟩:=eR (ZE w);rw[hQ];have HQ:=eC hQ;clear hc a1 r0 r1 ap a4 hQ;unfold tR;unfold fU kV at hV|-;have HV:=eC hV;clear hV;go_enter func17,ntmps17;go_wp2_with(rw[HV]);clear S W X Y Z N;go_loopw [5,6] (λv i wr=>(i=qI 0/\Hid (F5 V v [] wr))\/(i=qI 1/\Hid (F5 V v [] wr))\/(i=qI 2/\Hid (F5 V v [mB] wr))\/(i=qI 3/\Hid (F5 V v [mB,mC] wr))) (λ_ i _=>4-(aW i).toNat)
 case atStart=>exact .inl ⟨rfl,eC ⟨eD.nil _ _ _ _,iL _ _⟩⟩
 case round=>
  obtain⟨rfl,B⟩|⟨rfl,B⟩|⟨rfl,B⟩|⟨rfl,B⟩:=hrel
  .obtain⟨S,W,X,Y,Z,N⟩:=u wr B.out.bel;go_wp2;exact⟨.inr (.inl ⟨rfl,B⟩),by simp[aW]⟩
  .obtain⟨S,W,X,Y,Z,N⟩:=u wr B.out.bel;obtain⟨b,ag,J,M,ac,aq,au,d0,d1,d2,d3,d4,d5,d6,d7,ae⟩:=sR (HM wr B.out.bel) (i:=1) (m:=mB) rfl;rw[show ag+1*8=ag+8 from rfl]at d0 d1 d2 d3 d4 d5 d6 d7;rw[ac]at N;obtain⟨O,R,rfl,_⟩:=eL B.out.own;obtain⟨x,f,D,-⟩:=lB wr (aK #[aA J (mB).d.path.length M,qI (mB).d.op,qI (mB).d.n,qI (mB).v,qI (mB).test,qI (mB).out.1,qI (mB).out.2,aB (mB).dig] 42);have ak:Hid (eG x wr 0 [aA J (mB).d.path.length M,qI (mB).d.op,qI (mB).d.n,qI (mB).v,qI (mB).test,qI (mB).out.1,qI (mB).out.2,aB (mB).dig]):=eC (by rw[<-f];exact eG.new _ _ _);have al:Hid (kM.R x mB [aA J (mB).d.path.length M,qI (mB).d.op,qI (mB).d.n,qI (mB).v,qI (mB).test,qI (mB).out.1,qI (mB).out.2,aB (mB).dig]):=eC ⟨_,rfl,ae.later D⟩;have am:=eC (B.out.own.later D);have j:=eC (B.out.bel.trans (D.mono B.out.bel.size));have ao:=eC f;clear ac aq au ae D f;go_wp2_with(first
    |(rw[ao])
    |(at_builtin;(refine kN MX rfl (.tmp 20) (.tmp 26) rfl V (aA O ([]:List Mt).length R) [] rfl am wr mB [aA J (mB).d.path.length M,qI (mB).d.op,qI (mB).d.n,qI (mB).v,qI (mB).test,qI (mB).out.1,qI (mB).out.2,aB (mB).dig] al rfl ak zD j.size (λh=>absurd (show(42:TypeId)=3 from h) zD) ?_;intro v' w7 af ar aa;have HN:=eC (show F5 V v' [mB] w7 from⟨af,j.trans aa⟩);clear af ar aa)));exact⟨.inr (.inr (.inl ⟨rfl,HN⟩)),by simp[aW]⟩
  .obtain⟨S,W,X,Y,Z,N⟩:=u wr B.out.bel;obtain⟨b,ag,J,M,ac,aq,au,d0,d1,d2,d3,d4,d5,d6,d7,ae⟩:=sR (HM wr B.out.bel) (i:=2) (m:=mC) rfl;rw[show ag+2*8=ag+16 from rfl]at d0 d1 d2 d3 d4 d5 d6 d7;rw[ac]at N;obtain⟨O,R,rfl,_⟩:=eL B.out.own;obtain⟨x,f,D,-⟩:=lB wr (aK #[aA J (mC).d.path.length M,qI (mC).d.op,qI (mC).d.n,qI (mC).v,qI (mC).test,qI (mC).out.1,qI (mC).out.2,aB (mC).dig] 42);have ak:Hid (eG x wr 0 [aA J (mC).d.path.length M,qI (mC).d.op,qI (mC).d.n,qI (mC).v,qI (mC).test,qI (mC).out.1,qI (mC).out.2,aB (mC).dig]):=eC (by rw[<-f];exact eG.new _ _ _);have al:Hid (kM.R x mC [aA J (mC).d.path.length M,qI (mC).d.op,qI (mC).d.n,qI (mC).v,qI (mC).test,qI (mC).out.1,qI (mC).out.2,aB (mC).dig]):=eC ⟨_,rfl,ae.later D⟩;have am:=eC (B.out.own.later D);have j:=eC (B.out.bel.trans (D.mono B.out.bel.size));have ao:=eC f;clear ac aq au ae D f;go_wp2_with(first
    |(rw[ao])
    |(at_builtin;(refine kN MX rfl (.tmp 20) (.tmp 26) rfl V (aA O ([mB]:List Mt).length R) [mB] rfl am wr mC [aA J (mC).d.path.length M,qI (mC).d.op,qI (mC).d.n,qI (mC).v,qI (mC).test,qI (mC).out.1,qI (mC).out.2,aB (mC).dig] al rfl ak zD j.size (λh=>absurd (show(42:TypeId)=3 from h) zD) ?_;intro v' w7 af ar aa;have HN:=eC (show F5 V v' [mB,mC] w7 from⟨af,j.trans aa⟩);clear af ar aa)));exact⟨.inr (.inr (.inr ⟨rfl,HN⟩)),by simp[aW]⟩
  .obtain⟨S,W,X,Y,Z,N⟩:=u wr B.out.bel;obtain⟨O,R,rfl,a2⟩:=(eL B.out.own:∃a c,_=Value.slice a 2 c/\eS kM wr a [mB,mC]);have hz:=HZ.out;have ab:w<(wr:Nat):=by have:=B.out.bel.size;omega
   have s0:∀U,eN ((w:Nat)+1) wr U->qC U w 0 (qI 1):=λU h=>(lA (w:=wr) (a:=(w,0)) (h.block _ ab (by show w≠(w:Nat)+1;omega))).trans S;have s1:∀U,eN ((w:Nat)+1) wr U->qC U w 1 (aA A.va 1 A.vc):=λU h=>(lA (w:=wr) (a:=(w,1)) (h.block _ ab (by show w≠(w:Nat)+1;omega))).trans W;have s2:∀U,eN ((w:Nat)+1) wr U->qC U w 2 (aA A.ba 3 A.bc):=λU h=>(lA (w:=wr) (a:=(w,2)) (h.block _ ab (by show w≠(w:Nat)+1;omega))).trans X;have s3:∀U,eN ((w:Nat)+1) wr U->qC U w 3 (aA A.ta 2 A.tc):=λU h=>(lA (w:=wr) (a:=(w,3)) (h.block _ ab (by show w≠(w:Nat)+1;omega))).trans Y;have s4:∀U,eN ((w:Nat)+1) wr U->qC U w 4 (qI 9):=λU h=>(lA (w:=wr) (a:=(w,4)) (h.block _ ab (by show w≠(w:Nat)+1;omega))).trans Z;have hO:eN ((w:Nat)+1) wr wr.drew:=(eN.refl _ _).drew;have CS:=eC (show qK 61 #[aA O 2 R] wr.drew (Rt (aH #[qI (kL gF).a,qI (kL gF).k,qI (kL gF).t]) wr)by
    refine(DL O R gF wr.drew (a2.later (jX _)) zD).mono ?_
    rintro e w'⟨rfl,y⟩
    exact⟨rfl,y.os,y.tape,y.output,y.size,y.block⟩);obtain⟨sc,av⟩:=eR (kL gF);rw[av]at CS;have a6:=eC av;have az:=eC ((B.out.bel.block _ (fB.1 ay).1).trans ay);clear S W X Y Z a2 av hz;go_wp2;clear N;go_region_held3(λU=>eN ((w:Nat)+1) wr U) (first|(with_reducible assumption)|with_reducible exact((((((((a7.setCell _ _).setCell _ _).setCell _ _).setCell _ _).setCell _ _).setCell _ _).setCell _ _).setCell _ _).setCell _ _) ((go_at_call 61;refine CS.mono ?_;rintro e w9⟨rfl,ai⟩;have a7:eN ((w:Nat)+1) wr w9:=Below.only ai;have aj:=(ai.block _ (fB.1 az).1).trans az;obtain⟨y0,y1,y2,y3,y4,y5,y6,y7,y8⟩:=pQ9 aj;have z0:=tK aj;have aL:=eC aj;have aw:=eC ai;clear aj ai));have a0:Bl w w9:=HB.trans ((B.out.bel.trans (aw.mono B.out.bel.size)).mono HB.size);obtain⟨e9,b9,k9,z9⟩:=WY _ _ _ _ _ _ _ _ _ (qI 1) (aA A.va 1 A.vc) (aA A.ba 3 A.bc) (aA A.ta 2 A.tc) (qI 9) (aA O 2 R) (qI sc.a) (qI sc.k) (qI sc.t) aL a0 (sA _);have a3:=fJ (B.out.own.later aw) zD E8 aL k9;have a5:=eC e9;have ah:=eC (show ZE w (aO (tR ⟨A.va,A.vc,A.ba,A.bc,A.ta,A.tc,O,R⟩ (kV gF))) _ from⟨⟨_,rfl,(ax.later b9).1,(ax.later b9).2.1,by obtain⟨a,c,e,hl⟩:=eL a3;cases e;exact hl⟩,b9⟩);rw[HQ]at ah;unfold tR fU kV at ah;rw[a6]at ah;clear a0 e9 b9 k9 z9 a3;go_wp2;exact gO (EP rfl _ _ ((w:Nat)+1) 33 _ (0,0) _ rfl a5 underlying33 rfl zK) rfl ah
theorem WS(B D S:ByteArray)(w:aS)
  (O:∀(a b:Nat) (U:aS),qC U a 0 (aB B)->qC U b 0 (aB D)->qK 62 #[qP a 0,qP b 0] U (Rt (aB S) U)):
  qK 18 #[aB B,aB D] w (Rt (aF #[aB S,qI 0]) w):=by have f:=IZ;obtain⟨V,J⟩:=eR ((w.alloc (aK #[B] 9)).alloc (aK #[D] 9));obtain⟨M,N,W,Z⟩:=iY J;have X:=eC (F6 _ (l8 func62 zK rfl) w ((w:Nat)+1) S V (λU R=>O w ((w:Nat)+1) U (kG U _ 0 _ _ _ ((R.block _ (fB.1 M).1).trans M)) (kG U _ 0 _ _ _ ((R.block _ (fB.1 N).1).trans N))));change Hid _ at W J;clear M N Z O;go_enter func18,ntmps18;go_wp2_with(first|(rw[J])|(go_at_call 46;refine UL W X λj Y=>?_));go_ret2;exact⟨rfl,Y⟩
theorem aAy(B D S:ByteArray)(w:aS)
  (O:∀(a b:Nat) (U:aS),qC U a 0 (aB B)->qC U b 0 (aB D)->qK 66 #[qP a 0,qP b 0] U (Rt (aB S) U)):
  qK 19 #[aB B,aB D] w (Rt (aF #[aB S,qI 0]) w):=by have f:=IZ;obtain⟨V,J⟩:=eR ((w.alloc (aK #[B] 9)).alloc (aK #[D] 9));obtain⟨M,N,W,Z⟩:=iY J;have X:=eC (F6 _ (l8 func66 zK rfl) w ((w:Nat)+1) S V (λU R=>O w ((w:Nat)+1) U (kG U _ 0 _ _ _ ((R.block _ (fB.1 M).1).trans M)) (kG U _ 0 _ _ _ ((R.block _ (fB.1 N).1).trans N))));change Hid _ at W J;clear M N Z O;go_enter func19,ntmps19;go_wp2_with(first|(rw[J])|(go_at_call 46;refine UL W X λj Y=>?_));go_ret2;exact⟨rfl,Y⟩
end Go.Proofs.YtgmjilingndloaaGreatDoor
