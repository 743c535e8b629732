/- Part 3 of the proof of TopFuel. No conditions. -/
import Derived.Test.YtgmjilingndloaaGreatDoorZ2
import Derived.Test.YtgmjilingndloaaGreatDoorShelf2
open Go renaming Program->bB,TypeId->aX,Value->aT,World->aS,maxLen->aZ,undef->aY
open Go.Ending renaming returned->aO
open Go.IntKind renaming i64->aP
open Go.Obj renaming cells->aK,deferred->aM,loop->aN
open Go.RowKit renaming Below->aV,intOf->aW,wrap64->a9
open Go.Value renaming bool->aG,func->aD,int->aC,pointer->aE,slice->aA,tuple->aF
open List renaming length_filter_le->cU,replicate->bJ
open Nat renaming mul_one->cD
namespace Go.Proofs.YtgmjilingndloaaGreatDoor
set_option linter.unusedVariables false
set_option linter.unusedSimpArgs false
set_option maxRecDepth 100000
set_option maxHeartbeats 20000000
open Go Go.RowKit Go.Proofs.Tryz Go.Shelf
variable{w w' W U V:aS}{b k n c f j q B gf aa i m xb:Nat}{L d:List Int}{v:aT}{l:List Nd}{M M0:Nat->Prop}{P:bB}{Q:Exit->Act->aS->Prop}{a:Option Addr}{fn:Func}{p:Tmp}{g:Operand}{ps:Array Tmp}{lb:Array aT}{ops:Array Oper}{ac:List Oper}{o:Oper}{A:List (aT×List Int)}{t:Int}
section
attribute [local go_sem] Oper.semAt_some
theorem eP.kept(h:eP w a l)(g:w<=(w':Nat))(f:∀ad,a=some ad->ad.block<w->w'.heap[ad.block]?=w.heap[ad.block]?):eP w' a l:=by
 obtain h|⟨b,off,rfl,hlt,h⟩:=h
 .exact .inl h
 .have e:=f _ rfl hlt;refine .inr ⟨b,off,rfl,gV hlt g,λi x d=>⟨?_,?_⟩⟩
  .rw[<-(h i x d).1];exact lA (w:=w) (a:=(b,off+i*2)) e
  .rw[<-(h i x d).2];exact lA (w:=w) (a:=(b,off+i*2+1)) e
theorem lH(h:eS kI w a L)(k:w<=(w':Nat))(d:∀ad,a=some ad->L≠[]->ad.block<w->w'.heap[ad.block]?=w.heap[ad.block]?):eS kI w' a L:=by
 by_cases hne:L=[]
 .exact .inl hne
 obtain h|⟨b,off,rfl,hlt,h⟩:=h
 .exact .inl h
 .have e:=d _ rfl hne hlt;refine .inr ⟨b,off,rfl,gV hlt k,λi x g=>?_⟩;obtain⟨m,j,f⟩:=h i x g;exact⟨m,j,f.same e⟩
def aGn(f:Option Addr)(m c:Nat)(q:Int)(g:Option Addr)(d co:Nat)(w:aS)(e:Ending)(w':aS):Prop:=
 e=aO (aD (.func 353) #[] #[aE (some ⟨(w:Nat)+1,0,none⟩),aE (some ⟨(w:Nat)+2,0,none⟩),aE (some ⟨w,0,none⟩)])/\(w':Nat)=(w:Nat)+3/\aV (w:Nat) w w'/\
 Boxed w' ((w:Nat)+1) 3 (aC aP q)/\Boxed w' ((w:Nat)+2) 22 (aA g d co)/\Boxed w' w 23 (aA f m c)
theorem S8(f:Option Addr)(m c:Nat)(q:Int)(g:Option Addr)(d co:Nat)(w:aS):qK 328 #[aA f m c,qI q,aA g d co] w (aGn f m c q g d co w):=by
 refine(aCH f m c q g d co w).mono ?_;rintro e w'⟨rfl,rfl⟩;refine⟨rfl,zS,((fL w _).alloc zS _).alloc zT _,?_,?_,?_⟩
 .have:=(oI (w.alloc (aK #[aA f m c] 23)) 3 (qI q)).alloc (aK #[aA g d co] 22);rw[fO]at this;exact this
 .have:=oI ((w.alloc (aK #[aA f m c] 23)).alloc (aK #[q] 3)) 22 (aA g d co);rw[fO,fO]at this;exact this
 .exact((oI w 23 (aA f m c)).alloc (aK #[q] 3)).alloc (aK #[aA g d co] 22)
def gP(l:List Nd)(f k:Nat)(d:List Int)(j:Nat):List (Nat×List Int):=(k,d)::((eO l k).zipIdx.take j).flatMap λx=>kZ l f x.1 (d++[(x.2:Int)])
theorem ZC(h:(eO l k)[j]?=some q):gP l f k d (j+1)=gP l f k d j++kZ l f q (d++[(j:Int)]):=by
 have g:(eO l k).zipIdx[j]?=some (q,j):=by rw[List.getElem?_zipIdx,h];simp
 obtain⟨e,he⟩:=gX.1 g;unfold gP;rw[TN e,he];simp
theorem aIK:gP l f k d (eO l k).length=kZ l (f+1) k d:=by unfold gP;rw[nH zS];rfl
theorem U7{own:List Int}(j:Nat):gP l f k own j<+:kZ l (f+1) k own:=by
 unfold gP;show _<+:(k,own)::_;rw[List.cons_prefix_cons];refine⟨rfl,?_⟩;conv=>rhs;rw[<-xH j (eO l k).zipIdx]
 rw[List.flatMap_append];exact List.prefix_append _ _
theorem aDf{e:List (Nat×List Int)}(h:(eO l k)[j]?=some q)(g:e<+:kZ l f q (d++[(j:Int)])):gP l f k d j++e<+:kZ l (f+1) k d:=by refine List.IsPrefix.trans ?_ (U7 (l:=l) (f:=f) (k:=k) (own:=d) (j+1));rw[ZC h];exact(List.prefix_append_right_inj _).2 g
theorem aBY(n0:Nat)(R:Option Addr)(c:Nat)(l:List Nd)(hm:l.length<=999):∀(f k e:Nat),iD l k=some e->l.length-k<=f->∀(B:List Int)(N:Option Addr)(co bA bO bL:Nat)(u:Nat->Prop)(w:aS),B.length<=k->
  Boxed w bA 3 (qI k)->Boxed w bO 22 (aA N B.length co)->Boxed w bL 23 (aA R l.length c)->eS kI w N B->(∀ad,N=some ad->B≠[]->n0<=ad.block)->n0<=(w:Nat)->eP w R l->u bA->u bO->u bL->(∀ad,N=some ad->B≠[]->u ad.block)->(∀ad,R=some ad->u ad.block)->(∀k,u k->k<(w:Nat))->
  aJ9 prog 353 #[aE (some ⟨bA,0,none⟩),aE (some ⟨bO,0,none⟩),aE (some ⟨bL,0,none⟩)] (aIG n0) (kZ l f k B) (λ_ _=>False) u w:=by
 intro f;induction f with
 |zero=>intro k e he hf;have:=jW he;omega
 |succ f ih=>
  intro k e he hf B N co bA bO bL u w0 dC b7 b9 b8 bs cR b4 bq mA mO mL mo mn aw;intro Y J Jx W ac bV hJ av hY bn;have dx:=jW he;have dB:n0<=(W:Nat):=fA b4 ac.size;clear b4;have ao:Boxed W bA 3 (qI k):=(ac.block _ (aw _ mA)).trans b7;have aq:Boxed W bO 22 (aA N B.length co):=(ac.block _ (aw _ mO)).trans b9;have ap:Boxed W bL 23 (aA R l.length c):=(ac.block _ (aw _ mL)).trans b8;have hO:eS kI W N B:=bs.later ac;have hN:eP W R l:=bq.later ac;have cz:∀k,u k->k<(W:Nat):=λk h=>gV (aw k h) ac.size;refine hH.2 ((hH (n:=2)).1 ?_);refine xI func353 rfl trivial ?_ rfl;simp only[ntmps353,PO,iW,rP,Nat.reduceAdd,Nat.reduceSub,XO,VA,XZ,WO,uS,rO];obtain⟨W1,ax,aa,-⟩:=lB W (aK #[aD (.yield Y) #[] #[]] 478);have a0:Boxed W1 W 478 (aD (.yield Y) #[] #[]):=by rw[<-ax];exact oI W _ _
  have d0:=PC ax;have cX:=xA ((aa.block _ (pV ao)).trans ao);have az:=xA ((aa.block _ (pV aq)).trans aq);have ay:=xA ((aa.block _ (pV ap)).trans ap);have c2:=a0.cell;have j1:=hJ.grow bn aa;have hX:=hY [] (k,B) #[qI k,aA N B.length co] _ W1 j1 (λk h=>.inl h) ⟨N,co,rfl,hO.later aa,cR⟩ (U7 (l:=l) (f:=f) (k:=k) (own:=B) 0);obtain⟨fn,di,ct,cu,hy,hR⟩:=hX;obtain⟨M1,aj⟩:=eR (λq=>u q\/(W:Nat)<=q/\q<(W1:Nat));rw[aj]at hR j1;rw[uS]at hR;have ag:∀q,u q->M1 q:=λq h=>by rw[<-aj];exact .inl h
  have db:∀q,M1 q->q<(W1:Nat):=λq h=>by
   rw[<-aj]at h;obtain h|h:=h
   .have:=cz q h;omega
   .exact h.2
  have cb:M1 (W:Nat):=by rw[<-aj];exact .inr ⟨eX _,by omega⟩
  have dy:(eO l k).length<=200:=by obtain⟨x,a,hx,ha,_⟩:=lI he;rw[(qZ he hx ha).2.1];exact(lX ha).2
  have bi:Boxed W1 bA 3 (qI k):=(aa.block _ (pV ao)).trans ao;have bk:Boxed W1 bO 22 (aA N B.length co):=(aa.block _ (pV aq)).trans aq;have bj:Boxed W1 bL 23 (aA R l.length c):=(aa.block _ (pV ap)).trans ap;have br:eP W1 R l:=hN.later aa;have bt:eS kI W1 N B:=hO.later aa;have bV:Y+1<=(W:Nat):=bV;clear ao aq ap b7 b9 b8 hN bq hO bs bn j1 ac aj;gi_wp2_with(rw[ax]);refine(jN hR).mono ?_;rintro e W2(⟨rfl,j2,y⟩|⟨rfl,x2,y⟩)
  case inr=>gi_wp2;exact⟨_,iU rfl _ _ _,⟨_,rfl⟩,.inr ⟨_,U7 (l:=l) (f:=f) (k:=k) (own:=B) 0,av.less x2 ag⟩⟩
  have a2:Boxed W2 bA 3 (qI k):=(y.own _ (ag _ mA) (pV bi)).trans bi;have bl:Boxed W2 bO 22 (aA N B.length co):=(y.own _ (ag _ mO) (pV bk)).trans bk;have a3:Boxed W2 bL 23 (aA R l.length c):=(y.own _ (ag _ mL) (pV bj)).trans bj;have bm:Boxed W2 W 478 (aD (.yield Y) #[] #[]):=(y.own _ cb (pV a0)).trans a0;have a6:eP W2 R l:=br.kept y.size λad e h=>y.own _ (ag _ (mn ad e)) h;have bu:eS kI W2 N B:=lH bt y.size λad e af h=>y.own _ (ag _ (mo ad e af)) h;have CK:=yN R c l k W2 a6 (by omega);rw[he]at CK;simp only[Option.isSome_some,if_true]at CK;have hK:(mJ (eO l k)).length=(eO l k).length:=by simp[mJ]
  have c0:=xA a2;have c1:=xA a3;gi_wp2_with(refine⟨trivial,?_⟩;gi_at_call 227;refine(hH.2 CK).mono ?_;rintro e S⟨⟨pk,ck,rfl,b1,de⟩,ab⟩;rw[hK]);obtain⟨M3,ak⟩:=eR (λq=>M1 q\/((W2:Nat)<=q/\q<(S:Nat)));have j3:J (gP l f k B 0) M3 S:=by rw[<-ak];exact hJ.grow j2 ab
  have b6:∀q,M1 q->M3 q:=λq h=>by rw[<-ak];exact .inl h
  have aL:∀q,M3 q->q<(S:Nat):=λq h=>by
   have e1:=y.size;have e2:=ab.size;rw[<-ak]at h;obtain h|h:=h
   .have:=db q h;omega
   .exact h.2
  have d4:Boxed S bA 3 (qI k):=(ab.block _ (pV a2)).trans a2;have dn:Boxed S bO 22 (aA N B.length co):=(ab.block _ (pV bl)).trans bl;have dm:Boxed S bL 23 (aA R l.length c):=(ab.block _ (pV a3)).trans a3;have dp:Boxed S W 478 (aD (.yield Y) #[] #[]):=(ab.block _ (pV bm)).trans bm;have cA:eP S R l:=a6.later ab;have cL:eS kI S N B:=bu.later ab;have c8:∀ad,pk=some ad->mJ (eO l k)≠[]->M3 ad.block:=λad e af=>by
   rw[<-ak];refine .inr ⟨de ad e,?_⟩;obtain h|⟨b,bg,h,hlt,_⟩:=b1
   .exact absurd h af
   .rw[h]at e;cases e;exact hlt
  have d1:(W:Nat)+1<=(S:Nat):=by have e1:=y.size;have e2:=ab.size;omega
  have ae:∀q,u q->M3 q:=λq h=>b6 q (ag q h);clear a0 cX az ay c2 bi bk bj br bt a2 bl a3 bm a6 bu c0 c1 CK j2 ab y hR hy hK ak aa ax;obtain⟨m,b2⟩:=eR ((eO l k).length);rw[b2];refine wpIn_loop (λa V=>∃(j:Nat)(ds:List Deferred)(u5 u6 ce cf cg ch ci cj cl cm cn cp cq cr bh:aT),
   a={tmps:=#[aD (.yield Y) #[] #[],aE (some ⟨bA,0,none⟩),aE (some ⟨bO,0,none⟩),aE (some ⟨bL,0,none⟩),aE (some ⟨W,0,none⟩),u5,u6,aY,aY,aD (.yield Y) #[] #[],qI k,aA N B.length co,aG true,aG false,aA R l.length c,qI k,aA pk m ck,qI m,qI j,ce,cf,cg,ch,ci,cj,cl,cm,cn,cp,cq,cr,aY,aY,aY,aY,aY,aY,aY,bh],defers:=ds}/\
   j<=m/\yF S ds V/\J (gP l f k B j) M3 V/\eZ (λq=>¬M3 q) S V) (λa _=>m-(aW (a.tmps.getD 18 aY)).toNat) ?_ ?_
  .exact⟨0,[],_,_,_,_,_,_,_,_,_,_,_,_,_,_,_,rfl,kU _,.nil _,j3,eZ.refl _ _⟩
  rintro a V⟨j,ds,u5,u6,ce,cf,cg,ch,ci,cj,cl,cm,cn,cp,cq,cr,bh,rfl,hj,bb,bo,ah⟩;by_cases hlt:j<m
  case neg=>obtain rfl:j=m:=zO;gi_wp2;exact vS (λV=>J (gP l f k B j) M3 V) (λV D h hD hd=>hJ.put _ h hd rfl (by omega)) (λV h=>⟨_,iU rfl _ _ _,⟨_,rfl⟩,.inl (hJ.less (by rw[<-b2,aIK]at h;exact h) ae)⟩) ds V bb bo
  have ai:∀b,M3 b->V.heap[b]?=S.heap[b]?:=λb h=>ah.block b (aL b h) (λhn=>hn h);have xL:Boxed V bL 23 (aA R l.length c):=(ai _ (ae _ mL)).trans dm;have xO:Boxed V bO 22 (aA N B.length co):=(ai _ (ae _ mO)).trans dn;have cE:eP V R l:=cA.kept ah.size λad e h=>ai _ (ae _ (mn ad e));have cP:eS kI V N B:=lH cL ah.size λad e af h=>ai _ (ae _ (mo ad e af));have cy:eS kI V pk (mJ (eO l k)):=lH b1 ah.size λad e af h=>ai _ (c8 ad e af);obtain⟨q,hq⟩:∃q,(eO l k)[j]?=some q:=⟨_,lJ (by omega)⟩;obtain⟨dz,e',df,_⟩:=oT he q (iG hq);obtain⟨b,bg,vs,rfl,du,dh,a8⟩:=cy.at (i:=j) (x:=(q:Int)) (by unfold mJ;rw[oY,hq];rfl);obtain rfl:vs=[qI q]:=dh;have a8:=eG.one.1 a8;rw[show j*kI.k=j from cD j]at a8;have ay:=xA xL;have az:=xA xO;gi_wp2;have dA:B.length<=998:=zO;have s0:=rU ay;have s1:=rU az;have CC:=eC (λU(h:Bl V U)=>MZ N co B U (cP.later h) (by omega));have cV:=jX V;have c3:V.drew.heap.size=(V:Nat):=rfl;have bx:eG (V.alloc (aK #[qI (j:Int)] 3)).drew V 0 [qI (j:Int)]:=λi v h=>eG.new V [qI (j:Int)] 3 i v h;refine Code.wpIn_mono (Q:=Exit.then _ (λ_ _ _=>False)) (λe a w h=>by cases e<;>first|exact h|exact h.elim) ?_;refine wpIn_wide.2 ?_;clear ay az;go_region_held_law(λU=>Bl V U) (first|(with_reducible assumption)|go_grown) (first
   |(go_at_call 263;refine(CC _ (by first|(with_reducible assumption)|go_grown)).mono ?_;rintro e4 w4⟨v4,rfl,bd,a7⟩;obtain⟨dv,dg⟩:=oO (by first|(with_reducible assumption)|go_grown) a7)
   |(go_at_call 328;refine(S8 _ _ _ _ _ _ _ _).mono ?_;rintro e O⟨rfl,d2,bv,dj,dl,dk⟩;obtain⟨am,dT⟩:=oO a4 bv)
   |(refine iS (K:=kI) (E:=3) (o:=⟨some 29,_,_,_,_,_⟩) rV rfl (.tmp 26) (.tmp 28) (by rfl) (V:Nat) _ B (by rfl) (by first|exact eD.mono bd (by first|exact eX _|(simp;done)|(simp;omega))|exact eD.mono (eD.later bd (fL _ _)) (by first|exact eX _|(simp;done)|(simp;omega))) _ (j:Int) [qI j] rfl (by rfl) (by first|exact eG.new _ _ _|exact bx.below a7 (by show(V:Nat)<(V.alloc _).heap.size;simp)) (by omega) (by first|exact dg|(simp;omega)) (λh=>h) ?_;intro v5 w5 be c5 bw;obtain⟨g5,a5,rfl⟩:=be.form;have cS:Bl V w5:=(by refine Below.trans ?_ bw;first|(with_reducible assumption)|go_grown);have a4:=eC cS))
  all_goals
   have B5:=a4.out;obtain⟨a',c',bz,da,cW⟩:=be.ls;clear bd a7 c5 bw be a4 CC s0 s1 cV c3;have ba:(B++[(j:Int)]).length=B.length+1:=by simp
   rw[ba]at bz;obtain⟨rfl,_,rfl⟩:some ⟨g5,0,none⟩=a'/\B.length+1=B.length+1/\a5=c':=by cases bz;exact⟨rfl,rfl,rfl⟩
   have b5:=B5.size;have z3:=ah.size;obtain⟨M4,al⟩:=eR (λr=>M3 r\/((V:Nat)<=r/\r<(O:Nat)));have au:∀r,M3 r->M4 r:=λr h=>by rw[<-al];exact .inl h
   have a1:∀r,(V:Nat)<=r->r<(O:Nat)->M4 r:=λr h h'=>by rw[<-al];exact .inr ⟨h,h'⟩
   have cd:∀r,M4 r->r<(O:Nat):=λr h=>by
    rw[<-al]at h;obtain h|h:=h
    .have:=aL r h;omega
    .exact h.2
   have cx:J (gP l f k B j) M4 O:=by rw[<-al];exact hJ _ M3 _ V O bo (eZ.of am) (λr h=>h)
   have c4:=cW _ rfl;simp only at c4;have cB:eP O R l:=cE.later am;clear al
  all_goals clear bx
  all_goals gi_wp2
  all_goals first
   |(obtain⟨cs,ar⟩:∃z,Value.slice (some ⟨w4,0,none⟩) 1 1=z:=⟨_,rfl⟩;rw[ar];clear ar)
   |(obtain⟨cs,ar⟩:∃z,Value.slice (some ⟨V,0,none⟩) 1 1=z:=⟨_,rfl⟩;rw[ar];clear ar)
  all_goals
   have cv:AY (λ_ _=>False) O (λ(Z:List (Nat×List Int))M U=>J (gP l f k B j++Z) M U/\eZ (λr=>¬M3 r) S U/\∀(r:Nat)(o:Obj),r<(O:Nat)->Y+1<=r->O.heap[r]?=some o->o.isCells=false->U.heap[r]?=some o):=λZ M M' U U'⟨h1,h2,h3⟩hc bc=>by
    refine⟨hJ _ M M' U U' h1 (hc.mono λr _ hr=>?_) bc,h2.trans (hc.mono λr _ hr dc=>?_),λr o hr hl ho hx=>?_⟩
    .obtain h|⟨h,h'⟩:=hr
     .exact h.elim
     .exact .inr ⟨by omega,h'⟩
    .obtain h|⟨h,h'⟩:=hr
     .exact h
     .have:=aL r dc;omega
    .have e1:=h3 r o hr hl ho hx;refine(hc.block r (fB.1 e1).1 λhy=>?_).trans e1;obtain h|⟨h,_⟩:=hy
     .exact h
     .omega
   have cw:∀cc:Code,AY (λ_ _=>False) O (λ(Z:List (Nat×List Int))M U=>cc=.ret/\Jx (gP l f k B j++Z) M U/\∀(r:Nat)(o:Obj),r<(O:Nat)->Y+1<=r->O.heap[r]?=some o->o.isCells=false->U.heap[r]?=some o):=λcc Z M M' U U'⟨h0,h1,h3⟩hc bc=>by
    refine⟨h0,av _ M M' U U' h1 (hc.mono λr _ hr=>?_) bc,λr o hr hl ho hx=>?_⟩
    .obtain h|⟨h,h'⟩:=hr
     .exact h.elim
     .exact .inr ⟨by omega,h'⟩
    .have e1:=h3 r o hr hl ho hx;refine(hc.block r (fB.1 e1).1 λhy=>?_).trans e1;obtain h|⟨h,_⟩:=hy
     .exact h
     .omega
   have c7:=ih q e' df (by omega) (B++[(j:Int)]) (some ⟨g5,0,none⟩) a5 ((w5:Nat)+1) ((w5:Nat)+2) (w5:Nat) M4 O (by rw[ba];omega) dj (by rw[ba];exact dl) dk (da.later bv) (λad e _=>by cases e;show n0<=g5;omega) (by have:=am.size;omega) cB (a1 _ (by omega) (by omega)) (a1 _ (by omega) (by omega)) (a1 _ (by omega) (by omega)) (λad e _=>by cases e;exact a1 _ (by show(V:Nat)<=g5;omega) (by show g5<_;omega)) (λad e=>au _ (ae _ (mn ad e))) cd;have MK:∀(D:Nat)(U:aS),(O:Nat)<=D->U.heap[D]?=some (aM (some []))->(∀(r:Nat)(o:Obj),r<(O:Nat)->Y+1<=r->O.heap[r]?=some o->o.isCells=false->U.heap[r]?=some o)->yF S ({target:=.collected D,args:=#[]}::ds) U:=λD U hD hK h3=>by
    refine .cons D ds U hK (by omega) (bb.on λD' o h1 h2 h5 _=>h3 D' o ?_ (by omega) ?_ h5) λd hd he=>?_
    .have:=(fB.1 h2).1;omega
    .exact(am.block _ (fB.1 h2).1).trans h2
    .have:=bb.lt d hd D he;omega
   refine aFc (n:=0) (gf:=353) (lb:=#[aE (some ⟨(w5:Nat)+1,0,none⟩),aE (some ⟨(w5:Nat)+2,0,none⟩),aE (some ⟨w5,0,none⟩)]) (A:=λ_ _=>False) (M0:=M4) (Enc:=aIG n0) rfl (l8 func353 (by kernel_rfl) rfl)
    c7 cd (λ_ _ h=>h.elim) (λx vs U⟨_,_,h,_⟩=>by rw[h];rfl) (λx vs U U'⟨a,ca,h,hh,c6⟩g=>⟨a,ca,h,g.ints hh,c6⟩)
    (λ(Z:List (Nat×List Int))M U=>J (gP l f k B j++Z) M U/\eZ (λr=>¬M3 r) S U/\∀(r:Nat)(o:Obj),r<(O:Nat)->Y+1<=r->O.heap[r]?=some o->o.isCells=false->U.heap[r]?=some o)
    (λcc(Z:List (Nat×List Int))M U=>cc=.ret/\Jx (gP l f k B j++Z) M U/\∀(r:Nat)(o:Obj),r<(O:Nat)->Y+1<=r->O.heap[r]?=some o->o.isCells=false->U.heap[r]?=some o)
    cv cw ⟨by rw[EL];exact cx,ah.then am,λr o _ _ ho _=>ho⟩
    (λU x vs=>{tmps:=#[aD (.yield Y) #[] #[],aE (some ⟨bA,0,none⟩),aE (some ⟨bO,0,none⟩),aE (some ⟨bL,0,none⟩),aE (some ⟨W,0,none⟩),qI j,qI q,vs.getD 0 aY,vs.getD 1 aY,aD (.yield Y) #[] #[],qI k,aA N B.length co,aG true,aG false,aA R l.length c,qI k,aA (some ⟨b,bg,none⟩) m ck,qI m,qI j,aG true,qI j,aE (some ⟨b,bg+j,none⟩),qI q,aA R l.length c,qI q,aA N B.length co,v4,qI j,cs,aA (some ⟨g5,0,none⟩) (B.length+1) a5,aD (.func 353) #[] #[aE (some ⟨(w5:Nat)+1,0,none⟩),aE (some ⟨(w5:Nat)+2,0,none⟩),aE (some ⟨w5,0,none⟩)],vs.getD 0 aY,vs.getD 1 aY,aY,aY,aY,aY,aY,bh],defers:=[]})
    (λU _ _=>U) (λU _ _=>iL _ _) ?_ ?_ ?_ ?_
   .rintro lq x vs U K⟨a,ca,rfl,_⟩hK;gi_wp2
    first|exact hK|simpa using hK
   .rintro lq Z x vs M U U2⟨i1,i2,i3⟩dt bp⟨a,ca,rfl,c9⟩bf dF dE d3;have X:=hY (gP l f k B j++Z) x #[qI x.1,aA a x.2.length ca] M U2 i1 (λr h=>bp r (au r (ae r h))) ⟨a,ca,rfl,c9⟩ (by rw[jH];exact aDf hq bf);obtain⟨fn,di,ct,cu,hy,hR⟩:=YieldAt.round (l':=lq) (m:=0) X;have b3:M3 (W:Nat):=b6 _ cb;have dr:Boxed U2 W 478 (aD (.yield Y) #[] #[]):=(i2.block _ (aL _ b3) (λh=>h b3)).trans dp;have dw:=xA dr
    try dsimp only
    gi_wp2;refine⟨rfl,hR.mono ?_⟩;have b0:Y+1<=(O:Nat):=zO;rintro e U3(⟨rfl,k1,k2⟩|⟨rfl,k1,k2⟩)
    .gi_wp2;refine⟨k2.mono (λ_ h=>h) b0,by rw[<-jH];exact k1,i2.trans ⟨k2.os,k2.tape,k2.output,k2.size,λr hr hn=>k2.own r (bp r (au r (Classical.not_not.1 hn))) hr⟩,λr o h1 h2 h3 h4=>k2.noc r o h2 (i3 r o h1 h2 h3 h4) h4⟩
    .gi_wp2;exact⟨k2.mono (λ_ h=>h) b0,rfl,by rw[<-jH];exact k1,λr o h1 h2 h3 h4=>k2.noc r o h2 (i3 r o h1 h2 h3 h4) h4⟩
   .rintro D U hD⟨i1,i2,i3⟩hK;have mk:=MK D U hD hK i3
    try dsimp only
    gi_wp2;refine⟨⟨j+1,_,_,_,_,_,_,_,_,_,_,_,_,_,_,_,_,rfl,by omega,mk,hJ.less (M:=M4) (by rw[ZC hq];exact i1) au,i2⟩,?_⟩;simp[aW];omega
   .rintro D cc Z U hD bf⟨rfl,i1,i3⟩hK;have mk:=MK D U hD hK i3
    try dsimp only
    gi_wp2;exact vS (λU=>Jx (gP l f k B j++Z) M4 U) (λU D h hD hd=>av.put _ h hd rfl (by omega)) (λU h=>⟨_,iU rfl _ _ _,⟨_,rfl⟩,.inr ⟨_,aDf hq bf,av.less h (λr h=>au _ (ae r h))⟩⟩) _ U mk i1
end
section
attribute [local go_sem] Oper.semAt_some
def ZX(d:Nat)(o:Option (List Int))(w':aS)(e:Ending):Prop:=match o with
 |none=>e=aO (aF #[aA none 0 0,aG false])
 |some L=>∃a c,e=aO (aF #[aA a L.length c,aG true])/\eS kI w' a L/\∀ad,a=some ad->L≠[]->d<=ad.block
theorem aAZ{d:List (Nat×List Int)}{x:Nat×List Int}{l:List (Nat×List Int)}(f:d++[x]<+:l)(g:x.1=k)(e:∀y∈d,y.1≠k):(l.find? λy=>y.1==k)=some x:=by
 obtain⟨r,rfl⟩:=f;rw[jH,List.find?_append];have:(d.find? λy=>y.1==k)=none:=by rw[List.find?_eq_none];intro y h;simpa using e y h
 rw[this];simp[g]
theorem aD4{l:List (Nat×List Int)}(d:∀y∈l,y.1≠k):(l.find? λy=>y.1==k)=none:=by rw[List.find?_eq_none];intro y e;simpa using d y e
theorem XG(h:b<B):¬May (λ_ _=>False) B M W b:=λhm=>by
 obtain h|⟨h,_⟩:=hm
 .exact h
 .omega
theorem BE{q:Tmp}{t u:aX}(h:fn.results=#[.cell p t,.cell q u])(d:Array aT)(P:bB)(w:aS):
  (results fn d).run P w=((asAddr (d.getD p aY)).run P w).andThen λa f=>((loadVar t a).run P f).andThen λv g=>((asAddr (d.getD q aY)).run P g).andThen λb i=>((loadVar u b).run P i).andThen λe j=>.ok (aF #[v,e]) j:=by simp only[results,h];simp[Sem.run_bind,Result.andThen]
theorem YY{o:Nat}{t:aX}{u:aT}(h:Boxed W b t v)(d:W.cell? (b,o)=some u)(e:u≠v):False:=by
 unfold World.cell? at d;rw[show W.heap[((b,o):Addr).block]?=_ from h]at d;simp at d;cases o with
 |zero=>simp at d;exact e d.symm
 |succ o=>simp at d
theorem AZ{q:Tmp}(h:fn.results=#[.cell p 22,.cell q 4]){B:Array aT}{a:Nat}{z:Bool}(M:Boxed W a 22 v)(N:Boxed W b 4 (aG z))(D:B.getD p aY=qP a 0)(J:B.getD q aY=qP b 0)(S:∃x n c,v=aA x n c):
  (results fn B).run prog W=.ok (aF #[v,aG z]) W:=by have O:=M.cell;have R:=N.cell;obtain⟨x,n,c,rfl⟩:=S;rw[BE h,D,J];simp[asAddr,loadVar,go_sem,O,R]
theorem aGb(S:Option Addr)(c:Nat)(l:List Nd)(k:Nat)(w:aS)(hN:eP w S l)(hm:l.length<=999)(he:iD l 0=some l.length):
  qK 284 #[aA S l.length c,qI k] w λe w'=>ZX w (ZU l k) w' e/\Bl w w':=by
 have hv:ZU l k=((kZ l l.length 0 []).find? λx=>x.1==k).map (·.2):=by unfold ZU;rw[eE (by rw[show rZ l 0=(l.length:Int)from mK (k:=0) he];simp)]
 rw[hv];clear hv;refine(hH (n:=2)).1 ?_;refine xI func284 rfl trivial ?_ rfl;simp only[ntmps284,PO,iW,rP,Nat.reduceAdd,Nat.reduceSub,XO,VA,XZ,WO,uS,rO];obtain⟨W,hW⟩:=eR (((w.alloc (aK #[qI k] 3)).alloc (aK #[qN] 22)).alloc (aK #[aG false] 4));have ae:Bl w W:=by rw[<-hW];exact((fL w _).alloc zS _).alloc zT _
 have aj:W=(w:Nat)+3:=by rw[<-hW];simp
 have x3:Boxed W w 3 (qI k):=by rw[<-hW];exact((oI w 3 (qI k)).alloc _).alloc _
 have x4:Boxed W ((w:Nat)+1) 22 qN:=by have:=(oI (w.alloc (aK #[qI k] 3)) 22 qN).alloc (aK #[aG false] 4);rw[fO,hW]at this;exact this
 have x5:Boxed W ((w:Nat)+2) 4 (aG false):=by have:=oI ((w.alloc (aK #[qI k] 3)).alloc (aK #[qN] 22)) 4 (aG false);rw[fO,fO,hW]at this;exact this
 have CE:qK 173 #[aA S l.length c,qI 0] W (Rt (qI (l.length:Nat)) W):=by have:=nQ S c l 0 W (hN.later ae) zO;rwa[show rZ l 0=(l.length:Int)from mK (k:=0) he]at this
 have be:=hN.later ae;obtain⟨n,hn⟩:=eR l.length;rw[hn]at CE|-;have e0:((n:Int) !=(n:Int))=false:=by simp
 have HW:=eC aj;have HX:=eC (⟨x3,x4,x5⟩:Boxed W w 3 (qI k)/\Boxed W ((w:Nat)+1) 22 qN/\Boxed W ((w:Nat)+2) 4 (aG false));clear x3 x4 x5 aj;gi_wp2_with(first|(rw[hW])|(refine⟨trivial,?_⟩;gi_at_call 173;refine(hH.2 CE).mono ?_;rintro e Z⟨rfl,al⟩)|(refine⟨trivial,?_⟩;gi_at_call 328;refine(hH.2 (S8 _ _ _ _ _ _ _ _)).mono ?_;rintro e N⟨rfl,bj,ax,a6,a8,a7⟩));obtain⟨aq,ar,au⟩:=HX.out;have aj:=HW.out;have ac:=fC al ax;have x3:=(ac.block _ (pV aq)).trans aq;have x4:=(ac.block _ (pV ar)).trans ar;have x5:=(ac.block _ (pV au)).trans au;have af:=fC ae ac;have z1:=al.size;subst hn;have ao:0<l.length:=by have:=jW he;omega
 have a3:∀ad,S=some ad->ad.block<w:=λad e=>by
  obtain h|⟨b,a5,h,hlt,_⟩:=hN
  .rw[h]at ao;exact absurd ao zS
  .rw[h]at e;cases e;exact hlt
 have a1:=aBY w S c l hm l.length 0 _ he zO [] none 0 ((Z:Nat)+1) ((Z:Nat)+2) Z (λr=>r<N/\r≠w+1/\r≠w+1+1) N (kU _) a6 a8 a7 (eS.nil _ _ _) (λad e _=>by cases e) af.size (hN.later af) ⟨zO,zO,zO⟩ ⟨zO,zO,zO⟩ ⟨zO,zO,zO⟩ (λad e _=>by cases e) (λad e=>by have:=a3 ad e;exact⟨zO,zO,zO⟩) (λr h=>h.1);have av:AY (λ_ _=>False) N (λ(R:List (Nat×List Int))M U=>Bl w U/\(U.heap[(w:Nat)]?=N.heap[(w:Nat)]?/\U.heap[(w:Nat)+1]?=N.heap[(w:Nat)+1]?/\U.heap[(w:Nat)+1+1]?=N.heap[(w:Nat)+1+1]?)/\(¬M ((w:Nat)+1)/\¬M ((w:Nat)+1+1)/\N<=(U:Nat))/\∀y∈R,y.1≠k):=λR M M' U U'⟨h1,⟨h2,h3,h4⟩,⟨h5,h6,h7⟩,h8⟩O ai=>by
  have hz:=O.size;refine⟨h1.trans (O.below zO λr B=>?_),⟨(O.block _ zO (XG zO)).trans h2,(O.block _ zO (XG zO)).trans h3,(O.block _ zO (XG zO)).trans h4⟩,⟨λh=>?_,λh=>?_,zO⟩,h8⟩
  .obtain h|⟨h,_⟩:=B
   .exact h.elim
   .omega
  .obtain h|h:=ai _ h
   .exact h5 h
   .omega
  .obtain h|h:=ai _ h
   .exact h6 h
   .omega
 have aw:∀cc:Code,AY (λ_ _=>False) N (λ(R:List (Nat×List Int))M U=>cc=.ret/\Bl w U/\N<=(U:Nat)/\∃j x a J,R=j++[x]/\x.1=k/\(∀y∈j,y.1≠k)/\Boxed U ((w:Nat)+1) 22 (aA a x.2.length J)/\Boxed U ((w:Nat)+1+1) 4 (aG true)/\eS kI U a x.2/\∀ad,a=some ad->x.2≠[]->w<=ad.block):=λcc R M M' U U'⟨h0,h1,bk,j,x,a,J,h2,h3,h4,h5,h6,h7⟩O ai=>by
  have hz:=O.size;have hg:fD N U U':=⟨O.os,O.tape,O.output,O.size,λr o ho B=>(O.block r (fB.1 ho).1 λhm=>by
   obtain h|⟨h,o',h',h''⟩:=hm
   .exact h
   .obtain B|B:=B
    .omega
    .rw[ho]at h';cases h';rw[B]at h'';cases h'').trans ho⟩;exact⟨h0,h1.trans (O.below zO λr B=>by
   obtain h|⟨h,_⟩:=B
   .exact h.elim
   .omega),zO,j,x,a,J,h2,h3,h4,hg.boxed h5,hg.boxed h6,hg.ints h7.1,h7.2⟩
 refine aFc (n:=0) (gf:=353) (lb:=#[qP ((Z:Nat)+1) 0,qP ((Z:Nat)+2) 0,qP Z 0]) (A:=λ_ _=>False) (Enc:=aIG w) rfl (l8 func353 zK rfl)
  a1 (λr h=>h.1) (λ_ _ h=>h.elim) (λx X U⟨_,_,h,_⟩=>by rw[h];rfl) (λx X U U'⟨a,J,h,hh,a0⟩g=>⟨a,J,h,g.ints hh,a0⟩)
  _ _ av aw ⟨af,⟨rfl,rfl,rfl⟩,⟨λh=>h.2.1 rfl,λh=>h.2.2 rfl,eX _⟩,λy hy=>by cases hy⟩
  (λU x X=>{tmps:=#[aA S l.length c,qI k,aY,qP w 0,qP ((w:Nat)+1) 0,qP ((w:Nat)+1+1) 0,X.getD 0 aY,X.getD 1 aY,aA S l.length c,qI (l.length:Nat),aA S l.length c,qI (l.length:Nat),aG false,aA S l.length c,aD (.func 353) #[] #[qP ((Z:Nat)+1) 0,qP ((Z:Nat)+2) 0,qP Z 0],X.getD 0 aY,X.getD 1 aY,aY,aY,aY,aY],defers:=[]})
  (λU _ _=>U) (λU _ _=>iL _ _) ?_ ?_ ?_ ?_
 .rintro lq x X U K⟨a,J,rfl,_⟩hK;gi_wp2
  first|exact hK|simpa using hK
 .rintro lq R x X M U U2⟨f,⟨i2,i3,i4⟩,⟨i5,i6,i7⟩,i8⟩bd bc⟨a,J,rfl,ah⟩ap bi bh bl;have y3:Boxed U2 w 3 (qI k):=i2.trans x3;have u:Boxed U2 ((w:Nat)+1) 22 qN:=i3.trans x4;have Y:Boxed U2 ((w:Nat)+1+1) 4 (aG false):=i4.trans x5;have c3:=y3.cell;have c4:=u.cell;have c5:=Y.cell;have f4:=u.frozen;have f5:=Y.frozen
  try dsimp only
  by_cases hxk:x.1=k
  .have e1:((x.1:Int)==(k:Int))=true:=by simp[hxk]
   have bb:=(Y.other (B':=(w:Nat)+1) zO (aA a x.2.length J)).frozen;have ba:=(Y.other (B':=(w:Nat)+1) zO (aA a x.2.length J)).cell;have aL:Y8 N M (λ(R:List (Nat×List Int))M U=>Bl w U/\(U.heap[(w:Nat)]?=N.heap[(w:Nat)]?/\U.heap[(w:Nat)+1]?=N.heap[(w:Nat)+1]?/\U.heap[(w:Nat)+1+1]?=N.heap[(w:Nat)+1+1]?)/\(¬M ((w:Nat)+1)/\¬M ((w:Nat)+1+1)/\N<=(U:Nat))/\∀y∈R,y.1≠k)
     (λcc(R:List (Nat×List Int))M U=>cc=.ret/\Bl w U/\N<=(U:Nat)/\∃j x a J,R=j++[x]/\x.1=k/\(∀y∈j,y.1≠k)/\Boxed U ((w:Nat)+1) 22 (aA a x.2.length J)/\Boxed U ((w:Nat)+1+1) 4 (aG true)/\eS kI U a x.2/\∀ad,a=some ad->x.2≠[]->w<=ad.block) (R++[x]) U2 .ret {tmps:=#[],defers:=[]} (qS (qS U2 ((w:Nat)+1,0) (aA a x.2.length J)) ((w:Nat)+1+1,0) (aG true)):=by
    have aa:eZ (λr=>r=w+1\/r=w+1+1) U2 (qS (qS U2 ((w:Nat)+1,0) (aA a x.2.length J)) ((w:Nat)+1+1,0) (aG true)):=((eZ.refl _ _).set (.inl (.inl rfl)) _).set (.inl (.inr rfl)) _
    refine⟨tD.chg aa (λr B=>by obtain rfl|rfl:=B;exact i5;exact i6) (λr B hB=>zO),rfl,f.trans (aa.below f.size (λr B=>zO)),by have:=aa.size;omega,R,x,a,J,rfl,hxk,i8,((u.set _).other zO _),((Y.other zO _).set _),lH ah.1 aa.size λad e a2 hl=>aa.block _ hl λB=>?_,ah.2⟩
    obtain⟨z,hz⟩:∃z,x.2[0]?=some z:=by
     cases hx2:x.2 with
     |nil=>exact absurd hx2 a2
     |cons z r=>exact⟨z,rfl⟩
    obtain⟨b,a5,X,ak,_,a4,az⟩:=ah.1.at hz
    obtain rfl:X=[qI z]:=a4
    have am:=eG.one.1 az
    rw[e]at ak
    cases ak
    obtain B|B:=B
    .exact YY u (by rw[<-B];exact am) zS
    .exact YY Y (by rw[<-B];exact am) zS
   gi_wp2;exact aL
  .have e1:((x.1:Int)==(k:Int))=false:=zT;gi_wp2;exact⟨tD.refl _ _ _,f,⟨i2,i3,i4⟩,⟨i5,i6,i7⟩,λy hy=>by
    obtain hy|hy:=wM.1 hy
    .exact i8 y hy
    .rw[rD.1 hy];exact hxk⟩
 .rintro D U hD⟨f,⟨i2,i3,i4⟩,⟨i5,i6,i7⟩,i8⟩hK;have u:Boxed U ((w:Nat)+1) 22 qN:=i3.trans x4;have Y:Boxed U ((w:Nat)+1+1) 4 (aG false):=i4.trans x5;have c4:=u.cell;have c5:=Y.cell;have f4:=u.frozen;have f5:=Y.frozen
  try dsimp only
  gi_wp2;have ag:(qS (qS U ((w:Nat)+1,0) qN) ((w:Nat)+1+1,0) (aG false)).heap[D]?=some (aM (some [])):=(pU _ ((w:Nat)+1+1,0) _ D (by simp only;omega)).trans ((pU _ ((w:Nat)+1,0) _ D (by simp only;omega)).trans hK);have aa:eZ (λr=>r=w+1\/r=w+1+1) U (qS (qS U ((w:Nat)+1,0) qN) ((w:Nat)+1+1,0) (aG false)):=((eZ.refl _ _).set (.inl (.inl rfl)) _).set (.inl (.inr rfl)) _;have g4:Boxed (qS (qS U ((w:Nat)+1,0) qN) ((w:Nat)+1+1,0) (aG false)) ((w:Nat)+1) 22 qN:=(u.set _).other zO _;have g5:Boxed (qS (qS U ((w:Nat)+1,0) qN) ((w:Nat)+1+1,0) (aG false)) ((w:Nat)+1+1) 4 (aG false):=(Y.other zO _).set _;have ay:Bl w (qS (qS U ((w:Nat)+1,0) qN) ((w:Nat)+1+1,0) (aG false)):=f.trans (aa.below f.size (λr B=>zO));generalize(qS (qS U ((w:Nat)+1,0) qN) ((w:Nat)+1+1,0) (aG false))=U' at*;have ab:fD D U' (U'.putObj D (aM none)):=fD.put _ (eX _) ag rfl;refine⟨zS,.inl ⟨_,_,rfl,E6 ag,?_⟩⟩;refine⟨_,AZ rfl (ab.boxed g4) (ab.boxed g5) rfl rfl ⟨_,_,_,rfl⟩,?_,ay.trans (belowK_b (w:=w) (eX _) U' D _ _ zO ag rfl rfl)⟩;rw[aD4 i8];exact rfl
 .rintro D cc R U hD ap⟨rfl,f,i2,j,x,a,J,rfl,i3,i4,i5,i6,i7⟩hK
  try dsimp only
  gi_wp2;have bf:D≠w+1:=zO;have bg:D≠w+1+1:=zO;have ab:fD D U (U.putObj D (aM none)):=fD.put _ (eX _) hK rfl;refine⟨zS,.inl ⟨_,_,rfl,E6 hK,?_⟩⟩;refine⟨_,AZ rfl (ab.boxed i5) (ab.boxed i6) rfl rfl ⟨_,_,_,rfl⟩,?_,f.trans (belowK_b (w:=w) (eX _) U D _ _ zO hK rfl rfl)⟩;rw[aAZ ap i3 i4];exact⟨a,J,rfl,ab.ints i7.1,i7.2⟩
end
theorem LP(x y:Int):Lib.compareInt x y=sE x y:=by unfold Lib.compareInt sE;rfl
theorem O7(x y:Int)(w:aS):qK 79 #[qI x,qI y] w λe w'=>e=aO (qI (sE x y))/\w'=w:=by have:=cmp_Compare_int x y w;rwa[LP]at this
theorem aFA{e:List Int}{a b:Int}(j:d[k]?=some a)(m:e[k]?=some b):B7 (d.drop k) (e.drop k)=if sE a b≠0 then sE a b else B7 (d.drop (k+1)) (e.drop (k+1)):=by obtain⟨f,g⟩:=gX.1 j;obtain⟨h,i⟩:=gX.1 m;rw[tL f,tL h,g,i];rfl
theorem aDI{xs ys:List Int}(h:k=min xs.length ys.length):B7 (xs.drop k) (ys.drop k)=sE xs.length ys.length:=by
 obtain hl|hl|hl:=Nat.lt_trichotomy xs.length ys.length
 .have d:k=xs.length:=zO;subst d;rw[List.drop_length,tL hl];unfold sE;rw[eI zO];rfl
 .have d:k=xs.length:=zO;rw[d,List.drop_length,hl,List.drop_length];unfold sE;rw[eE zO,eE zO];rfl
 .have d:k=ys.length:=zO;subst d;rw[List.drop_length,tL hl];unfold sE;rw[eE zO,eI zO];rfl
theorem aDd(pa pb:Option Addr)(ca cb:Nat)(B D:List Int)(w:aS)(hx:eS kI w pa B)(hy:eS kI w pb D)(hm:B.length<=1000000)(af:D.length<=1000000):
  qK 78 #[aA pa B.length ca,aA pb D.length cb] w (Rt (qI (B7 B D)) w):=by
 obtain⟨R,M⟩:=eR (B7 B D);obtain⟨m,aj⟩:=eR (min B.length D.length);have ai:min (B.length:Int) (D.length:Int)=(m:Int):=zO;rw[M];have f:=eC (λ(V:aS)(h:Bl w V)(k:Nat)(hk:k<m)=>show∃a b o u q,B[k]?=some a/\D[k]?=some b/\pa=some ⟨o,u,none⟩/\True/\qC V o (u+k) a/\∃N O,pb=some ⟨N,O,none⟩/\q=0/\V.cell? (qP N (O+k))=some b by
  have S:B[k]?=some B[k]:=lJ zO
  have W:D[k]?=some D[k]:=lJ zO
  obtain⟨o,u,vs,hp,J,aa,X⟩:=hx.at S
  obtain rfl:vs=[qI B[k]]:=aa
  have X:=eG.one.1 X
  rw[show k*kI.k=k from cD k]at X
  obtain⟨N,O,vs,ac,ab,aa,Y⟩:=hy.at W
  obtain rfl:vs=[qI D[k]]:=aa
  have Y:=eG.one.1 Y
  rw[show k*kI.k=k from cD k]at Y
  exact⟨_,_,o,u,0,S,W,hp,trivial,(h.cell (p:=(o,u+k)) J).trans X,N,O,ac,rfl,(h.cell (p:=(N,O+k)) ab).trans Y⟩);have HA:=eC (λ(k:Nat)a b(h1:B[k]?=some a)(h2:D[k]?=some b)=>aFA h1 h2);have HE:=eC (λ(k:Nat)(h:k=m)=>aDI (xs:=B) (ys:=D) (k:=k) zO);have H0:=eC (M);have ag:m<=B.length:=zO;have ah:m<=D.length:=zO;generalize B.length=n1 at*;generalize D.length=n2 at*;go_enter func78,ntmps78;go_wp2;go_loopw [12] (λi wr=>∃k:Nat,k<=m/\i=qI k/\B7 (B.drop k) (D.drop k)=R/\Bl w wr) (λi _=>m-(aW i).toNat)
 case atStart=>exact⟨0,zO,rfl,H0,iL _ _⟩
 case round=>
  obtain⟨k,hk,rfl,M,J⟩:=hrel;change Hid _ at M J;by_cases hlt:k<m
  .obtain⟨a,b,o,u,q,S,W,rfl,_,X,N,O,rfl,_,Y⟩:=f wr J k hlt;have HK:=eC (HA k a b S W);have s0:∀U,Bl wr U->U.cell? (o,u+k)=some a:=by intro U h;obtain⟨a1,b1,o1,u1,q1,j,x,g3,_,g4,_⟩:=f U (fC J h) k hlt;cases g3;rw[S]at j;cases j;exact g4
   have s1:∀U,Bl wr U->U.cell? (N,O+k)=some b:=by intro U h;obtain⟨a1,b1,o1,u1,q1,j,x,g3,_,g4,o2,u2,g5,_,g6⟩:=f U (fC J h) k hlt;cases g5;rw[W]at x;cases x;exact g6
   have k1:k<n1:=zO;have k2:k<n2:=zO;have ae:=jX wr;go_wp2;go_region_held3(λU=>Bl wr U) (first|(with_reducible assumption)|go_grown) ((go_at_call 79;refine(O7 _ _ _).mono ?_;rintro e3 w3⟨rfl,rfl⟩));by_cases hz:sE a b=0
   .have e0:(sE a b !=0)=false:=by simp[hz]
    have Z:=eC (show B7 (B.drop (k+1)) (D.drop (k+1))=R by rw[<-M,HK,eE (by simp[hz])]);have y:=J.drew;go_wp2;go_roundw
    case rel=>exact⟨k+1,zO,by go_num,Z,y⟩
    case measure=>simp[aW];omega
   .have e0:(sE a b !=0)=true:=by simpa using hz
    have Z:=eC (show sE a b=R by rw[<-M,HK,eI hz]);have y:=J.drew;go_wp2;go_ret;exact⟨by rw[Z];rfl,y⟩
  .obtain rfl:k=m:=zO;have HV:=eC (HE k rfl);rw[M]at HV;go_wp2_with(go_at_call 79;refine(O7 _ _ _).mono ?_;rintro e3 w3⟨rfl,rfl⟩);go_ret;exact⟨by rw[<-M,HE k rfl];rfl,J⟩
def aI9:Option Nat->Int
 |none=>-1
 |some k=>k
theorem OY{n:Int}(h:d[j]?=some n)(g:n<0\/((eO l k).length:Int)<=n):pG l k (d.drop j)=none:=by obtain⟨e,f⟩:=gX.1 h;rw[tL e,f];unfold pG;rw[eI g]
theorem aAq(h:d[j]?=some (n:Int))(hq:(eO l k)[n]?=some q):pG l k (d.drop j)=pG l q (d.drop (j+1)):=by
 obtain⟨e,f⟩:=gX.1 h;have:=(gX.1 hq).1;rw[tL e,f];conv=>lhs;unfold pG
 rw[eE zO];simp only[xC,hq]
theorem WP{path:List Int}(h:path.length<=j):pG l k (path.drop j)=some k:=by rw[D5 h];rfl
theorem aBb(J pb:Option Addr)(N cb:Nat)(l:List Nd)(B:List Int)(w:aS)(hN:eP w J l)(hP:eS kI w pb B)(hm:l.length<=999)(am:B.length<=1000000)(he:iD l 0=some l.length):
  qK 262 #[aA J l.length N,aA pb B.length cb] w (Rt (qI (aI9 (OH l B))) w):=by
 have D:OH l B=pG l 0 (B.drop 0):=by unfold OH;rw[eE (by rw[show rZ l 0=(l.length:Int)from mK (k:=0) he];simp)];rfl
 rw[D];obtain⟨R,hR⟩:=eR (pG l 0 (B.drop 0));rw[hR];have CE:=eC (show qK 173 #[aA J l.length N,qI 0] w (Rt (qI (l.length:Nat)) w) by
  have:=nQ J N l 0 w hN zO
  rwa[show rZ l 0=(l.length:Int)from mK (k:=0) he]at this);have CK:=eC (λ(V:aS)(h:Bl w V)(k e:Nat)(hk:iD l k=some e)=>show qK 227 #[aA J l.length N,qI k] V λe w'=>EC kI V (mJ (eO l k)) w' e/\Bl V w' by
  have:=yN J N l k V (hN.later h) zO
  rw[hk]at this
  simpa using this);have HR:=eC hR;have HE:=eC he;have HP:=eC hP;obtain⟨n,hn⟩:=eR l.length;obtain⟨m,ac⟩:=eR B.length;rw[hn]at CE CK|-;rw[ac]at am|-;have HM:=eC ac;go_enter func262,ntmps262;go_wp2;refine pSj ?_;go_wp2_with(go_at_call 173;refine CE.mono ?_;rintro e w1⟨rfl,ab⟩);go_step3;go_wp2;have ae:=eC ab;have au:=ab.size;go_loopw [5,16] (λq i wr=>∃j k e:Nat,j<=m/\i=qI j/\q=qI k/\iD l k=some e/\pG l k (B.drop j)=R/\Bl w wr) (λ_ i _=>m-(aW i).toNat)
 case atStart=>exact⟨0,0,_,zO,rfl,rfl,HE,HR,ae⟩
 case round=>
  obtain⟨j,k,e,hj,rfl,rfl,ai,hF,hb⟩:=hrel;have aa:=eC ai;have U:=eC hF;have S:=eC hb;by_cases hlt:j<m
  .obtain⟨v,D⟩:∃v,B[j]?=some v:=⟨_,lJ (by have:=HM.out;omega)⟩;obtain⟨b,aw,vs,rfl,ar,ap,Y⟩:=(HP.later S).at D;obtain rfl:vs=[qI v]:=ap;have Y:=eG.one.1 Y;rw[show j*kI.k=j from cD j]at Y;have W:=eC (CK wr S k e aa);have hK:(mJ (eO l k)).length=(eO l k).length:=by simp[mJ]
   generalize aj:(eO l k).length=y at*;have X:∀M,Bl wr M->Bl w M:=λM h=>fC S h;by_cases hn0:v<0
   .have x:=eC (OY (l:=l) (k:=k) D (.inl hn0));go_wp2_with(go_at_call 227;refine W.mono ?_;rintro e3 M⟨⟨pk,ck,rfl,f,_⟩,O⟩;rw[hK]);refine lM ?_;go_ret;exact⟨by rw[<-U,x];rfl,X _ O⟩
   have d0:decide (v<0)=false:=by simpa using hn0
   by_cases hn1:(y:Int)<=v
   .have x:=eC (OY (l:=l) (k:=k) D (.inr (by rw[aj];exact hn1)));go_wp2_with(go_at_call 227;refine W.mono ?_;rintro e3 M⟨⟨pk,ck,rfl,f,_⟩,O⟩;rw[hK]);refine lM ?_;go_ret;exact⟨by rw[<-U,x];rfl,X _ O⟩
   obtain⟨u,rfl⟩:=qJ (show 0<=v from zO);obtain⟨q,hq⟩:∃q,(eO l k)[u]?=some q:=⟨_,lJ zO⟩;have ah:=eC (aAq D hq);obtain⟨_,e',ao,_⟩:=oT aa q (iG hq);have ag:=eC ao;have ak:(mJ (eO l k))[u]?=some (q:Int):=by unfold mJ;rw[oY,hq];rfl
   have af:=eC ak;have hu:u<y:=zO;have d1:decide ((y:Int)<=(u:Int))=false:=zT;have d2:decide ((u:Int)<0)=false:=by simp
   go_wp2_with(go_at_call 227;refine W.mono ?_;rintro e3 M⟨⟨pk,ck,rfl,f,_⟩,O⟩;rw[hK];obtain⟨kb,av,aq,rfl,_,al,Z⟩:=f.at af;obtain rfl:aq=[qI q]:=al;have Z:=eG.one.1 Z;rw[show u*kI.k=u from cD u]at Z);go_roundw
   case rel=>exact⟨j+1,q,e',zO,by go_num,rfl,ag,by rw[<-U,ah],X _ O⟩
   case measure=>simp[aW];omega
  .obtain rfl:j=m:=zO;have HV:=eC (WP (l:=l) (k:=k) (path:=B) (j:=j) (by have:=HM.out;omega));go_wp2;refine lM ?_;go_ret;exact⟨by rw[<-U,HV];rfl,S⟩
def aCm{α:Type}(P:bB)(gf:Nat)(lb:Array aT)(Enc:α->Array aT->aS->Prop)(xs:List α)(A:(Nat->Prop)->Nat->Prop)(g:Nat->Prop)(w:aS):Prop:=
 ∀(l:Nat)(J:List α->(Nat->Prop)->aS->Prop)(W:aS),aV w w W->l<(W:Nat)->AY A (W:Nat) J->
  (∀h x vs M f,J h M f->(∀k,g k->M k)->Enc x vs f->h++[x]<+:xs->YieldAt Fence.wide 0 P l vs f λe d=>e=aO (aG true)/\J (h++[x]) M d/\tD M (l+1) f d)->
  J [] g W->CallsIn Fence.wide 1 P gf (#[aD (.yield l) #[] #[]]++lb) W λe d=>(∃v,e=aO v)/\J xs g d
def Z2{α:Type}(B:Nat)(M:Nat->Prop)(I:List α->(Nat->Prop)->aS->Prop)(xs:List α)(W:aS):Exit->Act->aS->Prop
 |.normal,_,W'=>tD M B W W'/\I xs M W'
 |_,_,_=>False
def aJW{α:Type}(S:aS->Prop)(P:bB)(gf:Nat)(lb:Array aT)(Enc:α->Array aT->aS->Prop)(xs:List α)(A:(Nat->Prop)->Nat->Prop)(h:Nat->Prop)(w:aS):Prop:=
 ∀(l:Nat)(J:List α->(Nat->Prop)->aS->Prop)(W:aS),aV w w W->l<(W:Nat)->AY A (W:Nat) J->(∀f M d,J f M d->S d)->
  (∀f x vs M g,J f M g->(∀k,h k->M k)->Enc x vs g->f++[x]<+:xs->YieldAt Fence.wide 0 P l vs g λe d=>e=aO (aG true)/\J (f++[x]) M d/\tD M (l+1) g d)->
  J [] h W->CallsIn Fence.wide 1 P gf (#[aD (.yield l) #[] #[]]++lb) W λe d=>(∃v,e=aO v)/\J xs h d
theorem aCR{α:Type}{assign body:Code}{a:Act}{S:aS->Prop}{A:(Nat->Prop)->Nat->Prop}
  (hg:a.eval g=aD (.func gf) #[] lb)(eg:∀ai w,(callFunc gf ai).run P w=.ok (.enter gf ai) w)
  {Enc:α->Array aT->aS->Prop}{xs:List α}(bi:aJW S P gf lb Enc xs A M0 w)(ae:∀k,M0 k->k<w.heap.size)(hA:∀M k,A M k->k<w.heap.size\/M k)(bf:∀x B W,Enc x B W->B.size=ps.size)
  (al:∀x B W W',Enc x B W->fD w W W'->Enc x B W')
  (I:List α->(Nat->Prop)->aS->Prop)(hI:AY A w I)(hS:∀O M W,I O M W->S W)(h0:I [] M0 w)
  (aj:aS->α->Array aT->Act)(Wx:aS->α->Array aT->aS)(ar:∀W x B,Bl W (Wx W x B))
  (au:∀(l:Nat) (x:α) (B:Array aT) (W:aS) (K:Act->aS->Prop),Enc x B W->K (aj W x B) (Wx W x B)->
   assign.wpIn (Fence.wide.inRound l) n P (Exit.then K (λ_ _ _=>False)) {tmps:=(ps.zip B).foldl (λt (p,v)=>t.setIfInBounds p v) a.tmps,defers:=[]} W)
  (av:∀(l:Nat) (O:List α) (x:α) (B:Array aT) (M:Nat->Prop) (W J:aS),I O M J->(∀k,M k->k<W.heap.size)->(∀k,M0 k->M k)->Enc x B J->O++[x]<+:xs->w+2<=W.heap.size->
   (∀k,W.heap.size<=k->J.heap[k]?=(Wx W x B).heap[k]?)->(J:Nat)=(Wx W x B).heap.size->body.wpIn (Fence.wide.inRound l) n P (Z2 w M I (O++[x]) J) (aj W x B) J)
  (az:∀(D:Nat) (W:aS),w<=D->I xs M0 W->W.heap[D]?=some (aM (some []))->Q .normal {a with defers:={target:=.collected D,args:=#[]}::a.defers} W):
  (Code.rangeFunc g ps assign body).wpIn Fence.wide (n+2) P Q a w:=by
 refine wpIn_rangeFunc λfn a1=>?_;obtain⟨R,Y⟩:∃R:LoopState->Option Code->Loop,R=λst pe=>{state:=st,pending:=pe,fn,tmps:=a.tmps,params:=ps,assign,body,defers:=w.heap.size}:=⟨_,rfl⟩;obtain⟨V,hV⟩:=eR ((w.alloc (aM (some []))).alloc (aN (R .ready none)));have bk:V=w.heap.size+1+1:=by rw[<-hV,fO,fO]
 have bh:V.heap[w.heap.size+1]?=some (aN (R .ready none)):=by have:=E9 (w.alloc (aM (some []))) (aN (R .ready none));rw[fO,hV]at this;exact this
 have ay:V.heap[w.heap.size]?=some (aM (some [])):=by rw[<-hV];exact(iI _ _ _ zS).trans (E9 w _)
 have ak:Bl w V:=by rw[<-hV];exact(fL w _).alloc zS _
 have aq:=hI.below h0 ak;refine⟨w.heap.size+1,[{target:=.collected w,args:=#[]}],V,{target:=.fn (.func gf) lb,args:=#[aD (.yield (w.heap.size+1)) #[] #[]]},V,gf,
  #[aD (.yield (w.heap.size+1)) #[] #[]]++lb,V,?_,?_,(λ_ _=>trivial),?_,(λh=>by cases h),?_⟩
 .rw[<-hV,Y];exact run_enterLoop_outer _ _ _ _ _
 .simp only[resolve,hg];simp[go_sem]
 .simp[invoke,go_sem,eg]
 have ba:∀(M:Nat->Prop)(W:aS),¬M (w.heap.size+1)->¬May A V M W (w.heap.size+1):=λM W hm h=>by
  obtain h|⟨h,_⟩:=h
  .obtain h|h:=hA _ _ h
   .omega
   .exact hm h
  .omega
 have a8:∀(M:Nat->Prop)(W:aS),¬M w.heap.size->¬May A V M W w.heap.size:=λM W hm h=>by
  obtain h|⟨h,_⟩:=h
  .obtain h|h:=hA _ _ h
   .omega
   .exact hm h
  .omega
 have bd:∀(M:Nat->Prop)(W:aS)(k:Nat),May A V M W k->May A w M W k:=λM W k h=>by
  obtain h|⟨h,h'⟩:=h
  .exact .inl h
  .exact .inr ⟨zO,h'⟩
 have aw:=bi (w.heap.size+1)
   (λO M W=>I O M W/\W.heap[w.heap.size+1]?=some (aN (R .ready none))/\W.heap[w.heap.size]?=some (aM (some []))/\¬M (w.heap.size+1)/\¬M w.heap.size/\∀k,M k->k<W.heap.size)
   V ak zO
   (λO M M' W W' h hc hm=>by
    obtain⟨h1,h2,h3,h4,h5,h6⟩:=h
    have l1:=(fB.1 h2).1
    have l2:=(fB.1 h3).1
    refine⟨hI O M M' W W' h1 (hc.mono λk _=>bd M W k) hm,(hc.block _ l1 (ba M W h4)).trans h2,(hc.block _ l2 (a8 M W h5)).trans h3,λh=>?_,λh=>?_,λk hk=>?_⟩
    .obtain h|h:=hm _ h
     .exact h4 h
     .omega
    .obtain h|h:=hm _ h
     .exact h5 h
     .omega
    .obtain h|h:=hm _ hk
     .exact gV (h6 k h) hc.size
     .exact h.2)
   (λO M W' h=>hS O M W' h.1)
   ?_ ⟨aq,bh,ay,λh=>by have:=ae _ h;omega,λh=>by have:=ae _ h;omega,λk h=>by have:=ae k h;omega⟩
 .refine(hH.2 ((hH (n:=1)).1 aw)).mono ?_;rintro e J⟨⟨v,rfl⟩,hi,hl,hd,_⟩;exact⟨none,_,by have:=run_endLoop (P:=P) hl (by rw[Y];simp);rw[Y]at this;exact this,az _ _ (eX _) (hI.put _ hi hl rfl zO) ((jY zO).trans hd)⟩
 .rintro O x B M W⟨hi,hl,hd,ah,bb,ao⟩bc af be;refine YieldAt.any (n:=n) ?_;have am:=(fB.1 hl).1;have hy:=run_yield (P:=P) (args:=B) hl (by rw[Y];exact bf x B W af);rw[Y]at hy;refine⟨fn,_,assign,body,hy,roundIn_of_wpIn a1 (au _ x B W _ af ?_)⟩;have ab:=ar W x B;have ac:=(ab.block _ am).trans hl;have aL:=(ab.block _ zO).trans hd;have a7:=gV am ab.size;refine⟨_,run_beginRound ac (by rw[Y]),?_⟩;obtain⟨J,X⟩:=eR ((Wx W x B).putObj (w.heap.size+1) (aN {R .ready none with state:=.busy}));have a5:J.heap[w.heap.size+1]?=some (aN {R .ready none with state:=.busy}):=by rw[<-X];exact G1 a7
  have G7:J.heap[w.heap.size]?=some (aM (some [])):=by rw[<-X];exact(jY zO).trans aL
  have bj:(J:Nat)=(Wx W x B).heap.size:=by rw[<-X];exact World.putObj_size
  have hG:fD w (Wx W x B) J:=by rw[<-X];exact fD.put _ zO ac rfl
  have a2:I O M J:=by rw[<-X];exact hI.put _ (hI.below hi ab) ac rfl zO
  have a0:=al x B _ _ (al x B W _ af (fD.of ab)) hG;have bg:tD M (w.heap.size+1+1) W J:=by rw[<-X];exact(tD.of ab).trans (tD.put _ ac ah zO)
  rw[X];have ap:∀(N:Option Code)(U:aS),tD M w J U->
    (Instr.endRound (w.heap.size+1) N).run P U=.ok (aG N.isNone) (U.putObj (w.heap.size+1) (aN (R (if N.isNone then .ready else .done) N)))/\
    U.heap[w.heap.size+1]?=some (aN {R .ready none with state:=.busy})/\
    (U.putObj (w.heap.size+1) (aN (R (if N.isNone then .ready else .done) N))).heap[w.heap.size+1]?=some (aN (R (if N.isNone then .ready else .done) N))/\
    (U.putObj (w.heap.size+1) (aN (R (if N.isNone then .ready else .done) N))).heap[w.heap.size]?=some (aM (some []))/\
    tD M (w.heap.size+1+1) W (U.putObj (w.heap.size+1) (aN (R (if N.isNone then .ready else .done) N))):=λN U ag=>by
   have aa:=ag.noc _ _ zO a5 rfl
   have:=run_endRound (P:=P) N aa
   rw[Y]at this|-
   exact⟨this,by rw[Y]at aa;exact aa,G1 (fB.1 aa).1,(jY zO).trans (ag.noc _ _ (eX _) G7 rfl),bg.trans ((ag.mono (λ_ h=>h) zO).trans (tD.put _ aa ah zO))⟩
  refine wpIn_mono (av _ O x B M W J a2 ao bc a0 be zO (λk hk=>by rw[<-X];exact jY zO) bj) ?_;rintro e a3 U hp;cases e with
  |normal=>obtain⟨hc,a4⟩:=hp;obtain⟨hr,aa,a6,ax,hR⟩:=ap none U hc;exact⟨_,_,hr,rfl,⟨hI.put _ a4 aa rfl zO,a6,ax,ah,bb,λk hk=>by have:=ao k hk;have:=hR.size;omega⟩,hR⟩
  |ret=>exact hp.elim
  |exit id=>exact hp.elim
  |goto t=>exact hp.elim
  |panic ch=>exact hp.elim
  |outgrown=>exact hp.elim
theorem PU{α:Type}{ae af:Code}{a:Act}{A:(Nat->Prop)->Nat->Prop}
  (hg:a.eval g=aD (.func gf) #[] lb)(eg:∀ac w,(callFunc gf ac).run P w=.ok (.enter gf ac) w)
  {Enc:α->Array aT->aS->Prop}{xs:List α}(ao:aCm P gf lb Enc xs A M0 w)(ah:∀k,M0 k->k<w.heap.size)(hA:∀M k,A M k->k<w.heap.size\/M k)(am:∀x B W,Enc x B W->B.size=ps.size)
  (ag:∀x B W W',Enc x B W->fD w.heap.size W W'->Enc x B W')
  (I:List α->(Nat->Prop)->aS->Prop)(hI:AY A w.heap.size I)(h0:I [] M0 w)
  (aa:aS->α->Array aT->Act)(Wx:aS->α->Array aT->aS)(ai:∀W x B,aV W.heap.size W (Wx W x B))
  (aj:∀(l:Nat) (x:α) (B:Array aT) (W:aS) (K:Act->aS->Prop),Enc x B W->K (aa W x B) (Wx W x B)->
   ae.wpIn (Fence.wide.inRound l) n P (Exit.then K (λ_ _ _=>False)) {tmps:=(ps.zip B).foldl (λt (p,v)=>t.setIfInBounds p v) a.tmps,defers:=[]} W)
  (ak:∀(l:Nat) (ab:List α) (x:α) (B:Array aT) (M:Nat->Prop) (W W2:aS),I ab M W2->(∀k,M k->k<W.heap.size)->(∀k,M0 k->M k)->Enc x B W2->ab++[x]<+:xs->w.heap.size+2<=W.heap.size->
   (∀k,W.heap.size<=k->W2.heap[k]?=(Wx W x B).heap[k]?)->(W2:Nat)=(Wx W x B).heap.size->af.wpIn (Fence.wide.inRound l) n P (Z2 w.heap.size M I (ab++[x]) W2) (aa W x B) W2)
  (al:∀(D:Nat) (W:aS),w.heap.size<=D->I xs M0 W->W.heap[D]?=some (aM (some []))->Q .normal {a with defers:={target:=.collected D,args:=#[]}::a.defers} W):
  (Code.rangeFunc g ps ae af).wpIn Fence.wide (n+2) P Q a w:=
 aCR (S:=λ_=>True) hg eg (λl J W h1 h2 h3 _=>ao l J W h1 h2 h3) ah hA am ag I hI (λ_ _ _ _=>trivial) h0 aa Wx ai aj ak al
theorem wK(w:aS)(base:Nat)(t r e:aX)(i:TypeInfo)(z:aT)(h bytes:Nat)(C:P.underlying t=some (.slice e))(x:P.info? e=some i)(F:i.zero=some z)
  (q:i.size=h)(E:i.bytes=bytes)(O:z.cells.size=h)(N:0<h)(v:aT)(n:Nat)(s:List aT)(m:w.ownsRow base e h v n s)
  (a:Addr)(f:List aT)(y:f.length=1*h)(A:∀j u,f[j]?=some u->w.cell? (a.add j)=some u)(G:∀u∈f,u.oneCell'=true)
  (J:n+1<=aZ)(K:(n+1)*bytes<=140737488355328)(L:base<=w):
  ∃k w',(Builtin.append_ #[t,t] r #[v,aA (some a) 1 1]).run P w=.ok k w'/\w'.ownsRow base e h k (n+1) (s++f)/\w.grownBy w' v.ownBlock/\(k.ownBlock=v.ownBlock\/k.ownBlock=some w):=by
 obtain⟨k,w',B,R,S,_⟩:=run_append_own (P:=P) w base t r e i z h bytes C x F q E O N v n s m a 1 1 f y A G J K L;refine⟨k,w',B,R,S,?_⟩;have ab:n+1<=9223372036854775807:=by simp only[aZ]at J;omega
 obtain⟨rfl,rfl⟩|⟨g,D,U,rfl,W,Z,aa,X,Y,ac⟩:=m.2
 .have d:=run_append_nil (P:=P) w t r e i z C x F a 1 1 f (by rw[q];exact y) A zO zO (by subst E;omega);rw[B]at d;simp only[Result.ok.injEq]at d;rw[d.1];exact .inr rfl
 .by_cases hroom:n+1<=D
  .obtain⟨w2,d,_⟩:=run_append_fits (P:=P) w base t r e i h C x q g n D s m a 1 1 f y A G hroom;rw[B]at d;simp only[Result.ok.injEq]at d;rw[d.1];exact .inl rfl
  .have M:=m.cells (g:=g) rfl;have d:=run_append_grow (P:=P) w t r e i z C x F (g,0) n D s (by rw[q];exact m.1) M a 1 1 f (by rw[q];exact y) A zO zO (growslice_fits zO (by rw[E];exact K));rw[B]at d;simp only[Result.ok.injEq]at d;rw[d.1];exact .inr rfl
def U8(w:aS)(v d:aT):Prop:=d.ownBlock=v.ownBlock\/d.ownBlock=some (w:Nat)
theorem JL{α:Type}{K:lL α}{S E:aX}(J:gY P S E K.k aa){M:Act}(ag:o.guard=none)(s x:Operand)
  (ho:o.op=.call {callee:=.builtin .append,args:=#[s,x],argTypes:=#[S,S]})(n:Nat)(v:aT)(L:List α)(hs:M.eval s=v)(ab:eD K E n w v L)
  (N:Nat)(y:α)(B:List aT)(R:K.R w y B)(hx:M.eval x=aA (some (N,0)) 1 1)(O:eG w N 0 B)(ah:L.length+1<=10000000)(hb:n<=w)
  (ai:¬K.tags E)
  (h:∀D w',eD K E n w' D (L++[y])->w.grownBy w' v.ownBlock->aV n w w'->U8 w v D->wpList P ops Q ac (M.put o.dst D) w'):wpList P ops Q (o::ac) M w:=by obtain⟨i,z,hi,hz,al,af,am⟩:=J.info;have hR:∀w' x B,w.grownBy w' v.ownBlock->K.R w x B->K.R w' x B:=λw' x B O h=>qT ab ai O h;obtain⟨ao,h1,h2⟩:=ab;have ap:=K.len R;have ak:=J.small;obtain⟨D,w',aj,r1,U,r3⟩:=wK (P:=P) w n S o.type E i z K.k aa J.under hi hz al af am J.pos v L.length ao.flatten h2 (N,0) B zO (λj u hj=>by rw[kJ,kQ];simpa using O j u hj) (K.one R) (by unfold aZ;omega) (by have:=Nat.mul_le_mul ah ak;omega) hb;refine wpList_plain ag λK' ae=>?_;unfold Oper.wp;simp[execOp,ho,resolve,invoke,builtin,hs,hx,aj,Result.andThen];exact ae _ _ (h D w' (qR h1 R r1 λx B=>hR w' x B U) U ((iL n w).grown U hb (λk hk=>(BK h2 k hk).1)) r3)
theorem aIM{E:aX}:eD kI E n w v L↔w.ownsRow n E 1 v L.length (L.map (aC aP)):=by
 constructor
 .rintro⟨k,e,f⟩;have:k=L.map λx=>[qI x]:=by
   apply List.ext_getElem?;intro i;rw[oY];cases d:L[i]?with
   |none=>exact AS (by rw[e.1];exact List.getElem?_eq_none_iff.1 d)
   |some x=>obtain⟨m,g,j⟩:=e.2 i x d;rw[g];exact congrArg some j
  rw[this,zE]at f;exact f
 .intro h;exact⟨L.map λx=>[qI x],⟨zS,λi x d=>⟨[x],by simp[d],rfl⟩⟩,by rw[zE];exact h⟩
theorem fV{α:Type}{K:lL α}{E:aX}{L:List α}(h:eD K E n w v L):∃a c,v=aA a L.length c/\(∀ad,a=some ad->ad=(qP ad.block 0)/\v.ownBlock=some ad.block)/\(L≠[]->∃g,a=some ⟨g,0,none⟩)/\L.length<=c:=by
 obtain⟨ah,h1,h2⟩:=h;obtain⟨d,h0⟩|⟨g,aa,ac,d,hb,hg,ab,ae,af,ag⟩:=h2.2
 .have e:L=[]:=List.eq_nil_of_length_eq_zero h0;exact⟨none,0,by rw[d,e];rfl,λad h=>(by cases h),λh=>absurd e h,by rw[e];exact eX _⟩
 .exact⟨some (g,0),aa,d,λad h=>(by cases h;exact⟨rfl,by rw[d];rfl⟩),λ_=>⟨g,rfl⟩,ab⟩
theorem vO{E:aX}(h:eD kI E n w v L){x:Int}(e:L[i]?=some x):∃g c,v=aA (some (qP g 0)) L.length c/\n<=g/\g<w/\w.cell? (qP g i)=some (qI x)/\w.frozen? (qP g i)=false:=by
 have h:=aIM.1 h;have u:=(gX.1 e).1;obtain⟨d,q⟩|⟨g,f,m,d,j,k,y,r,s,A⟩:=h.2
 .omega
 .refine⟨g,f,d,j,(fB.1 k).1,?_,?_⟩
  .rw[d]at h;rw[h.cellAt i zO,oY,e];rfl
  .rw[d]at h;exact h.frozenAt i
theorem aCg{E:aX}(h:eD kI E n w v L){g:Nat}(d:v.ownBlock=some g)(i:Nat)(x:Int):eD kI E n (qS w (g,i) (qI x)) v (L.set i x)/\w.grownBy (qS w (g,i) (qI x)) (some g):=by
 have h:=aIM.1 h;obtain⟨e,r⟩|⟨f,m,q,e,s,A,B,u,y,C⟩:=h.2
 .rw[e]at d;cases d
 .rw[e]at d h;obtain rfl:f=g:=by simpa[Value.ownBlock]using d
  obtain⟨j,k⟩:=h.stored i (qI x);refine⟨aIM.2 ?_,k⟩;rw[e,List.length_set,List.map_set];exact j
structure sX(E:aX)(n:Nat)(w:aS)(xs:List (aT×List Int)):Prop where
 own:∀x∈xs,eD kI E n w x.1 x.2
 apart:xs.Pairwise λx y=>∀k,x.1.ownBlock=some k->y.1.ownBlock≠some k
theorem sX.step{E:aX}{B:List (aT×List Int)}{j:aT}{q:List Int}(h:sX E n w (A++(v,L)::B))(S:eD kI E n w' j q)(O:w.grownBy w' v.ownBlock)(R:U8 w v j):sX E n w' (A++(j,q)::B):=by
 have u:=h.apart;rw[List.pairwise_append]at u;obtain⟨J,r,s⟩:=u;rw[List.pairwise_cons]at r;obtain⟨K,M⟩:=r;have D:=h.own (v,L) zS;have i:∀x,x∈A++(v,L)::B->(∀k,x.1.ownBlock=some k->v.ownBlock≠some k)->eD kI E n w' x.1 x.2/\∀k,x.1.ownBlock=some k->j.ownBlock≠some k:=λx d C=>by
  have m:=h.own x d;refine⟨m.on (λk f=>O.block k (m.lt k f).2 λe=>C k f e.symm) λ_ _ _ D=>D,λk f=>?_⟩;obtain e|e:=R
  .rw[e];exact C k f
  .rw[e];intro N;cases N;exact Nat.lt_irrefl _ (m.lt _ f).2
 have F:∀x∈A,∀k,x.1.ownBlock=some k->v.ownBlock≠some k:=λx d=>s x d (v,L) zS;have G:∀x∈B,∀k,x.1.ownBlock=some k->v.ownBlock≠some k:=λx d k f e=>K x d k e f;refine⟨λx d=>?_,?_⟩
 .obtain d|d:=wM.1 d
  .exact(i x (by simp[d]) (F x d)).1
  .obtain rfl|d:=xD.1 d
   .exact S
   .exact(i x (by simp[d]) (G x d)).1
 .rw[List.pairwise_append];refine⟨J,List.pairwise_cons.2 ⟨λy g k f e=>?_,M⟩,λx d y g=>?_⟩
  .exact(i y (by simp[g]) (G y g)).2 k e f
  .obtain rfl|g:=xD.1 g
   .exact(i x (by simp[d]) (F x d)).2
   .exact s x d y (by simp[g])
theorem sX.less{E:aX}{B:List (aT×List Int)}(h:sX E n w A)(d:B.Sublist A):sX E n w B:=⟨λx e=>h.own x (d.subset e),h.apart.sublist d⟩
def GZ(e d:Int)(k:Nat):List Int:=((List.range k).map λi:Nat=>e+(i:Int)).filter λn=>n !=d
theorem aAo(d e:Int)(k:Nat):GZ d e (k+1)=if d+(k:Int)=e then GZ d e k else GZ d e k++[d+(k:Int)]:=by
 unfold GZ;rw[List.range_succ,DO,List.filter_append];split
 .next h=>simp[h]
 .next h=>simp[h]
theorem ST(e d:Int)(k:Nat):(GZ e d k).length<=k:=by unfold GZ;refine fA (cU _ _) ?_;simp
theorem SK(d f e:Int):yH d f e=GZ d e (f-d+1).toNat:=rfl
theorem IA(B J D:Int)(w:aS)(h1:0<=B)(h2:J<=1000)(h3:B<=J):Calls prog 356 #[qI B,qI J,qI D] w λe w'=>mR kI 3 w (yH B J D) w' e/\Bl w w':=by
 rw[SK];obtain⟨K,hK⟩:=eR ((J-B+1).toNat);rw[hK];have S:=eC (show(K:Int)=J-B+1 from zO);have ab:K<=1001:=zO;have X:=eC (λk=>aAo B D k);have u:=eC (λk=>ST B D k);go_enter func356,ntmps356;go_wp2;go_loopw [7,8] (λv i wr=>∃(k:Nat)(x:Int),k<=K/\Hid (x=B+k)/\B<=x/\x<=J+1/\i=qI x/\Hid (eD kI 3 w wr v (GZ B D k))/\Hid (Bl w wr)) (λ_ i _=>(J+1-aW i).toNat)
 case atStart=>exact⟨0,B,zO,eC zS,zO,zO,rfl,eC (eD.nil _ _ _ _),eC (iL _ _)⟩
 case round=>
  obtain⟨k,x,hk,M,af,ag,rfl,R,N⟩:=hrel;have U:=eC N.size;by_cases hlt:x<=J
  .have W:k+1<=K:=by have:=M.out;have:=S.out;omega
   have ae:aP.wrap (x+1)=x+1:=by rw[iA];omega
   by_cases hbut:x=D
   .have Z:(x !=D)=false:=by simp[hbut]
    have f:=eC (show eD kI 3 w wr u7 (GZ B D (k+1)) by rw[X,eI (by rw[<-M];exact hbut)];exact R);go_wp2;go_roundw
    case rel=>exact⟨k+1,x+1,W,eC (by rw[M];push_cast;omega),zO,zO,by go_num,f,N⟩
    case measure=>simp[aW];omega
   .have Z:(x !=D)=true:=by simpa using hbut
    have y:=eC (show GZ B D (k+1)=GZ B D k++[x] by rw[X,eE (by rw[<-M];exact hbut),<-M]);have Y:=eC (R.later ((iL _ wr).alloc (eX _) (aK #[x] 3)));go_wp2_with(refine kN rV rfl _ _ rfl w _ (GZ B D k) rfl Y wr x [x] rfl rfl (eG.new _ _ _) (by have:=u k;omega) (by have:=U.out;simp;omega) (λh=>h) ?_;intro v5 w5 O ac j;replace O:=eC O;obtain⟨g5,aa,rfl⟩:=O.form);go_roundw
    case rel=>exact⟨k+1,x+1,W,eC (by rw[M];push_cast;omega),zO,zO,by go_num,eC (by rw[y];exact O),eC ((N.alloc U _).trans j)⟩
    case measure=>simp[aW];omega
  .obtain rfl:k=K:=by have:=M.out;have:=S.out;omega
   have d0:decide (x<=J)=false:=by simpa using hlt
   go_wp2;go_ret;exact⟨⟨_,rfl,R⟩,N⟩
section
open Go.Sort
def pQ(T:aX)(w:aS)(b c:Nat)(L:List Int):Prop:=∃d:Array aT,w.heap[b]?=some (aK d T (0,0))/\d.size=c/\L.length<=c/\∀(j:Nat)(x:Int),L[j]?=some x->d[j]?=some (aC aP x)
theorem pQ.lt{T:aX}(h:pQ T w b c L):b<w:=by obtain⟨d,h,_⟩:=h;exact(fB.1 h).1
theorem pQ.same{T:aX}(h:pQ T w b c L)(g:w'.heap[b]?=w.heap[b]?):pQ T w' b c L:=by obtain⟨d,e,f⟩:=h;exact⟨d,g.trans e,f⟩
theorem pQ.take{T:aX}{R:List Int}(h:pQ T w b c (L++R)):pQ T w b c L:=by obtain⟨e,f,g,i,k⟩:=h;rw[iR]at i;exact⟨e,f,g,zO,λj x d=>k j x (by rw[FU (gX.1 d).1];exact d)⟩
theorem pQ.holds{T:aX}(h:pQ T w b c L):Holds (aC aP) w b 0 L.toArray:=by
 obtain⟨d,e,k,m,g⟩:=h;intro j i;have f:j<L.length:=by simpa using i
 have:=g j L[j] (lJ f);refine⟨?_,frozen_of_row w b _ d T e⟩;rw[kG w b _ d T (0,0) e,kQ,this];simp[f]
theorem pQ.put{T:aX}{M:List Int}(h:pQ T w b c L)(hm:M.length<=c):pQ T (putRow (aC aP) (Sort.ahead w q) b 0 M.toArray) b c M/\eZ (·=b) w (putRow (aC aP) (Sort.ahead w q) b 0 M.toArray):=by
 obtain⟨f,g,i,r,s⟩:=h;refine⟨⟨putCells (aC aP) 0 M.toArray f,?_,by simp[putCells,i],hm,λj x d=>?_⟩,⟨rfl,rfl,rfl,by rw[size_putRow];exact eX _,λk _ n=>?_⟩⟩
 .simp only[putRow,mapBlock,Sort.ahead,Array.getElem?_modify,g,if_true];rfl
 .have m:=(gX.1 d).1;simp only[putCells,Array.getElem?_mapIdx];rw[SZ zO];simp[m,(gX.1 d).2]
 .simp only[putRow,mapBlock,Sort.ahead,Array.getElem?_modify];rw[eE (λe=>n e.symm)]
theorem pQ.grow{T:aX}{w:aS}{b c:Nat}{L:List Int}(h:pQ T w b c L)(d:Array Obj):pQ T (Go.Sort.grow w d) b c L/\Bl w (Go.Sort.grow w d):=
 have e:∀k,k<(w:Nat)->(Go.Sort.grow w d).heap[k]?=w.heap[k]?:=λk f=>by simp[Go.Sort.grow,Array.getElem?_append_left f]
 ⟨h.same (e b h.lt),⟨rfl,rfl,rfl,by simp[Go.Sort.grow],e⟩⟩
theorem pQ.own{T:aX}(h:pQ T w b c L)(n:c<=1000):eD kI T b w (aA (some (b,0)) L.length c) L:=by
 obtain⟨d,e,f,g,k⟩:=h;refine⟨L.map λx=>[qI x],⟨zS,λi x m=>⟨[qI x],by simp[m],rfl⟩⟩,?_⟩;rw[zE];refine⟨by simp[kI],.inr ⟨b,c,d,rfl,eX _,e,g,by unfold aZ;omega,by simp[kI,f],?_⟩⟩;apply List.ext_getElem?;intro j;simp only[kI,cD,List.getElem?_take,oY,Array.getElem?_toList];by_cases hj:j<L.length
 .rw[eI hj,lJ hj,k j _ (lJ hj)];rfl
 .rw[eE hj,AS zO];rfl
theorem KY(D x:Int)(B:Nat)(W:aS)(J:qC W B 0 (qI D)):
  FnGives prog 373 #[qP B 0] #[qI x] (aG (x==D)) W:=by
 show qK 373 #[x,qP B 0] W _;go_enter func373,ntmps373;go_wp2
 all_goals(go_ret;exact⟨by simp_all,0,rfl⟩)
theorem R8(B:Int)(b:Nat)(L:List Int)(w:aS)(j:pQ 3 w b L.length L)(hL:L.length<=1000):
  qK 357 #[aC aP B,aA (some ⟨b,0,none⟩) L.length L.length] w λe w'=>(∃v,e=aO v/\eD kI 3 b w' v (uB B L))/\eZ (·=b) w w':=by
 have eg:∀ae w,(callFunc 373 ae).run prog w=.ok (.enter 373 ae) w:=l8 func373 (by kernel_rfl) rfl;obtain⟨S,Y⟩:=eR (L.mergeSort λx y=>decide (x<=y));have ah:S.length=L.length:=by rw[<-Y];exact List.length_mergeSort _
 obtain⟨C,hC⟩:=eR (Lib.compact S);have ak:C.length<=S.length:=by rw[<-hC];exact Lib.compact_length_le S
 have hR:uB B L=C.filter λx=>!(x==B):=by unfold uB;rw[Y,hC]
 rw[hR];have al:(C.filter λx=>!(x==B)).length<=C.length:=cU _ _;obtain⟨W,hW⟩:=eR (w.alloc (aK #[B] 3));have af:=DX hW;have x0:Boxed W w.heap.size 3 (aC aP B):=by rw[<-hW];exact oI w 3 _
 have u:pQ 3 W b L.length L:=j.same (af.block b j.lt);have am:=j.lt;have HS:Hid (qK 370 #[aA (some ⟨b,0,none⟩) L.length L.length] W λe w'=>e=aO (aF #[])/\pQ 3 w' b L.length S/\eZ (·=b) W w'):=eC ((slices_Sort_int b 0 L.length L W u.holds u.lt (by omega)).mono (by
  rintro e w'⟨rfl,n,os,rfl⟩
  rw[Y]
  obtain⟨J,N⟩:=u.put (q:=n) (M:=S) (by omega)
  obtain⟨h3,h4⟩:=J.grow os
  exact⟨rfl,h3,N.then h4⟩));have HC:Hid (∀D,pQ 3 D b L.length S->qK 371 #[aA (some ⟨b,0,none⟩) L.length L.length] D λe w'=>e=aO (aA (some ⟨b,0,none⟩) C.length L.length)/\pQ 3 w' b L.length C/\eZ (·=b) D w'):=eC (λD O=>by
  have:=slices_Compact_int b 0 L.length S D O.holds (by omega) (by omega)
  rw[ah,hC]at this
  refine this.mono ?_
  rintro e w'⟨rfl,q,rfl⟩
  obtain⟨J,N⟩:=O.put (q:=q) (M:=C++bJ (L.length-C.length) 0) (by simp;omega)
  exact⟨rfl,J.take,N⟩);have HD:Hid (∀D,pQ 3 D b L.length C->Boxed D w.heap.size 3 (aC aP B)->qK 372 #[aA (some ⟨b,0,none⟩) C.length L.length,aD (.func 373) #[] #[aE (some ⟨w.heap.size,0,none⟩)]] D λe w'=>e=aO (aA (some ⟨b,0,none⟩) (C.filter λx=>!(x==B)).length L.length)/\pQ 3 w' b L.length (C.filter λx=>!(x==B))/\eZ (·=b) D w'):=eC (λD O X=>by
  have hp:PredAt prog 373 #[aE (some ⟨w.heap.size,0,none⟩)] (aC aP) (λx=>x==B) D:=λV x hb=>KY B x w.heap.size V ((hb.cell (p:=⟨w.heap.size,0,none⟩) X.lt).trans X.cell)
  have aj:PredOver prog 373 #[aE (some ⟨w.heap.size,0,none⟩)] (aC aP) (λx=>x==B) b 0 C.toArray.size D:=λn os dk x _=>KY B x w.heap.size _ (by
   unfold sortWorld
   show _=_;rw[cell?_grow _ _ _ (by show w.heap.size<(putRow _ _ _ _ _).heap.size;rw[size_putRow];exact X.lt),cell?_putRow_other _ _ b 0 _ _ (Or.inl (by show w.heap.size≠b;omega))]
   exact X.cell)
  have:=AnyE.slices_DeleteFunc lDF (aC aP) (λ_=>rfl) (λx=>x==B) 373 #[aE (some ⟨w.heap.size,0,none⟩)] eg 0 zeroValue3 b 0 L.length C.toArray D hp aj O.holds (by simp;omega) (by simp;omega)
  simp only[PO]at this
  refine Calls.mono this ?_
  rintro e w'⟨rfl,q,rfl⟩
  obtain⟨J,N⟩:=O.put (q:=q) (M:=(C.filter λx=>!(x==B))++bJ (C.length-(C.filter λx=>!(x==B)).length) 0) (by simp;omega)
  exact⟨rfl,J.take,N⟩);have HX:=eC x0;have ag:=eC af;have ao:=hL;generalize(C.filter λx=>!(x==B))=R at*;generalize C.length=cn at*;generalize ap:L.length=n at*;go_enter func357,ntmps357;have ai:w.heap.size≠b:=zO;go_wp2_with(first|(rw[hW])|(go_at_call 370;refine HS.mono ?_;rintro e w1⟨rfl,aa,Z⟩;replace aa:=eC aa;replace Z:=eC Z)|(go_at_call 371;refine(HC _ aa).mono ?_;rintro e D⟨rfl,ab,U⟩;replace ab:=eC ab;replace U:=eC (Z.trans U))|(go_at_call 372;refine(HD _ ab (U.boxed HX ai)).mono ?_;rintro e w3⟨rfl,ac,f⟩;replace ac:=eC ac;replace f:=eC (U.trans f)));go_ret;exact⟨⟨_,rfl,ac.own (by omega)⟩,(eZ.of ag).trans f⟩
end
theorem SM{t:aX}(h:Boxed W b t v):qS W (b,0) v=W:=by rw[Go.Sort.setCell_eq];refine Go.Sort.mapBlock_id W b _ λc e f d=>?_;rw[show W.heap[b]?=_ from h]at d;cases d;rfl
theorem aHA(w:aS):pQ 3 (w.alloc (aK #[qI 0,qI 1] 3)) w 2 [0,1]:=
 ⟨_,fG w _,rfl,zS,λj x h=>by
  match j,h with
  |0,h=>simp at h;subst h;rfl
  |1,h=>simp at h;subst h;rfl⟩
theorem TP(x:Nd)(w:aS):Calls prog 358 #[.agg #[qI x.1,qI x.2]] w λe w'=>mR kI 3 w (oG x) w' e/\Bl w w':=by
 obtain⟨t,n⟩:=x;obtain⟨W,hW,J,-⟩:=lB w (aK #[t,n] 54);have Y:W.cell? (w,0)=some t:=by rw[<-hW];exact eG.new w [t,n] 54 0 _ rfl
 have Z:W.cell? (w,1)=some n:=by rw[<-hW];exact eG.new w [t,n] 54 1 _ rfl
 obtain⟨O,D,X,-⟩:=lB W (aK #[qI 0,qI 1] 3);have u:=J.size;have R:pQ 3 O W 2 [0,1]:=by rw[<-D];exact aHA W
 have U:=eC R;have B:=eC (fC J X);have S:=eC (R8 n W [0,1] O R zS);have y:=J.size;simp only[oG];by_cases h1:t=1
 .subst h1;go_enter func358,ntmps358;go_wp2_with(first|(rw[hW])|(rw[D])|(go_at_call 357;refine S.mono ?_;rintro e w3⟨⟨v,rfl,N⟩,M⟩;replace N:=eC N;replace M:=eC M));go_ret;exact⟨⟨_,rfl,N.mono zO⟩,B.trans (M.below (by have:=B.size;omega) (λk j=>zO))⟩
 .have f:(t==1)=false:=by simpa using h1
  rw[eE h1];go_enter func358,ntmps358;go_wp2_with(first|(rw[hW])|(rw[D]));go_ret;exact⟨⟨_,rfl,(U.own zO).mono zO⟩,B⟩
def aIs(x:Int×List Int)(d:Array aT)(W:aS):Prop:=∃v,d=#[aC aP x.1,v]/\eD kI 3 0 W v x.2
theorem aFI{N O W:Nat}{S:Int}{B:aS}{R:aS->Prop}(hm:Boxed B O 4 (aG true))(f:Boxed B W 478 (aD (.yield N) #[] #[]))(u:M O)
  (Z:YieldAt Fence.wide 0 prog N #[qI S,v] B λe D=>e=aO (aG true)/\R D/\tD M (N+1) B D):
  CallsIn Fence.wide 1 prog 355 #[qI S,v,qP O 0,qP W 0] B λe D=>e=aO (aF #[])/\R D/\tD M (N+1) B D:=by refine hH.2 ((hH (n:=2)).1 ?_);refine xI func355 rfl trivial ?_ rfl;simp only[ntmps355,PO,iW,rP,Nat.reduceAdd,Nat.reduceSub,XO,VA,XZ,WO,uS,rO];obtain⟨fn,ae,x,y,ac,Y⟩:=Z;have cm:=hm.cell;have cy:=f.cell;gi_wp2;refine(jN Y).mono ?_;rintro e X⟨rfl,j,U⟩;have J:Boxed X O 4 (aG true):=(U.own _ u (pV hm)).trans hm;have aa:=J.cell;have ab:=J.frozen;gi_wp2;exact⟨_,iU rfl _ _ _,rfl,by rw[SM J];exact j,by rw[SM J];exact U⟩
theorem QA(L:List Int)(U:aS):pQ 3 (U.alloc (aK (L.map (aC aP)).toArray 3)) U L.length L:=
 ⟨_,fG U _,zS,eX _,λj x h=>by simp[h]⟩
theorem tW(L:List Int)(U:aS)(d:L.length<=1000):eD kI 3 0 (U.alloc (aK (L.map (aC aP)).toArray 3)) (aA (some (U,0)) L.length L.length) L:=
 ((QA L U).own d).mono (kU _)
structure LSt(J:List (Int×List Int)->(Nat->Prop)->aS->Prop)(M:Nat->Prop)(V:aS)(pre:List (Int×List Int))(U:aS):Prop where
 j:J pre M U
 ch:eZ (λq=>¬M q) V U
structure LsB(mb yb xb lb lp b off len c:Nat)(t n:Int)(M:Nat->Prop)(V:aS):Prop where
 more:Boxed V mb 4 (aG true)
 yield:Boxed V yb 478 (aD (.yield lp) #[] #[])
 x0:V.cell? ⟨xb,0,none⟩=some (aC aP t)
 x1:V.cell? ⟨xb,1,none⟩=some (aC aP n)
 xl:xb<(V:Nat)
 l:Boxed V lb 23 (aA (some ⟨b,off,none⟩) len c)
 bl:b<(V:Nat)
 mm:M mb
 my:M yb
 mx:M xb
 ml:M lb
 mn:M b
theorem LsB.on{e g:Nat}{n:Int}(h:LsB i m xb e g b j f c t n M V)(d:eZ (λq=>¬M q) V U):LsB i m xb e g b j f c t n M U:=
 have k:∀q,M q->q<V->U.heap[q]?=V.heap[q]?:=λq hq r=>d.block q r λs=>s hq
 ⟨(k _ h.mm (pV h.more)).trans h.more,(k _ h.my (pV h.yield)).trans h.yield,(lA (w:=V) (a:=(xb,0)) (k _ h.mx h.xl)).trans h.x0,(lA (w:=V) (a:=(xb,1)) (k _ h.mx h.xl)).trans h.x1,gV h.xl d.size,
  (k _ h.ml (pV h.l)).trans h.l,gV h.bl d.size,h.mm,h.my,h.mx,h.ml,h.mn⟩
theorem aBj{A E X r Z Y:Nat}{n:Int}{s:Nat->Prop}{J:List (Int×List Int)->(Nat->Prop)->aS->Prop}{D:List (Int×List Int)}(F:AY (λ_ _=>False) B J)(G:∀k,s k->M k)
  (K:∀d x C M i,J d M i->(∀k,s k->M k)->aIs x C i->d++[x]<+:D->YieldAt Fence.wide 0 prog r C i λe f=>e=aO (aG true)/\J (d++[x]) M f/\tD M (r+1) i f)
  (u:LsB A E xb X r b Z Y c t n M V){d:List (Int×List Int)}{U h:aS}(q:LSt J M V d U)(m:Bl U h)(j:Int)(L:List Int)(v:aT)(O:eD kI 3 0 h v L)(S:d++[(j,L)]<+:D):
  CallsIn Fence.wide 1 prog 355 #[qI j,v,qP A 0,qP E 0] h λe f=>e=aO (aF #[])/\LSt J M V (d++[(j,L)]) f:=by have y:=u.on (q.ch.then m);refine(aFI y.more y.yield u.mm (K d (j,L) _ M h (F.below q.j m) G ⟨v,rfl,O⟩ S)).mono ?_;rintro e f⟨rfl,W,g⟩;exact⟨rfl,W,(q.ch.then m).trans ⟨g.os,g.tape,g.output,g.size,λk N R=>g.own k (Classical.not_not.1 R) N⟩⟩
theorem aBN(lb b O c:Nat)(l:List Nd)(x:Nd)(M0:Nat->Prop)(w:aS)(au:l[0]?=some x)(a6:x.1=25->1<l.length)(hB:Boxed w lb 23 (aA (some (b,O)) l.length c))(hN:eP w (some (b,O)) l)(ml:M0 lb)(mn:M0 b)(a8:∀k,M0 k->k<(w:Nat)):
  aCm prog 354 #[qP lb 0] aIs (g9 x (l[1]?.getD (0,0))) (λ_ _=>False) M0 w:=by
 intro lp J W aq be hJ hY a7;refine hH.2 ((hH (n:=2)).1 ?_);refine xI func354 rfl trivial ?_ rfl;simp only[ntmps354,PO,iW,rP,Nat.reduceAdd,Nat.reduceSub,XO,VA,XZ,WO,uS,rO];obtain⟨t,n⟩:=x;have aa:Boxed W lb 23 (aA (some (b,O)) l.length c):=(aq.block _ (a8 _ ml)).trans hB;have am:=hN.later aq;obtain⟨b',bj,ar,ac,ak,al⟩:=am.at au;cases ar;rw[show O+0*2=O by omega]at ak al;have bp:0<l.length:=(gX.1 au).1;obtain⟨Y,ao⟩:=eR (l[1]?.getD (0,0));have a5:Hid (t=25->1<l.length/\∀U:aS,U.heap[b]?=W.heap[b]?->qC U b (O+2) Y.1/\qC U b (O+3) Y.2):=eC (λh=>by
  have h1:=a6 h
  refine⟨h1,λU hU=>?_⟩
  have h2:l[1]?=some Y:=by rw[<-ao,lJ h1];rfl
  obtain⟨b',bj,ar,ac,bb,bc⟩:=am.at h2
  cases ar
  exact⟨(lA (w:=W) (a:=(b,O+2)) hU).trans bb,(lA (w:=W) (a:=(b,O+3)) hU).trans bc⟩);rw[ao]at hY|-;obtain⟨u,Z,ab,-,av⟩:=lB W (aK #[aD (.yield lp) #[] #[]] 478);obtain⟨V,M⟩:=eR ((u.alloc (aK #[t,n] 54)).alloc (aK #[true] 4));have ap:Bl u V:=by rw[<-M];exact(fL u _).alloc zS _
 have bi:V=(u:Nat)+2:=by rw[<-M];simp
 have ah:Bl W V:=ab.trans (ap.mono zO);obtain⟨M1,ag⟩:=eR (λq=>M0 q\/(W:Nat)<=q/\q<(V:Nat));have ae:∀k,M0 k->M1 k:=λk h=>by rw[<-ag];exact .inl h
 have S:Hid (LSt J M1 V [] V):=eC ⟨by rw[<-ag];exact hJ.grow a7 ah,eZ.refl _ _⟩;have ai:∀q,(W:Nat)<=q->q<(V:Nat)->M1 q:=λq h1 h2=>by rw[<-ag];exact .inr ⟨h1,h2⟩
 have HB:Hid (LsB ((u:Nat)+1) W u lb lp b O l.length c t n M1 V):=eC
  {more:=by
    have:=oI (u.alloc (aK #[t,n] 54)) 4 (aG true)
    rw[fO,M]at this;exact this
   yield:=(ap.block _ zO).trans (by rw[<-Z];exact oI W _ _)
   x0:=by rw[<-M,World.cell?_alloc_lt _ _ _ zS];exact eG.new u [t,n] 54 0 _ rfl
   x1:=by rw[<-M,World.cell?_alloc_lt _ _ _ zS];exact eG.new u [t,n] 54 1 _ rfl
   xl:=zO
   l:=(ah.block _ (pV aa)).trans aa
   bl:=zO
   mm:=ai _ zO zO
   my:=ai _ zO zO
   mx:=ai _ zO zO
   ml:=ae _ ml
   mn:=ae _ mn};have j:=eC (λaf(hx:g9 (t,n) Y=af)(aj:List (Int×List Int))(U U':aS)(hs:LSt J M1 V aj U)(hb:Bl U U')(op:Int)(L:List Int)(v:aT)(hl:eD kI 3 0 U' v L)(hp:aj++[(op,L)]<+:af)=>aBj hJ ae hY HB hs hb op L v hl (by rw[hx];exact hp));have R:=eC (λ(aj:List (Int×List Int))(U:aS)(hs:LSt J M1 V aj U)=>show qC U u 0 t/\qC U u 1 n/\qC U lb 0 (aA (some (b,O)) l.length c)/\U.heap[b]?=W.heap[b]?from
  have h:=HB.on hs.ch
  ⟨h.x0,h.x1,xA h.l,(hs.ch.block b HB.bl (λhn=>hn HB.mn)).trans (ah.block b ac)⟩);have f:=eC (λ(U:aS)(af:List (Int×List Int))(hx:g9 (t,n) Y=af)(hs:LSt J M1 V af U)=>show J (g9 (t,n) Y) M0 U by rw[hx];exact hJ.less hs.j ae);have c0:qC u lb 0 (aA (some (b,O)) l.length c):=xA ((ab.block _ (pV aa)).trans aa);have c1:qC u b O t:=(ab.cell (p:=(b,O)) ac).trans ak;have c2:qC u b (O+1) n:=(ab.cell (p:=(b,O+1)) ac).trans al;clear aa hB hN am ak al hY a7 aq au a6 ag ae ai ab ap ah av bi ao a8 ml mn hJ ac be;generalize l.length=len at*;obtain⟨bk,bm,bn,bo⟩:=R _ _ S;have ba:t<=6/\t≠1/\t≠2\/t=1\/t=2\/(7<=t/\t<=11)\/(12<=t/\t<=17)\/t=18\/t=19\/t=20\/t=21\/t=22\/t=23\/t=24\/t=25\/26<=t:=zO;obtain⟨h1,h2,h3⟩|rfl|rfl|⟨h1,h2⟩|⟨h1,h2⟩|rfl|rfl|rfl|rfl|rfl|rfl|rfl|rfl|h1:=ba
 .have hF:g9 (t,n) Y=[]:=by simp only[g9,xQ,yK,wY];rw[eE zO,eE zO,eE zO,eE zO,eE zO,eE zO,eE zO,eE zO];rfl
  have e1:(decide (7<=t))=false:=zT;have e2:(decide (t<=11))=true:=zT;have e3:(decide (12<=t))=false:=zT;have e4:(decide (t<=17))=true:=zT;have q1:(t==1)=false:=zT;have q2:(t==2)=false:=zT;have aw:(t==18)=false:=zT;have ax:(t==19)=false:=zT;have ay:(t==21)=false:=zT;have az:(t==22)=false:=zT;have aL:(t==23)=false:=zT;have a0:(t==24)=false:=zT;have a4:(t==25)=false:=zT;gi_wp2_with(first|(rw[Z])|(rw[M]));exact⟨_,iU rfl _ _ _,⟨_,rfl⟩,f _ _ hF S⟩
 .obtain⟨z1,av⟩:∃z,a9 (n+1)=z:=⟨_,rfl⟩;obtain⟨z2,bg⟩:∃z,a9 (n-1)=z:=⟨_,rfl⟩;have a1:aP.wrap (n+1)=z1:=by rw[iA,<-av];unfold a9;omega
  have a2:aP.wrap (n-1)=z2:=by rw[iA,<-bg];unfold a9;omega
  have hF:g9 (1,n) Y=[(4,uB n [0,1,-1,z1,z2])]:=by show [(4,uB n [0,1,-1,aP.wrap (n+1),aP.wrap (n-1)])]=_;rw[a1,a2]
  clear a1 a2;gi_wp2_with(first|(rw[Z])|(rw[M])|(refine⟨trivial,?_⟩;gi_at_call 357;refine(hH.2 (R8 n _ [0,1,-1,z1,z2] _ (QA [0,1,-1,z1,z2] V) zS)).mono ?_;rintro e U1⟨⟨v1,rfl,bf⟩,bd⟩;have D:=eC (bf.mono (kU _));have N:=eC ((fL V _).trans (bd.below zS (λk hk=>zO))))|(refine⟨trivial,?_⟩;gi_at_call 355;refine(j _ hF _ _ _ S (N) 4 (uB n [0,1,-1,z1,z2]) _ (D) zS).mono ?_;rintro e X⟨rfl,B⟩;change Hid _ at B;obtain⟨d10,d11,d12,d13⟩:=R _ _ B));exact⟨_,iU rfl _ _ _,⟨_,rfl⟩,f _ _ hF B⟩
 .obtain⟨z3,bh⟩:∃z,a9 (1-n)=z:=⟨_,rfl⟩;have a3:aP.wrap (1-n)=z3:=by rw[iA,<-bh];unfold a9;omega
  have hF:g9 (2,n) Y=[(4,[z3])]:=by show [(4,[aP.wrap (1-n)])]=_;rw[a3]
  clear a3;gi_wp2_with(first|(rw[Z])|(rw[M])|(refine⟨trivial,?_⟩;gi_at_call 355;refine(j _ hF _ _ _ S (fL V _) 4 ([z3]) _ (tW [z3] V zS) zS).mono ?_;rintro e X⟨rfl,B⟩;change Hid _ at B;obtain⟨d10,d11,d12,d13⟩:=R _ _ B));exact⟨_,iU rfl _ _ _,⟨_,rfl⟩,f _ _ hF B⟩
 .have hF:g9 (t,n) Y=[(1,yH 7 11 t)]:=by simp only[g9,xQ,yK,wY];rw[eI ⟨h1,h2⟩,eE zO,eE zO,eE zO];rfl
  have e1:(decide (7<=t))=true:=zT;have e2:(decide (t<=11))=true:=zT;have e3:(decide (12<=t))=false:=zT;have e4:(decide (t<=17))=true:=zT;have q1:(t==1)=false:=zT;have q2:(t==2)=false:=zT;have aw:(t==18)=false:=zT;have ax:(t==19)=false:=zT;have ay:(t==21)=false:=zT;have az:(t==22)=false:=zT;have aL:(t==23)=false:=zT;have a0:(t==24)=false:=zT;have a4:(t==25)=false:=zT;gi_wp2_with(first|(rw[Z])|(rw[M])|(refine⟨trivial,?_⟩;gi_at_call 356;refine(hH.2 (IA _ _ _ _ zO zO zO)).mono ?_;rintro e U1⟨⟨v1,rfl,D⟩,N⟩;replace D:=D.mono (kU _);change Hid _ at D N)|(refine⟨trivial,?_⟩;gi_at_call 355;refine(j _ hF _ _ _ S (N) 1 (yH 7 11 t) _ (D) zS).mono ?_;rintro e X⟨rfl,B⟩;change Hid _ at B;obtain⟨d10,d11,d12,d13⟩:=R _ _ B));exact⟨_,iU rfl _ _ _,⟨_,rfl⟩,f _ _ hF B⟩
 .have hF:g9 (t,n) Y=[(2,yH 12 17 t)]:=by simp only[g9,xQ,yK,wY];rw[eE zO,eI ⟨h1,h2⟩,eE zO,eE zO,eE zO];rfl
  have e1:(decide (7<=t))=true:=zT;have e2:(decide (t<=11))=false:=zT;have e3:(decide (12<=t))=true:=zT;have e4:(decide (t<=17))=true:=zT;have q1:(t==1)=false:=zT;have q2:(t==2)=false:=zT;have aw:(t==18)=false:=zT;have ax:(t==19)=false:=zT;have ay:(t==21)=false:=zT;have az:(t==22)=false:=zT;have aL:(t==23)=false:=zT;have a0:(t==24)=false:=zT;have a4:(t==25)=false:=zT;gi_wp2_with(first|(rw[Z])|(rw[M])|(refine⟨trivial,?_⟩;gi_at_call 356;refine(hH.2 (IA _ _ _ _ zO zO zO)).mono ?_;rintro e U1⟨⟨v1,rfl,D⟩,N⟩;replace D:=D.mono (kU _);change Hid _ at D N)|(refine⟨trivial,?_⟩;gi_at_call 355;refine(j _ hF _ _ _ S (N) 2 (yH 12 17 t) _ (D) zS).mono ?_;rintro e X⟨rfl,B⟩;change Hid _ at B;obtain⟨d10,d11,d12,d13⟩:=R _ _ B));exact⟨_,iU rfl _ _ _,⟨_,rfl⟩,f _ _ hF B⟩
 .have hF:g9 (18,n) Y=[(3,yH 18 19 18)]:=rfl;gi_wp2_with(first|(rw[Z])|(rw[M])|(refine⟨trivial,?_⟩;gi_at_call 356;refine(hH.2 (IA _ _ _ _ zO zO zO)).mono ?_;rintro e U1⟨⟨v1,rfl,D⟩,N⟩;replace D:=D.mono (kU _);change Hid _ at D N)|(refine⟨trivial,?_⟩;gi_at_call 355;refine(j _ hF _ _ _ S (N) 3 (yH 18 19 18) _ (D) zS).mono ?_;rintro e X⟨rfl,B⟩;change Hid _ at B;obtain⟨d10,d11,d12,d13⟩:=R _ _ B));exact⟨_,iU rfl _ _ _,⟨_,rfl⟩,f _ _ hF B⟩
 .have hF:g9 (19,n) Y=[(3,yH 18 19 19)]:=rfl;gi_wp2_with(first|(rw[Z])|(rw[M])|(refine⟨trivial,?_⟩;gi_at_call 356;refine(hH.2 (IA _ _ _ _ zO zO zO)).mono ?_;rintro e U1⟨⟨v1,rfl,D⟩,N⟩;replace D:=D.mono (kU _);change Hid _ at D N)|(refine⟨trivial,?_⟩;gi_at_call 355;refine(j _ hF _ _ _ S (N) 3 (yH 18 19 19) _ (D) zS).mono ?_;rintro e X⟨rfl,B⟩;change Hid _ at B;obtain⟨d10,d11,d12,d13⟩:=R _ _ B));exact⟨_,iU rfl _ _ _,⟨_,rfl⟩,f _ _ hF B⟩
 .have hF:g9 (20,n) Y=[]:=rfl;gi_wp2_with(first|(rw[Z])|(rw[M]));exact⟨_,iU rfl _ _ _,⟨_,rfl⟩,f _ _ hF S⟩
 .have hF:g9 (21,n) Y=[(5,[0])]:=rfl;gi_wp2_with(first|(rw[Z])|(rw[M])|(refine⟨trivial,?_⟩;gi_at_call 355;refine(j _ hF _ _ _ S (fL V _) 5 ([0]) _ (tW [0] V zS) zS).mono ?_;rintro e X⟨rfl,B⟩;change Hid _ at B;obtain⟨d10,d11,d12,d13⟩:=R _ _ B));exact⟨_,iU rfl _ _ _,⟨_,rfl⟩,f _ _ hF B⟩
 .have hF:g9 (22,n) Y=[(5,[0])]:=rfl;gi_wp2_with(first|(rw[Z])|(rw[M])|(refine⟨trivial,?_⟩;gi_at_call 355;refine(j _ hF _ _ _ S (fL V _) 5 ([0]) _ (tW [0] V zS) zS).mono ?_;rintro e X⟨rfl,B⟩;change Hid _ at B;obtain⟨d10,d11,d12,d13⟩:=R _ _ B));exact⟨_,iU rfl _ _ _,⟨_,rfl⟩,f _ _ hF B⟩
 .have hF:g9 (23,n) Y=[(5,[0]),(6,[0])]:=rfl;gi_wp2_with(first|(rw[Z])|(rw[M])|(refine⟨trivial,?_⟩;gi_at_call 355;refine(j _ hF _ _ _ B (fL X _) 6 ([0]) _ (tW [0] X zS) zS).mono ?_;rintro e V2⟨rfl,y⟩;change Hid _ at y;obtain⟨d20,d21,d22,d23⟩:=R _ _ y)|(refine⟨trivial,?_⟩;gi_at_call 355;refine(j _ hF _ _ _ S (fL V _) 5 ([0]) _ (tW [0] V zS) zS).mono ?_;rintro e X⟨rfl,B⟩;change Hid _ at B;obtain⟨d10,d11,d12,d13⟩:=R _ _ B));exact⟨_,iU rfl _ _ _,⟨_,rfl⟩,f _ _ hF y⟩
 .have hF:g9 (24,n) Y=[(5,[0]),(6,[0])]:=rfl;gi_wp2_with(first|(rw[Z])|(rw[M])|(refine⟨trivial,?_⟩;gi_at_call 355;refine(j _ hF _ _ _ B (fL X _) 6 ([0]) _ (tW [0] X zS) zS).mono ?_;rintro e V2⟨rfl,y⟩;change Hid _ at y;obtain⟨d20,d21,d22,d23⟩:=R _ _ y)|(refine⟨trivial,?_⟩;gi_at_call 355;refine(j _ hF _ _ _ S (fL V _) 5 ([0]) _ (tW [0] V zS) zS).mono ?_;rintro e X⟨rfl,B⟩;change Hid _ at B;obtain⟨d10,d11,d12,d13⟩:=R _ _ B));exact⟨_,iU rfl _ _ _,⟨_,rfl⟩,f _ _ hF y⟩
 .have hF:g9 (25,n) Y=[(5,[0]),(7,oG Y)]:=rfl;gi_wp2_with(first|(rw[Z])|(rw[M])|(refine⟨trivial,?_⟩;gi_at_call 358;refine(hH.2 (TP Y _)).mono ?_;rintro e U1⟨⟨v1,rfl,D⟩,N⟩;replace D:=D.mono (kU _);change Hid _ at D N)|(refine⟨trivial,?_⟩;gi_at_call 355;refine(j _ hF _ _ _ B (N) 7 (oG Y) _ (D) zS).mono ?_;rintro e V2⟨rfl,y⟩;change Hid _ at y;obtain⟨d20,d21,d22,d23⟩:=R _ _ y)|(refine⟨trivial,?_⟩;gi_at_call 355;refine(j _ hF _ _ _ S (fL V _) 5 ([0]) _ (tW [0] V zS) zS).mono ?_;rintro e X⟨rfl,B⟩;change Hid _ at B;obtain⟨d10,d11,d12,d13⟩:=R _ _ B;obtain⟨y0,y1⟩:=(a5 rfl).2 X d13;have y2:=(a5 rfl).1));exact⟨_,iU rfl _ _ _,⟨_,rfl⟩,f _ _ hF y⟩
 .have hF:g9 (t,n) Y=[]:=by simp only[g9,xQ,yK,wY];rw[eE zO,eE zO,eE zO,eE zO,eE zO,eE zO,eE zO,eE zO];rfl
  have e1:(decide (7<=t))=true:=zT;have e2:(decide (t<=11))=false:=zT;have e3:(decide (12<=t))=true:=zT;have e4:(decide (t<=17))=false:=zT;have q1:(t==1)=false:=zT;have q2:(t==2)=false:=zT;have aw:(t==18)=false:=zT;have ax:(t==19)=false:=zT;have ay:(t==21)=false:=zT;have az:(t==22)=false:=zT;have aL:(t==23)=false:=zT;have a0:(t==24)=false:=zT;have a4:(t==25)=false:=zT;gi_wp2_with(first|(rw[Z])|(rw[M]));exact⟨_,iU rfl _ _ _,⟨_,rfl⟩,f _ _ hF S⟩
theorem D4{F:Fence}{α:Type}{K:lL α}{S E:aX}(J:gY P S E K.k aa){M:Act}(ah:o.guard=none)(s x:Operand)
  (R:o.op=.call {callee:=.builtin .append,args:=#[s,x],argTypes:=#[S,S]})(n:Nat)(v:aT)(L:List α)(hs:M.eval s=v)(ab:eD K E n w v L)
  (N:Nat)(y:α)(B:List aT)(U:K.R w y B)(hx:M.eval x=aA (some (N,0)) 1 1)(O:eG w N 0 B)(ai:L.length+1<=10000000)(hb:n<=w)
  (aj:¬K.tags E)
  (h:∀D w',eD K E n w' D (L++[y])->w.grownBy w' v.ownBlock->aV n w w'->U8 w v D->wpListIn F m P ops Q ac (M.put o.dst D) w'):wpListIn F m P ops Q (o::ac) M w:=by
 obtain⟨i,z,hi,hz,am,af,ao⟩:=J.info;have hR:∀w' x B,w.grownBy w' v.ownBlock->K.R w x B->K.R w' x B:=λw' x B O h=>qT ab aj O h;obtain⟨ap,h1,h2⟩:=ab;have aq:=K.len U;have al:=J.small;obtain⟨D,w',ak,r1,W,r3⟩:=wK (P:=P) w n S o.type E i z K.k aa J.under hi hz am af ao J.pos v L.length ap.flatten h2 (N,0) B zO (λj u hj=>by rw[kJ,kQ];simpa using O j u hj) (K.one U) (by unfold aZ;omega) (by have:=Nat.mul_le_mul ai al;omega) hb;refine wpListIn_plain ah λK' ae=>?_;unfold Oper.wpIn;refine⟨?_,?_⟩
 .simp[Oper.about,R,resolve,Target.leads,Sem.run_pure]
 .rw[Oper.semAt_plain F _ _ (by rw[R];intro c ag;cases ag)];simp[execOp,R,resolve,invoke,builtin,hs,hx,ak,Result.andThen];exact ae _ _ (h D w' (qR h1 U r1 λx B=>hR w' x B W) W ((iL n w).grown W hb (λk hk=>(BK h2 k hk).1)) r3)
theorem sJ{g:aS}(d:eZ (May (λ_ _=>False) B M U) U g):fD B U g:=
 ⟨d.os,d.tape,d.output,d.size,λr o f e=>(d.block r (fB.1 f).1 λhm=>by
  obtain h|⟨h,o',h',h''⟩:=hm
  .exact h
  .obtain e|e:=e
   .omega
   .rw[f]at h';cases h';rw[e]at h'';cases h'').trans f⟩
theorem NJ{α:Type}(e:n<=B)(hw:n<=w):AY (λ_ _=>False) B (λ(_:List α)_ U=>aV n w U):=λ_ _ _ _ _ h d _=>(sJ d).below h e (fA hw h.size)
structure V9{α:Type}(K:lL α)(E T:aX)(n ob:Nat)(M:Nat->Prop)(L:List α)(v:aT)(U:aS):Prop where
 o:r9 K E T n ob L v U
 mo:¬M ob
 mv:∀q,v.ownBlock=some q->¬M q
theorem ZP{α β:Type}(K:lL α)(E T:aX)(n ob B:Nat)(f:List β->List α):AY (λ_ _=>False) B (λe M U=>∃v,V9 K E T n ob M (f e) v U):=λe M M' U U'⟨v,h,h1,h2⟩hc hm=>
 ⟨v,(sJ hc).out h,λd=>by
  obtain h3|h3:=hm _ d
  .exact h1 h3
  .have:=(fB.1 h.1).1
   omega,λq hq d=>by
  obtain h3|h3:=hm _ d
  .exact h2 q hq h3
  .have:=(h.2.lt q hq).2
   omega⟩
theorem V9.step{α:Type}{K:lL α}{E T:aX}{L C:List α}{g:aT}{i:aS}{o:Obj}(h:V9 K E T n f M L v U)(F:E≠T)(aa:¬K.tags T)(hM:∀q,M q->q<U)
  (ag:eD K E n i g C)(G:(U.alloc o).grownBy i v.ownBlock)(ae:U8 (U.alloc o) v g):
  V9 K E T n f M C g (qS i (f,0) g)/\(∀B,tD M B U (qS i (f,0) g))/\(∀j w,j<=f->j<=n->j<=U->aV j w U->aV j w (qS i (f,0) g))/\
   (∀m:aX,m≠T->m≠E->∀(k:Nat)(u:Array aT)(z:Nat×Nat),U.heap[k]?=some (aK u m z)->(qS i (f,0) g).heap[k]?=U.heap[k]?):=by
 have ab:Bl U (U.alloc o):=fL U _
 have af:=h.o.later ab
 have ac:=af.grown F G
 have y:eZ (λq=>q=f\/v.ownBlock=some q) U (qS i (f,0) g):=(((eZ.refl _ _).alloc o).grown G (λr hr=>.inl (.inr hr))).set (.inl (.inl rfl)) _
 have ai:=(fB.1 h.o.1).1
 refine⟨⟨r9.put ac F aa ag,h.mo,λq hq d=>?_⟩,λB=>tD.chg y (λk d=>by obtain rfl|d:=d;exact h.mo;exact h.mv k d) (λk d _=>?_),λj w x D h3 h4=>h4.trans (y.below h3 (λk d=>?_)),λm x D k u z d=>y.block k (fB.1 d).1 (λA=>?_)⟩
 .obtain e|e:=ae
  .exact h.mv q (e▸hq) d
  .rw[e]at hq
   cases hq
   have:=hM _ d
   simp at this
   omega
 .obtain rfl|d:=d
  .exact⟨_,h.o.1,rfl⟩
  .obtain⟨u,s⟩:=h.o.2.tag k d
   exact⟨_,s,rfl⟩
 .obtain rfl|d:=d
  .exact x
  .have:=(h.o.2.lt k d).1
   omega
 .obtain rfl|A:=A
  .rw[h.o.1]at d;cases d;exact x rfl
  .obtain⟨ah,s⟩:=h.o.2.tag k A
   rw[d]at s;cases s;exact D rfl
section
attribute [local go_sem] Oper.semAt_some
def kC:lL (Int×Int) where
 k:=3
 R:=λ_ x e=>e=[aA none 0 0,aC aP x.1,aC aP x.2]
 len:=λh=>by rw[h];rfl
 one:=λh u d=>by rw[h]at d;simp at d;obtain rfl|rfl|rfl:=d<;>rfl
 tags:=λ_=>False
 on:=λh _=>h
theorem YP:gY prog 122 38 3 40:=gY.of underlying122 zK zO zO
def FW(d:List (Int×List Int)):List (Int×Int):=d.flatMap λx=>x.2.map λn=>(x.1,n)
theorem Q5(e:List (Int×List Int))(d:Int)(L:List Int):FW (e++[(d,L)])=FW e++L.map λn=>(d,n):=by simp[FW]
theorem ML(b:Int)(l:List Int):(uB b l).length<=l.length:=by unfold uB;refine fA (cU _ _) (fA (Lib.compact_length_le _) ?_);rw[List.length_mergeSort];exact eX _
theorem OJ(x y:Nd):(FW (g9 x y)).length<=100:=by
 have e:FW (g9 x y)=FW (xQ x)++(FW (yK x)++FW (wY x y)):=by simp[g9,FW]
 have j:(FW (xQ x)).length<=20:=by
  unfold xQ;have r:=λd i=>ST d x.1 (i-d+1).toNat;have f:=r 7 11;have g:=r 12 17;have h:=r 18 19;rw[<-SK]at f g h;repeat' split
  all_goals simp[FW]
  .simp at f;omega
  .simp at g;omega
  .simp at h;omega
  .exact fA (ML _ _) zS
 have k:(FW (yK x)).length<=1:=by unfold yK;split<;>simp[FW]
 have m:(FW (wY x y)).length<=2:=by
  unfold wY;repeat' split
  all_goals simp[FW]
  unfold oG;split
  .exact fA (ML _ _) zS
  .simp
 rw[e,iR,iR];omega
theorem aGw{d e:List (Int×List Int)}(h:d<+:e):(FW d).length<=(FW e).length:=by obtain⟨r,rfl⟩:=h;simp[FW]
theorem aEn{x:Nd}(h:x.1≠25)(y z:Nd):g9 x y=g9 x z:=by unfold g9 wY;rw[eE h,eE h]
theorem aBM(B:Option Addr)(n c:Nat)(w:aS):qK 330 #[aA B n c] w λe w'=>e=aO (aD (.func 354) #[] #[qP w 0])/\w'=w.alloc (aK #[aA B n c] 23):=by go_enter func330,ntmps330;go_wp2;go_ret;exact⟨rfl,rfl⟩
theorem RT(pa:Option Addr)(c:Nat)(l:List Nd)(k:Nat)(w:aS)(hL:eP w pa l)(hm:l.length<=100000)(hc:l.length<=c)(bp:c<=aZ):
  qK 285 #[aA pa l.length c,aC aP k] w λe w'=>mR kC 38 w (jC l k) w' e/\Bl w w':=by
 obtain⟨W,hW,ah,-,af⟩:=lB w (aK #[aA none 0 0] 122);have x5:Boxed W w 122 (aA none 0 0):=by rw[<-hW];exact oI w _ _
 have CP:=eC (aEt pa c l k W (hL.later ah) hm hc bp);have HX:=eC x5;have a1:=eC ah;have HZ:=eC af;cases he:iD l k with
 |none=>
  have Y:tV l k=[]:=by unfold tV;rw[he]
  have R:jC l k=[]:=by unfold jC;rw[he]
  rw[Y]at CP;rw[R];clear Y R he hL ah af x5;generalize l.length=m at*;go_enter func285,ntmps285;go_wp2_with(first|(rw[hW])|(go_at_call 329;refine CP.mono ?_;rintro e u⟨⟨v,rfl,S⟩,X⟩;obtain⟨a,c,rfl,aj,_⟩:=S.ls;have cx:=xA ((X.block _ (pV HX)).trans HX)));go_ret;exact⟨⟨_,rfl,eD.nil _ _ _ _⟩,fC a1 X⟩
 |some e=>
  have a8:=jW he;obtain⟨x,a0,hx,ha,hg,bq⟩:=lI he;have Y:tV l k=(l.take e).drop k:=by unfold tV;rw[he]
  have aw:(tV l k)[0]?=some x:=by rw[Y,List.getElem?_drop,List.getElem?_take,eI (by omega)];exact hx
  have ak:x.1=25->1<(tV l k).length:=λh=>by
   have hk:=qZ he hx ha;have bx:a0=1:=by have:=(lX ha).1;unfold xG nN at this;rw[eE (by omega)]at this;simp[h]at this;split at this<;>omega
   have bV:=hk.2.1;obtain⟨q,hq⟩:∃q,(eO l k)[0]?=some q:=⟨_,lJ (by omega)⟩;obtain⟨h1,e',h2,h3⟩:=oT he q (iG hq);have:=jW h2;rw[Y,sB,jR];omega
  have R:jC l k=FW (g9 x ((tV l k)[1]?.getD (0,0))):=by
   unfold jC;rw[he];simp only[jC.nodeL,hx,Option.getD_some];show FW _=_;by_cases h:x.1=25
   .have:=ak h;congr 2;rw[Y,List.getElem?_drop,List.getElem?_take];rw[Y,sB,jR]at this;rw[eI (by omega)]
   .rw[aEn h]
  rw[R];have ai:=OJ x ((tV l k)[1]?.getD (0,0));generalize tV l k=p at*;obtain⟨XS,al⟩:=eR (g9 x (p[1]?.getD (0,0)));rw[al]at ai|-;have ay:0<p.length:=(gX.1 aw).1;clear Y R he hL ah af x5 hg hx ha bq a8;generalize l.length=m at*;refine(hH (n:=2)).1 ?_;refine xI func285 rfl trivial ?_ rfl;simp only[ntmps285,PO,iW,rP,Nat.reduceAdd,Nat.reduceSub,XO,VA,XZ,WO,uS,rO];gi_wp2_with(first|(rw[hW])|(refine⟨trivial,?_⟩;gi_at_call 329;refine(hH.2 CP).mono ?_;rintro e u⟨⟨v,rfl,S⟩,X⟩;obtain⟨a,ca,rfl,aj,ax⟩:=S.ls;change Hid _ at S aj X ax)|(refine⟨trivial,?_⟩;gi_at_call 330;refine(hH.2 (aBM _ _ _ _)).mono ?_;rintro e w2⟨rfl,ae⟩));subst ae;obtain⟨g,rfl⟩:∃g,a=some ⟨g,0,none⟩:=by obtain⟨a',c',hv,_,h2,_⟩:=fV S;cases hv;exact h2 (λh=>by rw[h]at ay;cases ay)
  obtain⟨a6,a7,_,_⟩:=ax _ rfl;simp only at a6 a7;have af:=HZ.out;have az:=X.size;obtain⟨w2,ae,ag,-,bh⟩:=lB u (aK #[aA (some ⟨g,0,none⟩) p.length ca] 23);have bf:Boxed w2 u 23 (aA (some ⟨g,0,none⟩) p.length ca):=by rw[<-ae];exact oI u _ _
  have a5:Bl w w2:=a1.trans ((X.trans (ag.mono az)).mono (by omega));have bg:Boxed w2 w 122 (aA none 0 0):=((X.trans (ag.mono az)).block _ (pV HX)).trans HX;have ap:=aBN (u:Nat) g 0 ca p x (λq=>q=(u:Nat)\/q=g) w2 aw ak bf ((nG.2 aj).later ag) (.inl rfl) (.inr rfl) (λk hk=>by omega);rw[al]at ap;have a3:AY (λ_ _=>False) w2 (λ(O:List (Int×List Int))M U=>Bl w U/\∃v,V9 kC 38 122 w w M (FW O) v U):=(NJ (by omega) (eX _)).and (ZP _ _ _ _ _ _ _);rw[ae];have bj:=eC (λO(h:O<+:XS)=>aGw h);clear bf ag aj S X ax;refine PU (n:=0) (gf:=354) (lb:=#[aE (some ⟨u,0,none⟩)]) (A:=λ_ _=>False) (Enc:=aIs) rfl (l8 func354 (by kernel_rfl) rfl)
   ap (λk hk=>by omega) (λ_ _ h=>h.elim) (λx f U⟨_,h,_⟩=>by rw[h];rfl) (λx f U U'⟨v,h,hh⟩gg=>⟨v,h,gg.ownLs hh⟩)
   _ a3 ⟨a5,aA none 0 0,⟨bg,eD.nil _ _ _ _⟩,λh=>by omega,λq h=>by cases h⟩
   (λU x f=>{tmps:=#[aA pa m c,aC aP k,aY,aY,aA none 0 0,aE (some ⟨w,0,none⟩),aA (some ⟨g,0,none⟩) p.length ca,f.getD 0 aY,f.getD 1 aY,aY,aY,aA pa m c,aC aP k,aA (some ⟨g,0,none⟩) p.length ca,aA (some ⟨g,0,none⟩) p.length ca,aC aP (p.length:Nat),aG true,aA (some ⟨g,0,none⟩) p.length ca,aD (.func 354) #[] #[aE (some ⟨u,0,none⟩)],f.getD 0 aY,f.getD 1 aY,aY,aY,aY,aY,aY,aY,aY,aY,aY,aY,aY,aY,aY,aY],defers:=[]})
   (λU _ _=>U) (λU _ _=>iL _ _) ?_ ?_ ?_
  .rintro lq⟨N,L⟩f U K⟨v,rfl,S⟩hK;obtain⟨aL,cL,rfl,_,_,_⟩:=fV S;clear S;gi_wp2
   first|exact hK|simpa using hK
  .rintro lq O⟨N,L⟩f M U0 U⟨ac,v,J⟩a4 bm⟨vL,rfl,au⟩bb b1 br bt;obtain⟨aL,cL,rfl,_,_,_⟩:=fV au;have bn:Hid (∀q,M q->q<(U:Nat)):=eC (λq h=>by have:=a4 q h;omega);have ar:Hid ((FW O).length+L.length<=100):=eC (by
    have:=bj _ bb
    rw[Q5,iR,rN]at this
    omega);have HO:=eC J;have bi:=eC ac;have a2:=eC au;have bu:=eC bh;clear J ac au a4 bm bb br ap bt bh az af a6 a7 al ak aw ay hW ae a5 bg a3
   try dsimp only
   obtain⟨ab,aa⟩:=eR L.length;rw[aa]at ar a2|-;have b0:ab<=100:=by have:=ar.out;omega
   change Hid _ at aa;gi_wp2;gi_loopw [23] (λi V=>∃(j:Nat)(v':aT),j<=ab/\i=aC aP j/\Hid (V9 kC 38 122 w w M (FW O++(L.take j).map λn=>(N,n)) v' V)/\Hid (tD M w2 U V)/\Hid (Bl w V)/\Hid (eD kI 3 0 V (aA aL ab cL) L)) (λi _=>ab-(aW i).toNat)
   case atStart=>exact⟨0,v,kU _,rfl,eC (by simpa using HO.out),eC (tD.refl _ _ _),bi,a2⟩
   case round=>
    obtain⟨j,v',hj,rfl,J,R,hB,hL⟩:=hrel;by_cases a8:j<ab
    .obtain⟨y,aq⟩:∃y,L[j]?=some y:=⟨_,lJ (by have:=aa.out;omega)⟩;obtain⟨gL,bv,bd,_,_,bL,_⟩:=vO hL.out aq;rw[aa]at bd;cases bd;have bA:=xA J.out.o.1;have bs:Hid ((U:Nat)<=(wr:Nat)):=eC R.out.size;have bk:Hid (∀q,M q->q<(wr:Nat)):=eC (λq h=>gV (bn q h) bs);have HA:=eC (J.out.o.later ((iL _ wr).alloc (eX _) (aK #[aA none 0 0,aC aP N,aC aP y] 38)));have ai:Hid ((FW O++(L.take j).map λn=>(N,n)).length+1<=10000000):=eC (by
      have:=ar.out
      rw[iR,rN,jR,aa]
      omega);have be:Hid ((w:Nat)<=(wr:Nat)):=eC hB.out.size;have bc:Hid ((FW O++(L.take j).map λn=>(N,n))++[(N,y)]=FW O++(L.take (j+1)).map λn=>(N,n)):=eC (by rw[F4,aq,DO,jH];rfl);clear aq;generalize(FW O++(L.take j).map λn=>(N,n))=Z at J HA ai bc;gi_wp2_with(refine D4 YP rfl _ _ rfl (w:Nat) v' _ rfl HA.2 (wr:Nat) (N,y) [aA none 0 0,aC aP N,aC aP y] rfl rfl (eG.new _ _ _) ai (by have:=be.out;simp;omega) (λh=>h) ?_;intro v3 W3 av ao bo ba;obtain⟨g3,bw,rfl⟩:=av.form;change Hid _ at ao ba;have am:=HA.grown (by decide) ao;have bz:=xA am;have bO:=Boxed.frozen am;change Hid _ at av am bo);obtain⟨s1,s2,s3,s4⟩:=J.out.step (by decide) (λh=>h) bk av ao ba;go_roundw
     case rel=>exact⟨j+1,_,by omega,by go_num,eC (by rw[<-bc];exact s1),eC (R.out.trans (s2 _)),eC (s3 _ _ (eX _) (eX _) be hB.out),eC (hL.out.on (λq hq=>by obtain⟨bl,hc⟩:=hL.out.tag q hq;exact s4 _ (by decide) (by decide) q bl _ hc) λ_ _ _ h=>h)⟩
     case measure=>simp[aW];omega
    .obtain rfl:j=ab:=zO;gi_wp2;refine⟨R.out,hB.out,v',?_⟩;have:=J.out;rw[nH (by have:=aa.out;omega),<-Q5]at this;exact this
  .rintro D U hD⟨ac,v,J⟩hK;have hc:=xA J.o.1;have HR:=eC ((fD.put (B:=(w2:Nat)) (aM none) hD hK rfl).ownLs J.o.2);have HB:=eC (ac.trans (belowK_b (w:=w) (eX _) U D _ (aM none) (by omega) hK rfl rfl));clear J ac
   try dsimp only
   gi_wp2;refine⟨by simp,.inl ⟨_,_,rfl,E6 hK,?_⟩⟩;refine⟨_,results_tmp rfl _ _ _,?_,HB⟩;exact⟨v,rfl,HR⟩
end
end Go.Proofs.YtgmjilingndloaaGreatDoor
