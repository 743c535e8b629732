/- Part 4 of the proof of TopFuel. No conditions. -/
import Derived.Test.YtgmjilingndloaaGreatDoorZ3
import Derived.StillTailTactics
open Array renaming replicate->bQ
open Classical renaming not_not->cT
open Go renaming TypeId->aX,Value->aT,World->aS,maxLen->aZ,undef->aY
open Go.Act renaming put->bS
open Go.Ending renaming returned->aO
open Go.IntKind renaming i64->aP,u32->aQ
open Go.Obj renaming cells->aK,deferred->aM
open Go.RowKit renaming Below->aV,intOf->aW
open Go.Value renaming agg->aH,bool->aG,func->aD,int->aC,pointer->aE,slice->aA,tuple->aF
open List renaming length_set->cJ,mem_of_mem_take->bW
namespace Go.Proofs.YtgmjilingndloaaGreatDoor
set_option linter.unusedVariables false
set_option linter.unusedSimpArgs false
set_option maxRecDepth 100000
set_option maxHeartbeats 20000000
open Go Go.RowKit Go.Proofs.Tryz Go.Shelf
variable{n g k l e f i id r m j n2:Nat}{w w' V:aS}{ops:Array Oper}{P:Program}{Q:Exit->Act->aS->Prop}{v:aT}{a:Act}{p:Pg}{L:List Nd}{d:Option Addr}{x:Dl}{o:Oper}
def NL(f d:Option Addr)(g e:Nat)(p:Pg)(k n:Int):aT:=aH #[aC aP p.pa,aA f p.vs.length g,aA d p.bd.length e,aC aP k,aC aP n]
def wO(f d:Option Addr)(g e:Nat)(p:Pg)(k n:Int):List aT:=[aC aP p.pa,aA f p.vs.length g,aA d p.bd.length e,aC aP k,aC aP n]
theorem oH.c5{a b c d e:aT}(h:oH w r [a,b,c,d,e]):qC w r 0 a/\qC w r 1 b/\qC w r 2 c/\qC w r 3 d/\qC w r 4 e:=⟨h.at rfl,h.at rfl,h.at rfl,h.at rfl,h.at rfl⟩
theorem vC(J S:Option Addr)(M B:Nat)(p:Pg)(k:Nat)(n:Int)(x:Nd)(w:aS)(hp:iE w J S M B p)(Y:p.bd[k]?=some x):
  qK 292 #[NL J S M B p k n] w (Rt (aH #[qI x.1,qI x.2]) w):=by
 obtain⟨b,D,y,U,Z,f⟩:=hp.2.1.at Y;subst y;have aa:=(gX.1 Y).1;obtain⟨t,q⟩:=x;unfold NL;obtain⟨V,N⟩:=eR ((w.alloc (aK (wO J (some (b,D)) M B p k n).toArray 392)).alloc (aK #[qI 0,qI 0] 54));have u:Bl w (w.alloc (aK (wO J (some (b,D)) M B p k n).toArray 392)):=fL w _;have O:Bl w V:=by rw[<-N];exact u.alloc zS _
 have X:oH V w (wO J (some (b,D)) M B p k n):=by rw[<-N];exact(boxed w _ _).later (fL _ _)
 have W:oH V ((w:Nat)+1) [qI 0,qI 0]:=by have:=boxed (w.alloc (aK (wO J (some (b,D)) M B p k n).toArray 392)) [qI 0,qI 0] 54;rw[fO]at this;rw[<-N];exact this
 have R:V.heap[(w:Nat)+1]?=some (aK #[qI 0,qI 0] 54 (0,0)):=by rw[<-N];have:=fG (w.alloc (aK (wO J (some (b,D)) M B p k n).toArray 392)) (aK #[qI 0,qI 0] 54);rwa[fO]at this
 have n0:=W.at (i:=0) rfl;have n1:=W.at (i:=1) rfl;have f0:qF V ((w:Nat)+1) 0:=g8 V _ _ _ _ R;have f1:qF V ((w:Nat)+1) 1:=g8 V _ _ _ _ R;unfold wO at X N;obtain⟨c0,c1,c2,c3,c4⟩:=X.c5;have d0:=(O.cell (p:=(b,D+k*2)) U).trans Z;have d1:=(O.cell (p:=(b,D+k*2+1)) U).trans f;change Hid _ at R O;generalize p.vs.length=m1 at*;generalize p.bd.length=m2 at*;generalize p.pa=pa at*;go_enter func292,ntmps292;go_wp2_with(rw[N]);refine gO (EP rfl _ _ ((w:Nat)+1) 54 #[t,q] (0,0) _ rfl ?_ underlying54 rfl zK) rfl ⟨rfl,?_⟩
 .have j:=iB V ((w:Nat)+1) 0 _ _ (qI t) R;exact iB _ ((w:Nat)+1) 1 _ _ (qI q) j
 .exact(O.setCell (by show _<=(w:Nat)+1;omega) _).setCell (by show _<=(w:Nat)+1;omega) _
theorem JI(b g c:Nat)(l:List Nd)(w:aS)(q:eP w (some (b,g)) l)(hm:l.length<=100000):
  qK 296 #[aA (some (b,g)) l.length c] w λe w'=>mR kP 54 w l w' e/\Bl w w':=by
 obtain⟨d,f,hC⟩:∃d,Enc kP w l d/\eG w b g d.flatten:=by
  obtain rfl|⟨b',off',h,hlt,hh⟩:=nG.1 q
  .exact⟨[],Enc.nil _ _,eG.nil⟩
  .cases h;exact UQ hh
 obtain⟨E,z,r,A,B,C,D⟩:=(show∃(i:TypeInfo)(z:aT),prog.info? 54=some i/\i.zero=some z/\i.size=2/\i.bytes=16/\z.cells.size=2 from(gY.of underlying23 zK zO zO).info);have k:=yE f.lens;rw[f.1]at k;have h:=AnyE.slices_Clone lCN E z 2 16 r A B C D zO sizeOf54 b g l.length c d.flatten w k (by unfold aZ;omega) zO (λj u s=>hC j u s) f.ones;refine Calls.mono h ?_;rintro e w'⟨v,rfl,m,_,n⟩;exact⟨⟨v,rfl,d,f.on (λx _ F y=>y),m⟩,n⟩
theorem M8(a b:aT):∀(d:List (List aT))(k:Nat),(∀e∈d,e.length=2)->k<d.length->(d.set k [a,b]).flatten=(d.flatten.set (k*2) a).set (k*2+1) b
 |[],k,_,h=>absurd h zS
 |ys::r,0,hl,_=>by
  have:ys.length=2:=hl ys zS
  match ys,this with
  |[u,v],_=>rfl
 |ys::r,k+1,hl,h=>by
  have f:ys.length=2:=hl ys zS
  have i:=M8 a b r k (λe g=>hl e (BP _ g)) (by simpa using h)
  match ys,f with
  |[u,v],_=>
   simp only[aFK,L3,i]
   rw[show(k+1)*2=k*2+1+1 by omega]
   rfl
theorem aFb{E:aX}{q:Nat}(h:eD kP E n w (aA (some (g,0)) m q) L)(hm:m=L.length)(j:k<L.length)(x:Nd):
  eD kP E n (qS (qS w (g,k*2) (qI x.1)) (g,k*2+1) (qI x.2)) (aA (some (g,0)) m q) (L.set k x):=by
 subst hm;obtain⟨r,d,s⟩:=h;have C:=(s.stored (k*2) (qI x.1)).1;have D:=(C.stored (k*2+1) (qI x.2)).1;have B:=d.lens;refine⟨r.set k [x.1,x.2],⟨by simp[d.1],λi y f=>?_⟩,?_⟩
 .by_cases hik:i=k
  .subst hik;rw[List.getElem?_set_self j]at f;cases f;exact⟨_,List.getElem?_set_self (by rw[d.1];exact j),rfl⟩
  .rw[List.getElem?_set_ne (λe=>hik e.symm)]at f;obtain⟨F,u,A⟩:=d.2 i y f;exact⟨F,by rw[List.getElem?_set_ne (λe=>hik e.symm)];exact u,A⟩
 .rw[M8 _ _ r k B (by rw[d.1];exact j),cJ];exact D
theorem aGg{E:aX}(h:eD kP E n w v L)(y:k<L.length):∃g e a b,v=aA (some (qP g 0)) L.length e/\n<=g/\w.cell? (qP g (k*2))=some a/\w.cell? (qP g (k*2+1))=some b/\(∀j,w.frozen? (qP g j)=false):=by
 obtain⟨N,f,d⟩:=h;obtain⟨i,B⟩|⟨g,e,A,i,x,F,J,C,D,K⟩:=d.2
 .omega
 .rw[i]at d;obtain⟨M,m,u⟩:=f.2 k L[k] (lJ y);have q:=u;have r:=ED f.lens m 0 (qI L[k].1) (by rw[q];rfl);have s:=ED f.lens m 1 (qI L[k].2) (by rw[q];rfl);have G:k*kP.k+1<L.length*kP.k:=by show k*2+1<L.length*2;omega
  exact⟨g,e,_,_,i,x,(d.cellAt (k*2) (by show k*2<L.length*2;omega)).trans r,(d.cellAt (k*2+1) (by show k*2+1<L.length*2;omega)).trans s,λj=>d.frozenAt j⟩
theorem aAb(M j:Option Addr)(N B:Nat)(p:Pg)(k:Nat)(n t q:Int)(w:aS)(hp:iE w M j N B p)(S:k<p.bd.length)(hm:p.bd.length<=100000):
  qK 293 #[NL M j N B p k n,aH #[aC aP t,aC aP q]] w λe w'=>mR kP 54 w (p.bd.set k (t,q)) w' e/\Bl w w':=by
 obtain⟨b,R,ae,ag,_,_⟩:=hp.2.1.at (lJ S);subst ae;unfold NL;obtain⟨V,J⟩:=eR ((w.alloc (aK (wO M (some ⟨b,R,none⟩) N B p k n).toArray 392)).alloc (aK #[aC aP t,aC aP q] 54));have ac:Bl w (w.alloc (aK (wO M (some ⟨b,R,none⟩) N B p k n).toArray 392)):=fL w _;have u:Bl w V:=by rw[<-J];exact ac.alloc (by simp) _
 have X:oH V w (wO M (some ⟨b,R,none⟩) N B p k n):=by rw[<-J];exact(boxed w _ _).later (fL _ _)
 have x:oH V ((w:Nat)+1) [aC aP t,aC aP q]:=by have:=boxed (w.alloc (aK (wO M (some ⟨b,R,none⟩) N B p k n).toArray 392)) [aC aP t,aC aP q] 54;rw[fO]at this;rw[<-J];exact this
 have Y:=eC (JI b R B p.bd V (hp.2.1.later u) hm);unfold wO at X J;have f:=eC (λU(h:Bl V U)=>(X.later h).c5);have HN:=eC (λU(h:Bl V U)=>show U.cell? ⟨(w:Nat)+1,0,none⟩=some (aC aP t)/\U.cell? ⟨(w:Nat)+1,1,none⟩=some (aC aP q)from⟨(x.later h).at rfl,(x.later h).at rfl⟩);obtain⟨c0,c1,c2,c3,c4⟩:=X.c5;have Z:=eC u;have HK:=eC S;obtain⟨m2,D⟩:=eR p.bd.length;rw[D]at S c2 f Y J|-;replace D:=eC D;generalize p.vs.length=m1 at*;generalize p.pa=pa at*;go_enter func293,ntmps293;go_wp2_with(first|(rw[J])|(go_at_call 296;refine Y.mono ?_;rintro e w1⟨⟨v,rfl,W⟩,O⟩;obtain⟨g,af,ca,cb,rfl,aj,ah,ai,y⟩:=aGg W HK;rw[D];have f0:=y (k*2);have f1:=y (k*2+1);obtain⟨d0,d1,d2,d3,d4⟩:=f w1 O;obtain⟨e0,e1⟩:=HN w1 O;replace W:=eC W;replace O:=eC O));go_ret;have aa:=W.out;rw[D]at aa;have ab:=Z.size;exact⟨⟨_,rfl,(aFb aa D.symm (by rw[D];exact S) (t,q)).mono ab⟩,((Z.trans (O.mono ab)).setCell (by show _<=g;omega) _).setCell (by show _<=g;omega) _⟩
theorem EK(a b:Int)(w:aS):(Instr.field 54 (aH #[qI a,qI b]) 0).run prog w=.ok (qI a) w:=zK
theorem aFR(a b:Int)(w:aS):(Instr.field 54 (aH #[qI a,qI b]) 1).run prog w=.ok (qI b) w:=zK
def Q3(t n e d:Int):Bool:=decide (e<=t)&&decide (t<=d)&&decide (e<=n)&&decide (n<=d)
theorem aDh(Y R:Option Addr)(Z S:Nat)(p:Pg)(k:Nat)(n D X:Int)(x:Nd)(w:aS)(hp:iE w Y R Z S p)(y:p.bd[k]?=some x):
  qK 339 #[NL Y R Z S p k n,qI D,qI X] w (Rt (aG (Q3 x.1 n D X)) w):=by
 obtain⟨V,N,O,-⟩:=lB w (aK (wO Y R Z S p k n).toArray 392);have u:oH V w (wO Y R Z S p k n):=by rw[<-N];exact boxed w _ _
 have M:=eC (vC Y R Z S p k n x V (hp.later O) y);unfold wO at u N;unfold NL at M|-;have f:=eC (λU(h:Bl V U)=>(u.later h).c5);obtain⟨c0,c1,c2,c3,c4⟩:=u.c5;obtain⟨t,q⟩:=x;change Hid _ at O;generalize p.bd.length=m2 at*;generalize p.vs.length=m1 at*;generalize p.pa=pa at*;unfold Q3;simp only at M|-;have aa:=EK t q;by_cases h1:D<=t
 case neg=>
  have W:decide (D<=t)=false:=by simpa using h1
  rw[W];simp only[Bool.false_and];go_enter func339,ntmps339;go_wp2_with(first|(rw[N])|(go_at_call 292;refine M.mono ?_;rintro e J⟨rfl,B⟩;obtain⟨d0,d1,d2,d3,d4⟩:=f J B;change Hid _ at B));go_ret;exact⟨rfl,fC O B⟩
 have W:decide (D<=t)=true:=by simpa using h1
 by_cases h2:t<=X
 case neg=>
  have j:decide (t<=X)=false:=by simpa using h2
  rw[W,j];simp only[Bool.and_false,Bool.false_and];go_enter func339,ntmps339;go_wp2_with(first|(rw[N])|(go_at_call 292;refine M.mono ?_;rintro e J⟨rfl,B⟩;obtain⟨d0,d1,d2,d3,d4⟩:=f J B;change Hid _ at B));go_ret;exact⟨rfl,fC O B⟩
 have j:decide (t<=X)=true:=by simpa using h2
 by_cases h3:D<=n
 case neg=>
  have e3:decide (D<=n)=false:=by simpa using h3
  rw[W,j,e3];simp only[Bool.and_false,Bool.false_and];go_enter func339,ntmps339;go_wp2_with(first|(rw[N])|(go_at_call 292;refine M.mono ?_;rintro e J⟨rfl,B⟩;obtain⟨d0,d1,d2,d3,d4⟩:=f J B;change Hid _ at B));go_ret;exact⟨rfl,fC O B⟩
 have e3:decide (D<=n)=true:=by simpa using h3
 rw[W,j,e3];simp only[Bool.true_and];go_enter func339,ntmps339;go_wp2_with(first|(rw[N])|(go_at_call 292;refine M.mono ?_;rintro e J⟨rfl,B⟩;obtain⟨d0,d1,d2,d3,d4⟩:=f J B;change Hid _ at B));go_ret;exact⟨rfl,fC O B⟩
theorem PY(J B:Option Addr)(M D:Nat)(p:Pg)(k:Nat)(n S R:Int)(w:aS)(u:iE w J B M D p)(hk:k<p.bd.length)(hm:p.bd.length<=100000):
  qK 291 #[NL J B M D p k n,qI S,qI R] w λe w'=>mR kP 54 w (EA p.bd k n S R) w' e/\Bl w w':=by
 obtain⟨x,y⟩:∃x,p.bd[k]?=some x:=⟨_,lJ hk⟩;have hR:EA p.bd k n S R=if Q3 x.1 n S R then p.bd.set k (n,x.2)else []:=by unfold EA Q3;rw[y];simp only[Option.getD_some,BV,AX,and_assoc]
 rw[hR];obtain⟨V,Z,O,-⟩:=lB w (aK (wO J B M D p k n).toArray 392);have aa:oH V w (wO J B M D p k n):=by rw[<-Z];exact boxed w _ _
 have X:=eC (aDh J B M D p k n S R x V (u.later O) y);have f:=eC (λU(h:Bl V U)=>show qK 292 #[NL J B M D p k n] U (Rt (aH #[qI x.1,qI x.2]) V)from(vC J B M D p k n x U ((u.later O).later h) y).mono λe w' Y=>⟨Y.1,fC h Y.2⟩);have j:=eC (λU(h:Bl V U)=>show qK 293 #[NL J B M D p k n,aH #[qI n,qI x.2]] U λe w'=>(∃v,e=aO v/\Hid (eD kP 54 w w' v (p.bd.set k (n,x.2))))/\Bl V w' from(aAb J B M D p k n n x.2 U ((u.later O).later h) hk hm).mono λe w'⟨⟨v,h1,Y⟩,h3⟩=>⟨⟨v,h1,eC (Y.mono (fA O.size h.size))⟩,fC h h3⟩);unfold wO at aa Z;unfold NL at f j X|-;have N:=eC (λU(h:Bl V U)=>(aa.later h).c5);obtain⟨t,q⟩:=x;change Hid _ at O;generalize p.bd.set k (n,(t,q).2)=L at*;generalize p.bd.length=m2 at*;generalize p.vs.length=m1 at*;generalize p.pa=pa at*;simp only at f j X|-;generalize Q3 t n S R=z at*;cases z
 .simp only[Bool.false_eq_true,if_false];obtain⟨c0,c1,c2,c3,c4⟩:=N V (iL _ _);go_enter func291,ntmps291;go_wp2_with(first|(rw[Z])|(go_at_call 339;refine X.mono ?_;rintro e w1⟨rfl,W⟩;change Hid _ at W));go_ret;exact⟨⟨_,rfl,eD.nil _ _ _ _⟩,fC O W⟩
 .simp only[if_true];obtain⟨c0,c1,c2,c3,c4⟩:=N V (iL _ _);have ag:=aFR t q;go_enter func291,ntmps291;go_wp2_with(first|(rw[Z])|(go_at_call 339;refine X.mono ?_;rintro e w1⟨rfl,W⟩;change Hid _ at W));have s0:∀U,Bl V U->qC U w 0 (qI pa):=λU h=>(N U h).1;have s1:∀U,Bl V U->qC U w 1 (aA J m1 M):=λU h=>(N U h).2.1;have s2:∀U,Bl V U->qC U w 2 (aA B m2 D):=λU h=>(N U h).2.2.1;have s3:∀U,Bl V U->qC U w 3 (qI k):=λU h=>(N U h).2.2.2.1;have s4:∀U,Bl V U->qC U w 4 (qI n):=λU h=>(N U h).2.2.2.2;have af:=W.drew;go_region_held3(λU=>Bl V U) (first|(with_reducible assumption)|go_grown) ((first|(go_at_call 292;refine(f _ zA).mono ?_;rintro e3 w3⟨rfl,ae⟩)|(go_at_call 293;refine(j _ zA).mono ?_;rintro e4 w4⟨⟨v4,rfl,ac⟩,ab⟩)));go_wp2;go_ret;exact⟨⟨_,rfl,ac.out⟩,fC O ab⟩
def XM:List Int->Int
 |[]=>0
 |x::r=>if x≠0 then x else XM r
theorem aIr(b:Nat)(x y z:Int)(w:aS)(h:eG w b 0 [qI x,qI y,qI z]):
  qK 77 #[aA (some (b,0)) 3 3] w λe w'=>e=aO (qI (XM [x,y,z]))/\w'=w:=by
 obtain⟨L,B⟩:=eR ([x,y,z]);have N:L.length=3:=by rw[<-B];rfl
 have W:=eC (λ(k:Nat)(v:Int)(J:L[k]?=some v)=>show w.cell? (b,k)=some (qI v) by
  have:=h k (qI v) (by
   have e:[qI x,qI y,qI z]=L.map (aC aP):=by rw[<-B];rfl
   rw[e,oY,J];rfl)
  rwa[kQ]at this);have Y:=eC (λ(k:Nat)(v:Int)(J:L[k]?=some v)=>show XM (L.drop k)=if v≠0 then v else XM (L.drop (k+1)) by
  obtain⟨Z,f⟩:=gX.1 J
  rw[tL Z,f];rfl);have X:=eC (show XM (L.drop 3)=0 by rw[<-B];rfl);have U:=eC (show XM (L.drop 0)=XM L from rfl);rw[B];generalize XM L=R at*;change Hid _ at N;go_enter func77,ntmps77;go_wp2;go_loopw [8] (λi wr=>∃k:Nat,k<=3/\i=qI k/\wr=w/\XM (L.drop k)=R) (λi _=>3-(aW i).toNat)
 case atStart=>exact⟨0,zO,rfl,rfl,U⟩
 case round=>
  obtain⟨k,J,rfl,rfl,D⟩:=hrel;by_cases hlt:k<3
  .obtain⟨v,S⟩:∃v,L[k]?=some v:=⟨_,lJ (by rw[N];omega)⟩;have hc:=W k v S;have O:=eC (Y k v S);change Hid _ at D;by_cases hz:v=0
   .subst hz;have M:=eC (show XM (L.drop (k+1))=R by have:=O.out;rw[D,eE zS]at this;exact this.symm);go_wp2;go_roundw
    case rel=>exact⟨k+1,zO,by go_num,zS,M⟩
    case measure=>simp[aW];omega
   .have u:(v !=0)=true:=by simpa using hz
    have M:=eC (show v=R by have:=O.out;rw[D,eI hz]at this;exact this.symm);go_wp2;go_ret;exact⟨by rw[<-M];rfl,zS⟩
  .obtain rfl:k=3:=zO;have j:=eC (D.symm.trans X);go_wp2;go_ret;exact⟨by rw[j];rfl,zS⟩
def GL(e:Option Addr)(c:Nat)(d:Dl):aT:=aH #[aA e d.path.length c,aC aP d.op,aC aP d.n]
theorem aEh(a b:Dl):jD a b=XM [B7 a.path b.path,sE a.op b.op,sE a.n b.n]:=by
 unfold jD XM XM XM XM;split
 .rfl
 .split
  .rfl
  .split
   .rfl
   .rename_i h;exact cT.1 h
theorem EW(D N:Option Addr)(M O:Nat)(a b:Dl)(w:aS)(u:eS kI w D a.path)(x:eS kI w N b.path)(hm:a.path.length<=1000000)(j:b.path.length<=1000000):
  qK 24 #[GL D M a,GL N O b] w (Rt (qI (jD a b)) w):=by
 rw[aEh];obtain⟨B,R,an⟩:=a;obtain⟨J,W,S⟩:=b;unfold GL;simp only at u x hm j|-;obtain⟨V,X⟩:=eR ((w.alloc (aK #[aA D B.length M,qI R,qI an] 38)).alloc (aK #[aA N J.length O,qI W,qI S] 38));have aa:Bl w (w.alloc (aK #[aA D B.length M,qI R,qI an] 38)):=fL w _;have Y:Bl w V:=by rw[<-X];exact aa.alloc zS _
 have x1:oH V w [aA D B.length M,qI R,qI an]:=by rw[<-X];exact(boxed w _ _).later (fL _ _)
 have x2:oH V ((w:Nat)+1) [aA N J.length O,qI W,qI S]:=by have:=boxed (w.alloc (aK #[aA D B.length M,qI R,qI an] 38)) [aA N J.length O,qI W,qI S] 38;rw[fO]at this;rw[<-X];exact this
 have CP:=eC (λU(h:Bl V U)=>show qK 78 #[aA D B.length M,aA N J.length O] U (Rt (qI (B7 B J)) V)from(aDd D N M O B J U ((u.later Y).later h) ((x.later Y).later h) hm j).mono λe w' y=>⟨y.1,fC h y.2⟩);have Z:=eC (λU(h:Bl V U)=>(x1.later h).c3);have f:=eC (λU(h:Bl V U)=>(x2.later h).c3);have s0:∀U,Bl V U->qC U w 0 (aA D B.length M):=λU h=>(Z U h).1;have s1:∀U,Bl V U->qC U w 1 (qI R):=λU h=>(Z U h).2.1;have s2:∀U,Bl V U->qC U w 2 (qI an):=λU h=>(Z U h).2.2;have t0:∀U,Bl V U->qC U ((w:Nat)+1) 0 (aA N J.length O):=λU h=>(f U h).1;have t1:∀U,Bl V U->qC U ((w:Nat)+1) 1 (qI W):=λU h=>(f U h).2.1;have t2:∀U,Bl V U->qC U ((w:Nat)+1) 2 (qI S):=λU h=>(f U h).2.2;have aj:V<=V.drew.heap.size:=eX _;have ah:=jX V;change Hid _ at Y;clear u x aa x1 x2 hm j;generalize B.length=n1 at*;generalize J.length=n2 at*;generalize B7 B J=R1 at*;go_enter func24,ntmps24;go_wp2_with(rw[X]);go_region_held3(λU=>Bl V U) (first|(with_reducible assumption)|go_grown|(refine bAlloc7 ?_ _;assumption)) ((first|(go_at_call 77;refine(aIr _ _ _ _ _ (eG.new _ [qI R1,qI (sE R W),qI (sE an S)] _)).mono ?_;rintro e5 w5⟨rfl,ac⟩;have af:Bl V w5:=(by rw[ac];first|assumption|(refine bAlloc7 ?_ _;assumption));clear ac)|(go_at_call 79;refine(O7 _ _ _).mono ?_;rintro e3 w3⟨rfl,ab⟩;have ae:Bl V w3:=(by rw[ab];assumption);have ai:V<=(w3:Nat):=ae.size;clear ab)|(go_at_call 78;refine(CP _ zA).mono ?_;rintro e4 w4⟨rfl,ag⟩)));go_wp2;go_ret;exact⟨rfl,fC Y af⟩
theorem OO(B J:Option Addr)(D M:Nat)(a b:Dl)(w:aS)(Y:eS kI w B a.path)(Z:eS kI w J b.path)(hm:a.path.length<=1000000)(X:b.path.length<=1000000):
  qK 8 #[GL B D a,GL J M b] w (Rt (aG (jD a b==0)) w):=by
 obtain⟨V,N⟩:=eR ((w.alloc (aK #[aA B a.path.length D,a.op,qI a.n] 38)).alloc (aK #[aA J b.path.length M,b.op,qI b.n] 38));have U:Bl w (w.alloc (aK #[aA B a.path.length D,a.op,qI a.n] 38)):=fL w _;have O:Bl w V:=by rw[<-N];exact U.alloc zS _
 have x1:oH V w [aA B a.path.length D,a.op,qI a.n]:=by rw[<-N];exact(boxed w _ _).later (fL _ _)
 have x2:oH V ((w:Nat)+1) [aA J b.path.length M,b.op,qI b.n]:=by have:=boxed (w.alloc (aK #[aA B a.path.length D,a.op,qI a.n] 38)) [aA J b.path.length M,b.op,qI b.n] 38;rw[fO]at this;rw[<-N];exact this
 have S:=eC (EW B J D M a b V (Y.later O) (Z.later O) hm X);obtain⟨x,y,c2⟩:=x1.c3;obtain⟨d0,d1,d2⟩:=x2.c3;unfold GL at S|-;change Hid _ at O;generalize jD a b=R at*;generalize a.path.length=n1 at*;generalize b.path.length=n2 at*;obtain⟨xs,f,an⟩:=a;obtain⟨ys,u,j⟩:=b;simp only at*;go_enter func8,ntmps8;go_wp2_with(first|(rw[N])|(go_at_call 24;refine S.mono ?_;rintro e w1⟨rfl,W⟩));go_ret;exact⟨rfl,fC O W⟩
theorem BZ{f:Option Addr}{k n:Int}(h:oH V r (wO f d g e p k n)):∀U,Bl V U->qC U r 0 (qI p.pa)/\qC U r 1 (aA f p.vs.length g)/\qC U r 2 (aA d p.bd.length e)/\qC U r 3 (qI k)/\qC U r 4 (qI n):=λU i=>(show oH U r _ from h.later i).c5
def Q7(j:Int)(f:Nat):Prop:=∀(h d:Option Addr)(i g:Nat)(p:Pg)(k:Nat)(n:Int)(w:aS),iE w h d i g p->k<p.bd.length->p.bd.length<=999->nL p.bd=0->
 Calls prog f #[NL h d i g p k n] w λe w'=>mR kP 54 w (iH j p.bd k n) w' e/\aV w w w'
theorem aBB:Q7 1 255:=by
 intro R D S J p k n w Y f hm _;have X:iH 1 p.bd k n=EA p.bd k n 7 11:=by unfold iH;rw[eI rfl]
 rw[X];obtain⟨V,B⟩:=eR (w.alloc (aK (wO R D S J p k n).toArray 392));have N:=DX B;have Z:=eC (BZ (show oH V (w:Nat) (wO R D S J p k n) by rw[<-B];exact boxed w _ _));have U:=eC (PY R D S J p k n 7 11 V (Y.later N) f (by omega));obtain⟨j,u,x,y,c4⟩:=Z V (iL _ _);unfold wO at B;unfold NL at U|-;have W:=eC N;clear N Y X;generalize EA p.bd k n 7 11=L at*;generalize p.bd.length=m2 at*;generalize p.vs.length=m1 at*;generalize p.pa=pa at*;go_enter func255,ntmps255;go_wp2_with(first|(rw[B])|(go_at_call 291;refine U.mono ?_;rintro e w1⟨⟨v,rfl,O⟩,M⟩;replace M:=eC M;replace O:=eC O));go_ret;exact⟨⟨_,rfl,O.mono W.size⟩,fC W M⟩
theorem aGd:Q7 2 256:=by
 intro R D S J p k n w Y f hm _;have X:iH 2 p.bd k n=EA p.bd k n 12 17:=by unfold iH;rw[eE (by decide),eI rfl]
 rw[X];obtain⟨V,B⟩:=eR (w.alloc (aK (wO R D S J p k n).toArray 392));have N:=DX B;have Z:=eC (BZ (show oH V (w:Nat) (wO R D S J p k n) by rw[<-B];exact boxed w _ _));have U:=eC (PY R D S J p k n 12 17 V (Y.later N) f (by omega));obtain⟨j,u,x,y,c4⟩:=Z V (iL _ _);unfold wO at B;unfold NL at U|-;have W:=eC N;clear N Y X;generalize EA p.bd k n 12 17=L at*;generalize p.bd.length=m2 at*;generalize p.vs.length=m1 at*;generalize p.pa=pa at*;go_enter func256,ntmps256;go_wp2_with(first|(rw[B])|(go_at_call 291;refine U.mono ?_;rintro e w1⟨⟨v,rfl,O⟩,M⟩;replace M:=eC M;replace O:=eC O));go_ret;exact⟨⟨_,rfl,O.mono W.size⟩,fC W M⟩
theorem aAY:Q7 3 257:=by
 intro R D S J p k n w Y f hm _;have X:iH 3 p.bd k n=EA p.bd k n 18 19:=by unfold iH;rw[eE (by decide),eE (by decide),eI rfl]
 rw[X];obtain⟨V,B⟩:=eR (w.alloc (aK (wO R D S J p k n).toArray 392));have N:=DX B;have Z:=eC (BZ (show oH V (w:Nat) (wO R D S J p k n) by rw[<-B];exact boxed w _ _));have U:=eC (PY R D S J p k n 18 19 V (Y.later N) f (by omega));obtain⟨j,u,x,y,c4⟩:=Z V (iL _ _);unfold wO at B;unfold NL at U|-;have W:=eC N;clear N Y X;generalize EA p.bd k n 18 19=L at*;generalize p.bd.length=m2 at*;generalize p.vs.length=m1 at*;generalize p.pa=pa at*;go_enter func257,ntmps257;go_wp2_with(first|(rw[B])|(go_at_call 291;refine U.mono ?_;rintro e w1⟨⟨v,rfl,O⟩,M⟩;replace M:=eC M;replace O:=eC O));go_ret;exact⟨⟨_,rfl,O.mono W.size⟩,fC W M⟩
theorem QR:Q7 4 258:=by
 intro u f y j p k n w hp hk hm _;obtain⟨x,hx⟩:∃x,p.bd[k]?=some x:=⟨_,lJ hk⟩;obtain⟨V,O,M,-⟩:=lB w (aK (wO u f y j p k n).toArray 392);have W:=eC (BZ (show oH V w (wO u f y j p k n) by rw[<-O];exact boxed w _ _));have R:=eC (vC u f y j p k n x V (hp.later M) hx);have Z:=eC (show V=(w:Nat)+1 by rw[<-O];simp);have S:=eC (λU(h:Bl V U)=>show qK 293 #[NL u f y j p k n,aH #[qI x.1,qI n]] U λe w'=>(∃v,e=aO v/\Hid (eD kP 54 w w' v (p.bd.set k (x.1,n))))/\Bl V w' from(aAb u f y j p k n x.1 n U ((hp.later M).later h) hk zO).mono λe w'⟨⟨v,J,N⟩,h3⟩=>⟨⟨v,J,eC (N.mono (fA M.size h.size))⟩,fC h h3⟩);have hR:iH 4 p.bd k n=if x.1≠1/\(x.1≠2\/n<0\/1<n)then []else p.bd.set k (x.1,n):=by unfold iH;rw[eE zD,eE zD,eE zD,eI rfl,hx];rfl
 rw[hR];obtain⟨c0,c1,c2,c3,c4⟩:=W V (iL _ _);obtain⟨t,q⟩:=x;have ac:=EK t q;unfold wO at O;unfold NL at R S|-;change Hid _ at M;generalize p.bd.set k ((t,q).1,n)=L at*;generalize p.bd.length=m2 at*;generalize p.vs.length=m1 at*;generalize p.pa=pa at*;simp only at R S|-;have ae:=λ(D:aS)(hb:Bl V D)=>(boxed D [qI t,qI q] 54);have ab:(t=1)\/(t≠1/\t≠2)\/(t=2/\n<0)\/(t=2/\0<=n/\1<n)\/(t=2/\0<=n/\n<=1):=zO;obtain rfl|⟨J,N⟩|⟨rfl,J⟩|⟨rfl,J,N⟩|⟨rfl,J,N⟩:=ab
 .rw[eE zO];go_enter func258,ntmps258;go_wp2_with(first|(rw[O])|(go_at_call 292;refine R.mono ?_;rintro e D⟨rfl,B⟩;obtain⟨d0,d1,d2,d3,d4⟩:=W D B;have aa:w<(D:Nat):=(by have:=Z.out;have:=B.size;omega);change Hid _ at B)|(go_at_call 293;refine(S _ (B.alloc B.size _)).mono ?_;rintro e4 w4⟨⟨v4,rfl,Y⟩,X⟩));go_ret;exact⟨⟨_,rfl,Y.out⟩,fC M X⟩
 .rw[eI zO];have e1:(t !=1)=true:=by simpa using J
  have e2:(t !=2)=true:=by simpa using N
  go_enter func258,ntmps258;go_wp2_with(first|(rw[O])|(go_at_call 292;refine R.mono ?_;rintro e D⟨rfl,B⟩;obtain⟨d0,d1,d2,d3,d4⟩:=W D B;have aa:=(by have:=Z.out;have:=B.size;omega);change Hid _ at B)|(go_at_call 293;refine(S _ (B.alloc B.size _)).mono ?_;rintro e4 w4⟨⟨v4,rfl,Y⟩,X⟩));go_ret;exact⟨⟨_,rfl,eD.nil _ _ _ _⟩,M.trans ((B.alloc B.size _).mono M.size)⟩
 .rw[eI zO];have e1:decide (n<0)=true:=by simpa using J
  clear J;go_enter func258,ntmps258;go_wp2_with(first|(rw[O])|(go_at_call 292;refine R.mono ?_;rintro e D⟨rfl,B⟩;obtain⟨d0,d1,d2,d3,d4⟩:=W D B;have aa:w<(D:Nat):=(by have:=Z.out;have:=B.size;omega);change Hid _ at B)|(go_at_call 293;refine(S _ (B.alloc B.size _)).mono ?_;rintro e4 w4⟨⟨v4,rfl,Y⟩,X⟩));go_ret;exact⟨⟨_,rfl,eD.nil _ _ _ _⟩,M.trans ((B.alloc B.size _).mono M.size)⟩
 .rw[eI zO];have e1:decide (n<0)=false:=by simpa using J
  have e2:decide (1<n)=true:=by simpa using N
  clear J N;go_enter func258,ntmps258;go_wp2_with(first|(rw[O])|(go_at_call 292;refine R.mono ?_;rintro e D⟨rfl,B⟩;obtain⟨d0,d1,d2,d3,d4⟩:=W D B;have aa:w<(D:Nat):=(by have:=Z.out;have:=B.size;omega);change Hid _ at B)|(go_at_call 293;refine(S _ (B.alloc B.size _)).mono ?_;rintro e4 w4⟨⟨v4,rfl,Y⟩,X⟩));go_ret;exact⟨⟨_,rfl,eD.nil _ _ _ _⟩,M.trans ((B.alloc B.size _).mono M.size)⟩
 .rw[eE zO];have e1:decide (n<0)=false:=by simpa using J
  have e2:decide (1<n)=false:=by simpa using N
  clear J N;go_enter func258,ntmps258;go_wp2_with(first|(rw[O])|(go_at_call 292;refine R.mono ?_;rintro e D⟨rfl,B⟩;obtain⟨d0,d1,d2,d3,d4⟩:=W D B;have aa:w<(D:Nat):=(by have:=Z.out;have:=B.size;omega);change Hid _ at B)|(go_at_call 293;refine(S _ (B.alloc B.size _)).mono ?_;rintro e4 w4⟨⟨v4,rfl,Y⟩,X⟩));go_ret;exact⟨⟨_,rfl,Y.out⟩,fC M X⟩
theorem aAK(U:aS)(a b:Int):eP (U.alloc (aK #[qI a,qI b] 54)) (some (U,0)) [(a,b)]:=
 .inr ⟨U,0,rfl,zS,λi x h=>by
  match i,h with
  |0,h=>
   simp at h
   subst h
   exact⟨eG.new U [qI a,qI b] 54 0 _ rfl,eG.new U [qI a,qI b] 54 1 _ rfl⟩⟩
theorem YO{r:Option Addr}{s:Nat}(q:w<=(V:Nat))(i:iE V r d s f p)(hm:p.bd.length<=999)(k:Nat)(a b:Int)(U:aS)(h:Bl V U):
  qK 294 #[aA d p.bd.length f,qI k,aA (some (qP U 0)) 1 1] (U.alloc (aK #[qI a,qI b] 54)) λe w'=>(∃v,e=aO v/\Hid (eD kP 54 w w' v (tZ p.bd k [(a,b)])))/\Bl V w':=
 have g:=h.alloc h.size _
 (S3 d (some (qP U 0)) f 1 p.bd [(a,b)] k _ (i.2.1.later g) (aAK U a b) zO zS i.2.2.2.2.1 i.2.2.2.2.2).mono λe w'⟨⟨v,j,m⟩,n⟩=>⟨⟨v,j,eC (m.mono (fA q g.size))⟩,fC g n⟩
theorem WT:Q7 5 259:=by
 intro va y vc bc p k n w hp hk hm _;obtain⟨x,hx⟩:∃x,p.bd[k]?=some x:=⟨_,lJ hk⟩;obtain⟨V,O,M,-⟩:=lB w (aK (wO va y vc bc p k n).toArray 392);have S:=eC (BZ (show oH V w (wO va y vc bc p k n) by rw[<-O];exact boxed w _ _));have R:=eC (vC va y vc bc p k n x V (hp.later M) hx);have X:=eC (show V=(w:Nat)+1 by rw[<-O];simp);have W:=eC (λU h=>YO (w:=w) M.size (hp.later M) hm k 26 0 U h);have hR:iH 5 p.bd k n=if 21<=x.1/\x.1<=25/\n=0 then tZ p.bd k [(26,0)]else []:=by unfold iH;rw[eE zD,eE zD,eE zD,eE zD,eI rfl,hx];rfl
 rw[hR];obtain⟨c0,c1,c2,c3,c4⟩:=S V (iL _ _);obtain⟨t,q⟩:=x;have ab:=EK t q;unfold wO at O;unfold NL at R|-;change Hid _ at M;generalize tZ p.bd k [(26,0)]=L at*;generalize p.bd.length=m2 at*;generalize p.vs.length=m1 at*;generalize p.pa=pa at*;simp only at R|-;have aa:t=21\/t=22\/t=23\/t=24\/t=25\/(t<21\/25<t):=zO;obtain rfl|rfl|rfl|rfl|rfl|ht:=aa
 .by_cases hn:n=0
  .subst hn;rw[eI zO];go_enter func259,ntmps259;go_wp2_with(first|(rw[O])|(go_at_call 292;refine R.mono ?_;rintro e D⟨rfl,B⟩;obtain⟨d0,d1,d2,d3,d4⟩:=S D B;have Z:=(by have:=X.out;have:=B.size;omega);change Hid _ at B)|(go_at_call 294;refine(W D B).mono ?_;rintro Y j⟨⟨f,rfl,N⟩,J⟩));go_ret;exact⟨⟨_,rfl,N.out⟩,fC M J⟩
  .have u:(n==0)=false:=by simpa using hn
   rw[eE zO];go_enter func259,ntmps259;go_wp2_with(first|(rw[O])|(go_at_call 292;refine R.mono ?_;rintro e D⟨rfl,B⟩;obtain⟨d0,d1,d2,d3,d4⟩:=S D B;have Z:=(by have:=X.out;have:=B.size;omega);change Hid _ at B)|(go_at_call 294;refine(W D B).mono ?_;rintro Y j⟨⟨f,rfl,N⟩,J⟩));go_ret;exact⟨⟨_,rfl,eD.nil _ _ _ _⟩,fC M B⟩
 .by_cases hn:n=0
  .subst hn;rw[eI zO];go_enter func259,ntmps259;go_wp2_with(first|(rw[O])|(go_at_call 292;refine R.mono ?_;rintro e D⟨rfl,B⟩;obtain⟨d0,d1,d2,d3,d4⟩:=S D B;have Z:=(by have:=X.out;have:=B.size;omega);change Hid _ at B)|(go_at_call 294;refine(W D B).mono ?_;rintro Y j⟨⟨f,rfl,N⟩,J⟩));go_ret;exact⟨⟨_,rfl,N.out⟩,fC M J⟩
  .have u:(n==0)=false:=by simpa using hn
   rw[eE zO];go_enter func259,ntmps259;go_wp2_with(first|(rw[O])|(go_at_call 292;refine R.mono ?_;rintro e D⟨rfl,B⟩;obtain⟨d0,d1,d2,d3,d4⟩:=S D B;have Z:=(by have:=X.out;have:=B.size;omega);change Hid _ at B)|(go_at_call 294;refine(W D B).mono ?_;rintro Y j⟨⟨f,rfl,N⟩,J⟩));go_ret;exact⟨⟨_,rfl,eD.nil _ _ _ _⟩,fC M B⟩
 .by_cases hn:n=0
  .subst hn;rw[eI zO];go_enter func259,ntmps259;go_wp2_with(first|(rw[O])|(go_at_call 292;refine R.mono ?_;rintro e D⟨rfl,B⟩;obtain⟨d0,d1,d2,d3,d4⟩:=S D B;have Z:=(by have:=X.out;have:=B.size;omega);change Hid _ at B)|(go_at_call 294;refine(W D B).mono ?_;rintro Y j⟨⟨f,rfl,N⟩,J⟩));go_ret;exact⟨⟨_,rfl,N.out⟩,fC M J⟩
  .have u:(n==0)=false:=by simpa using hn
   rw[eE zO];go_enter func259,ntmps259;go_wp2_with(first|(rw[O])|(go_at_call 292;refine R.mono ?_;rintro e D⟨rfl,B⟩;obtain⟨d0,d1,d2,d3,d4⟩:=S D B;have Z:=(by have:=X.out;have:=B.size;omega);change Hid _ at B)|(go_at_call 294;refine(W D B).mono ?_;rintro Y j⟨⟨f,rfl,N⟩,J⟩));go_ret;exact⟨⟨_,rfl,eD.nil _ _ _ _⟩,fC M B⟩
 .by_cases hn:n=0
  .subst hn;rw[eI zO];go_enter func259,ntmps259;go_wp2_with(first|(rw[O])|(go_at_call 292;refine R.mono ?_;rintro e D⟨rfl,B⟩;obtain⟨d0,d1,d2,d3,d4⟩:=S D B;have Z:=(by have:=X.out;have:=B.size;omega);change Hid _ at B)|(go_at_call 294;refine(W D B).mono ?_;rintro Y j⟨⟨f,rfl,N⟩,J⟩));go_ret;exact⟨⟨_,rfl,N.out⟩,fC M J⟩
  .have u:(n==0)=false:=by simpa using hn
   rw[eE zO];go_enter func259,ntmps259;go_wp2_with(first|(rw[O])|(go_at_call 292;refine R.mono ?_;rintro e D⟨rfl,B⟩;obtain⟨d0,d1,d2,d3,d4⟩:=S D B;have Z:=(by have:=X.out;have:=B.size;omega);change Hid _ at B)|(go_at_call 294;refine(W D B).mono ?_;rintro Y j⟨⟨f,rfl,N⟩,J⟩));go_ret;exact⟨⟨_,rfl,eD.nil _ _ _ _⟩,fC M B⟩
 .by_cases hn:n=0
  .subst hn;rw[eI zO];go_enter func259,ntmps259;go_wp2_with(first|(rw[O])|(go_at_call 292;refine R.mono ?_;rintro e D⟨rfl,B⟩;obtain⟨d0,d1,d2,d3,d4⟩:=S D B;have Z:=(by have:=X.out;have:=B.size;omega);change Hid _ at B)|(go_at_call 294;refine(W D B).mono ?_;rintro Y j⟨⟨f,rfl,N⟩,J⟩));go_ret;exact⟨⟨_,rfl,N.out⟩,fC M J⟩
  .have u:(n==0)=false:=by simpa using hn
   rw[eE zO];go_enter func259,ntmps259;go_wp2_with(first|(rw[O])|(go_at_call 292;refine R.mono ?_;rintro e D⟨rfl,B⟩;obtain⟨d0,d1,d2,d3,d4⟩:=S D B;have Z:=(by have:=X.out;have:=B.size;omega);change Hid _ at B)|(go_at_call 294;refine(W D B).mono ?_;rintro Y j⟨⟨f,rfl,N⟩,J⟩));go_ret;exact⟨⟨_,rfl,eD.nil _ _ _ _⟩,fC M B⟩
 .rw[eE zO];have ac:(t==21)=false:=zT;have ae:(t==22)=false:=zT;have af:(t==23)=false:=zT;have ag:(t==24)=false:=zT;have ah:(t==25)=false:=zT;go_enter func259,ntmps259;go_wp2_with(first|(rw[O])|(go_at_call 292;refine R.mono ?_;rintro e D⟨rfl,B⟩;obtain⟨d0,d1,d2,d3,d4⟩:=S D B;have Z:=(by have:=X.out;have:=B.size;omega);change Hid _ at B)|(go_at_call 294;refine(W D B).mono ?_;rintro Y j⟨⟨f,rfl,N⟩,J⟩));go_ret;exact⟨⟨_,rfl,eD.nil _ _ _ _⟩,fC M B⟩
theorem VO:Q7 7 261:=by
 intro X S Y W p k n w u hk hm _;obtain⟨x,y⟩:∃x,p.bd[k]?=some x:=⟨_,lJ hk⟩;obtain⟨V,J,D,-⟩:=lB w (aK (wO X S Y W p k n).toArray 392);have R:=eC (BZ (show oH V w (wO X S Y W p k n) by rw[<-J];exact boxed w _ _));have N:=eC (vC X S Y W p k n x V (u.later D) y);have Z:=eC (show V=(w:Nat)+1 by rw[<-J];simp);have O:=eC (λU h=>YO (w:=w) D.size (u.later D) hm (k+1) 1 n U h);rw[show((k+1:Nat):Int)=(k:Int)+1 by omega]at O;have hR:iH 7 p.bd k n=if x.1≠25 then []else tZ p.bd (k+1) [(1,n)]:=by unfold iH;rw[eE zD,eE zD,eE zD,eE zD,eE zD,eE zD,y];rfl
 rw[hR];obtain⟨c0,c1,c2,c3,c4⟩:=R V (iL _ _);obtain⟨t,q⟩:=x;have ab:=EK t q;unfold wO at J;unfold NL at N|-;change Hid _ at D;generalize tZ p.bd (k+1) [(1,n)]=L at*;generalize p.bd.length=m2 at*;generalize p.vs.length=m1 at*;generalize p.pa=pa at*;simp only at N|-;by_cases ht:t=25
 .subst ht;rw[eE zO];go_enter func261,ntmps261;go_wp2_with(first|(rw[J])|(go_at_call 292;refine N.mono ?_;rintro e M⟨rfl,B⟩;obtain⟨d0,d1,d2,d3,d4⟩:=R M B;have aa:=(by have:=Z.out;have:=B.size;omega);change Hid _ at B)|(go_at_call 294;refine(O M B).mono ?_;rintro e4 w4⟨⟨v4,rfl,j⟩,f⟩));go_ret;exact⟨⟨_,rfl,j.out⟩,fC D f⟩
 .have ac:(t !=25)=true:=by simpa using ht
  rw[eI ht];go_enter func261,ntmps261;go_wp2_with(first|(rw[J])|(go_at_call 292;refine N.mono ?_;rintro e M⟨rfl,B⟩;obtain⟨d0,d1,d2,d3,d4⟩:=R M B;have aa:=(by have:=Z.out;have:=B.size;omega);change Hid _ at B)|(go_at_call 294;refine(O M B).mono ?_;rintro e4 w4⟨⟨v4,rfl,j⟩,f⟩));go_ret;exact⟨⟨_,rfl,eD.nil _ _ _ _⟩,fC D B⟩
def kD:lL Dl where
 k:=3
 R:=λw d q=>∃v,q=[v,aC aP d.op,aC aP d.n]/\eD kI 3 0 w v d.path
 len:=λ⟨v,h,_⟩=>by rw[h];rfl
 one:=λ⟨v,h,e⟩u f=>by
  rw[h]at f
  obtain⟨a,c,n,_⟩:=fV e
  simp at f
  obtain rfl|rfl|rfl:=f
  .rw[n];rfl
  .rfl
  .rfl
 tags:=λt=>t=3
 on:=λ⟨v,h,e⟩m=>⟨v,h,e.on (λk j=>by obtain⟨g,i⟩:=e.tag k j;exact m k g _ _ i rfl) (λ_ _ _ h=>h)⟩
theorem VC{l:List Dl}{d:Dl}(h:e<g)(i:l[e+(g-e)/2]?=some x):mW l d (f+1) e g=if jD x d=0 then((e+(g-e)/2:Nat):Int)else if jD x d<0 then mW l d f (e+(g-e)/2+1) g else mW l d f e (e+(g-e)/2):=by
 conv=>lhs;unfold mW
 rw[eI h,i]
theorem aBz{l:List Dl}{d:Dl}(h:¬g<e):mW l d f g e=-1:=by
 cases f with
 |zero=>rfl
 |succ f=>unfold mW;rw[eE h]
theorem N3(pa u:Option Addr)(ca y:Nat)(l:List Dl)(d:Dl)(w:aS)(hl:eS kD w pa l)(hd:eS kI w u d.path)(hm:l.length<=1000000)(aq:d.path.length<=1000000)(am:∀x∈l,x.path.length<=1000000):
  qK 84 #[aA pa l.length ca,GL u y d] w (Rt (qI (mW l d (l.length+1) 0 l.length)) w):=by
 obtain⟨R,hR⟩:=eR (mW l d (l.length+1) 0 l.length);obtain⟨V,hV,ab,-⟩:=lB w (aK #[aA u d.path.length y,d.op,qI d.n] 38);have x1:oH V w [aA u d.path.length y,d.op,qI d.n]:=by rw[<-hV];exact boxed w _ _
 have X1:=eC (λU(h:Bl V U)=>(x1.later h).c3);have HL:=eC (λU(h:Bl V U)(i:Nat)(x:Dl)(J:l[i]?=some x)=>show∃(b o:Nat)(N:Option Addr)(S:Nat),pa=some ⟨b,o,none⟩/\(∀B,Bl U B->qC B b (o+i*3) (aA N x.path.length S)/\qC B b (o+i*3+1) x.op/\qC B b (o+i*3+2) (qI x.n))/\eS kI U N x.path by
  obtain⟨b,o,vs,X,O,⟨v,h3,h4⟩,h5⟩:=((hl.later ab).later h).at J
  subst h3
  obtain⟨N,S,Z,ao,_⟩:=h4.ls
  subst Z
  refine⟨b,o,N,S,X,λB hU=>?_,ao⟩
  have e:=eG.cons.1 (h5.below hU O)
  have e2:=eG.cons.1 e.2
  exact⟨e.1,e2.1,eG.one.1 e2.2⟩);have CC:=eC (λU(h:Bl V U)(x:Dl)(N:Option Addr)(S:Nat)(j:x∈l)(aj:eS kI U N x.path)=>λB(hU:Bl U B)=>show qK 24 #[GL N S x,GL u y d] B (Rt (qI (jD x d)) U)from(EW N u S y x d B (aj.later hU) (((hd.later ab).later h).later hU) (am x j) aq).mono λe w' O=>⟨O.1,fC hU O.2⟩);unfold GL at CC|-;rw[hR];obtain⟨ag,ai⟩:=eR l.length;rw[ai]at hm hR|-;change Hid _ at ai;change Hid _ at ab hR;have D3:=eC (λ(f D J:Nat)(h:D<J)(x:Dl)(j:l[D+(J-D)/2]?=some x)=>VC (d:=d) (f:=f) h j);obtain⟨dp,aa,dn⟩:=d;simp only at*;generalize dp.length=n2 at*;go_enter func84,ntmps84;go_wp2_with(rw[hV]);refine pSj ?_;go_wp2;go_step3;go_wp2;go_loopw [5,6,7] (λa5 a6 a7 wr=>∃D J f:Nat,a5=qI D/\a6=qI J/\a7=qI (-1)/\D<=J/\J<=ag/\Hid (J-D<f)/\Hid (mW l ⟨dp,aa,dn⟩ f D J=R)/\Hid (Bl V wr)) (λa5 a6 _ _=>(aW a6).toNat-(aW a5).toNat)
 case atStart=>exact⟨0,ag,ag+1,rfl,rfl,rfl,kU _,eX _,eC zO,hR,eC (iL _ _)⟩
 case round=>
  obtain⟨D,J,f,rfl,rfl,rfl,au,al,hf,hF,Y⟩:=hrel;by_cases hlt:D<J
  .obtain⟨W,rfl⟩:∃W,f=W+1:=⟨f-1,by have:=hf.out;omega⟩;obtain⟨M,af⟩:=eR (D+(J-D)/2);have hq:((J:Int)-(D:Int)).tdiv 2=((M-D:Nat):Int):=by have:((J:Int)-(D:Int))=((J-D:Nat):Int):=zO;rw[this,<-af,Nat.add_sub_cancel_left];rfl
   have ax:(D:Int)+((M-D:Nat):Int)=(M:Int):=zO;have ap:D<=M:=zO;have av:M<J:=zO;obtain⟨x,j⟩:∃x,l[M]?=some x:=⟨_,lJ (by rw[ai];omega)⟩;have ac:=eC (D3 W D J hlt x (by rw[af];exact j));rw[af]at ac;obtain⟨b,o,N,S,rfl,ae,aj⟩:=HL wr Y.out M x j;have CX:=eC (CC wr Y.out x N S (iG j) aj);obtain⟨xp,xo,xn⟩:=x;simp only at ae CX ac;generalize jD ⟨xp,xo,xn⟩ ⟨dp,aa,dn⟩=C at*;generalize xp.length=n1 at*;have s0:∀B,Bl wr B->qC B b (o+M*3) (aA N n1 S):=λB h=>(ae B h).1;have s1:∀B,Bl wr B->qC B b (o+M*3+1) (qI xo):=λB h=>(ae B h).2.1;have s2:∀B,Bl wr B->qC B b (o+M*3+2) (qI xn):=λB h=>(ae B h).2.2;have t0:∀B,Bl wr B->qC B w 0 (aA u n2 y):=λB h=>(X1 B (fC Y h)).1;have t1:∀B,Bl wr B->qC B w 1 (qI aa):=λB h=>(X1 B (fC Y h)).2.1;have t2:∀B,Bl wr B->qC B w 2 (qI dn):=λB h=>(X1 B (fC Y h)).2.2;have ar:=jX wr;have aw:M<ag:=zO;change Hid _ at af;go_wp2;go_region_held3(λU=>Bl wr U) (first|(with_reducible assumption)|go_grown) ((go_at_call 24;refine(CX _ zA).mono ?_;rintro e3 w3⟨rfl,ak⟩));have ah:=mG Y ak;rcases(show C=0\/(C≠0/\C<0)\/(C≠0/\¬C<0)from zO)with rfl|⟨X,O⟩|⟨X,O⟩
   .have Z:=eC (show((M:Nat):Int)=R by have:=ac.out;rw[eI rfl]at this;rw[<-this];exact hF.out);go_wp2;refine lM ?_;go_ret;exact⟨by rw[<-Z];rfl,fC ab ah⟩
   .have Z:=eC (show mW l ⟨dp,aa,dn⟩ W (M+1) J=R by have:=ac.out;rw[eE X,eI O]at this;rw[<-this];exact hF.out);have e1:(C==0)=false:=by simpa using X
    have e2:decide (C<0)=true:=by simpa using O
    go_wp2;go_roundw
    case rel=>exact⟨M+1,J,W,by go_num,rfl,rfl,zO,al,eC (by have:=hf.out;omega),Z,ah⟩
    case measure=>simp[aW];omega
   .have Z:=eC (show mW l ⟨dp,aa,dn⟩ W D M=R by have:=ac.out;rw[eE X,eE O]at this;rw[<-this];exact hF.out);have e1:(C==0)=false:=by simpa using X
    have e2:decide (C<0)=false:=by simpa using O
    go_wp2;go_roundw
    case rel=>exact⟨D,M,W,rfl,rfl,rfl,ap,zO,eC (by have:=hf.out;omega),Z,ah⟩
    case measure=>simp[aW];omega
  .have hE:=eC (aBz (l:=l) (d:=⟨dp,aa,dn⟩) (f:=f) hlt);have d0:decide ((D:Int)<(J:Int))=false:=zT;go_wp2;refine lM ?_;go_ret;exact⟨by rw[<-hF.out,hE];rfl,fC ab Y.out⟩
section
attribute [local go_sem] Oper.semAt_some
def gD(p:Pg)(k:Nat):List Dl:=(jC p.bd k).map λc=>⟨(ZU p.bd k).getD [],c.1,c.2⟩
def YG(p:Pg)(k:Nat):List Dl:=(List.range k).flatMap (gD p)
theorem ZZ(p:Pg):fH p=YG p p.bd.length:=rfl
theorem EV(p:Pg)(k:Nat):YG p (k+1)=YG p k++gD p k:=by simp[YG,List.range_succ]
theorem aI5(p:Pg)(h:k<=n):YG p k<+:YG p n:=by
 obtain⟨d,rfl⟩:=Nat.le.dest h;induction d with
 |zero=>exact List.prefix_rfl
 |succ d ih=>exact(ih zO).trans (by rw[<-Nat.add_assoc,EV];exact List.prefix_append _ _)
theorem aGS(p:Pg)(h:k<n)(d:(gD p k)[j]?=some x):YG p k++(gD p k).take j++[x]<+:YG p n:=by
 refine List.IsPrefix.trans ?_ (aI5 p h);rw[EV,jH,List.prefix_append_right_inj];have:(gD p k).take j++[x]=(gD p k).take (j+1):=by rw[F4,d];rfl
 rw[this];exact List.take_prefix _ _
theorem M9(l:List Nd):∀(f k:Nat)(d:List Int)(x:Nat×List Int),x∈kZ l f k d->x.2.length<=d.length+f
 |0,k,d,x,h=>by simp[kZ]at h
 |f+1,k,d,x,h=>by
  simp only[kZ,List.mem_cons,List.mem_flatMap]at h
  obtain rfl|⟨y,_,hy⟩:=h
  .simp
  .have:=M9 l f y.1 _ x hy
   simp at this
   omega
theorem YV(l:List Nd)(k:Nat):((ZU l k).getD []).length<=l.length:=by
 unfold ZU;split
 .simp
 .cases h:(kZ l l.length 0 []).find? λx=>x.1==k with
  |none=>simp
  |some x=>have:=M9 l _ _ _ x (List.mem_of_find?_eq_some h);simpa using this
theorem RG{d:Nat}{o:Option (List Int)}{e:Ending}(h:ZX d o w' e):∃a c z,e=aO (aF #[aA a (o.getD []).length c,aG z])/\eS kI w' a (o.getD [])/\∀ad,a=some ad->o.getD []≠[]->d<=ad.block:=by
 cases o with
 |none=>exact⟨none,0,false,h,.inl rfl,λad e=>by cases e⟩
 |some L=>obtain⟨a,c,f,g,i⟩:=h;exact⟨a,c,true,f,g,i⟩
theorem GA(l:List Nd)(k:Nat):(jC l k).length<=100:=by
 unfold jC;split
 .simp
 .exact OJ _ _
theorem aGJ{E:aX}{L:List (Int×Int)}(h:eD kC E n w v L){x:Int×Int}(A:L[j]?=some x):∃g q,v=aA (some ⟨g,0,none⟩) L.length q/\n<=g/\g<(w:Nat)/\w.cell? ⟨g,j*3,none⟩=some (aA none 0 0)/\w.cell? ⟨g,j*3+1,none⟩=some (aC aP x.1)/\w.cell? ⟨g,j*3+2,none⟩=some (aC aP x.2):=by obtain⟨a,c,C,B,y⟩:=h.ls;obtain⟨b,o,F,f,D,r,u⟩:=B.at A;obtain⟨i,k,m,_⟩:=y _ f;simp only at i k m;subst m;have s:=r;subst s;have e:=eG.cons.1 u;have d:=eG.cons.1 e.2;rw[kQ]at e d;exact⟨b,c,by rw[C,f],i,k,e.1,d.1,eG.one.1 d.2⟩
def aKj(d:Dl)(e:Array aT)(W:aS):Prop:=∃v,e=#[aH #[v,aC aP d.op,aC aP d.n]]/\eD kI 3 0 W v d.path
theorem aCd(y O U bc ah:Nat)(p:Pg)(N:Nat->Prop)(w:aS)(hX:Boxed w ah 235 (aE (some ⟨y,0,none⟩)))(hN:eP w (some ⟨O,U,none⟩) p.bd)(hm:p.bd.length<=999)(hc:p.bd.length<=bc)(bp:bc<=aZ)(he:iD p.bd 0=some p.bd.length)
  (mx:N ah)(mn:N O)(ap:∀q,N q->q<(w:Nat)):
  aJW (λW=>W.cell? ⟨y,2,none⟩=some (aA (some ⟨O,U,none⟩) p.bd.length bc)) prog 283 #[aE (some ⟨ah,0,none⟩)] aKj (fH p) (λ_ _=>False) N w:=by
 intro lp J W aj bt hJ hS hY ao;rw[ZZ]at hY|-;refine hH.2 ((hH (n:=2)).1 ?_);refine xI func283 rfl trivial ?_ rfl;simp only[ntmps283,pN,Nat.reduceAdd,Nat.reduceSub];have xW:Boxed W ah 235 (aE (some ⟨y,0,none⟩)):=(aj.block _ (ap _ mx)).trans hX;have nW:eP W (some ⟨O,U,none⟩) p.bd:=hN.later aj;have ax:∀q,N q->q<(W:Nat):=λq h=>gV (ap q h) aj.size;have cX:=xW.cell;have cS:=hS _ _ _ ao;have HK:=eC (λ(V:aS)(Z:eZ (λq=>¬N q) W V)=>show Boxed V ah 235 (aE (some ⟨y,0,none⟩))/\eP V (some ⟨O,U,none⟩) p.bd from
  ⟨(Z.block _ (pV xW) (λh=>h mx)).trans xW,nW.kept Z.size λad e h=>by cases e;exact Z.block _ h (λM=>M mn)⟩);have HO:=eC (λ(V:aS)(k:Nat)(M:eP V (some ⟨O,U,none⟩) p.bd)=>(aGb (some ⟨O,U,none⟩) bc p.bd k V M hm he).mono λe w' h=>show(∃a c z,e=aO (aF #[aA a ((ZU p.bd k).getD []).length c,aG z])/\eS kI w' a ((ZU p.bd k).getD [])/\∀ad,a=some ad->(ZU p.bd k).getD []≠[]->(V:Nat)<=ad.block)/\Bl V w' from⟨RG h.1,h.2⟩);have a8:=eC (λ(V:aS)(k:Nat)(M:eP V (some ⟨O,U,none⟩) p.bd)=>RT (some ⟨O,U,none⟩) bc p.bd k V M (by omega) hc bp);have HG:=eC (λk=>show gD p k=(jC p.bd k).map λc=>⟨(ZU p.bd k).getD [],c.1,c.2⟩from rfl);have bf:=eC (λk=>fA (YV p.bd k) hm);have HP:=eC (λk j x(h:k<p.bd.length)(hx:(gD p k)[j]?=some x)=>aGS p h hx);have bg:=eC (EV p);have ba:=eC (GA p.bd);replace hY:=eC hY;replace hS:=eC hS;replace hJ:=eC hJ;replace ax:=eC ax;have be:=eC ao;clear hX hN ap aj xW nW ao he mn mx bt;generalize p.bd.length=n at*;gi_wp2;gi_loopw [14] (λi wr=>∃k:Nat,k<=n/\i=aC aP k/\Hid (J (YG p k) N wr)/\Hid (eZ (λq=>¬N q) W wr)) (λi _=>n-(aW i).toNat)
 case atStart=>exact⟨0,kU _,rfl,be,eC (eZ.refl _ _)⟩
 case round=>
  obtain⟨k,hk,rfl,hj,Z⟩:=hrel;by_cases hlt:k<n
  case neg=>obtain rfl:k=n:=zO;gi_wp2;exact⟨_,iU rfl _ _ _,⟨_,rfl⟩,hj.out⟩
  obtain⟨xK,nK⟩:=HK wr Z.out;have bj:=xK.cell;have am:=hS _ _ _ hj.out;have CO:=eC (HO wr k nK);have bd:=eC (λ(V:aS)(h:Bl wr V)=>a8 V k (nK.later h));have ak:=eC xK;have av:=eC (HG k);have bo:=ba k;have bq:=bf k;have bn:=eC (λj x=>HP k j x hlt);have R:y<(wr:Nat):=by obtain⟨o,h,_⟩:=wU am;exact(fB.1 h).1
  have R:=eC R;clear xK nK cX cS;generalize(ZU p.bd k).getD []=D at*;generalize jC p.bd k=C at*;obtain⟨cl,f⟩:=eR C.length;obtain⟨dl,aa⟩:=eR D.length;rw[f]at bo;rw[aa]at bq CO;replace f:=eC f;replace aa:=eC aa;gi_wp2_with(first|(refine⟨trivial,?_⟩;gi_at_call 284;refine(hH.2 CO).mono ?_;rintro e w1⟨⟨po,co,z,rfl,ag⟩,Y⟩;have bi:=xA ((Y.block _ (pV ak)).trans ak);have bh:=(Y.cell (p:=⟨y,2,none⟩) R).trans am;replace Y:=eC Y;replace ag:=eC ag)|(refine⟨trivial,?_⟩;gi_at_call 285;refine(hH.2 (bd w1 Y)).mono ?_;rintro e X⟨⟨v2,rfl,S⟩,ac⟩;obtain⟨a2,c2,rfl,_,_,_⟩:=fV S;rw[f]at S|-;replace S:=eC S;replace ac:=eC ac));have ay:Hid (Bl wr X):=mG Y ac;obtain⟨M2,ai⟩:=eR (λq=>N q\/((wr:Nat)<=q/\q<(X:Nat)));have j2:Hid (J (YG p k) M2 X):=eC (by rw[<-ai];exact hJ.grow hj.out ay);have ar:Hid (∀q,N q->M2 q):=eC (λq h=>by rw[<-ai];exact .inl h);have a5:Hid (∀q,(wr:Nat)<=q->q<(X:Nat)->M2 q):=eC (λq h h'=>by rw[<-ai];exact .inr ⟨h,h'⟩);have a6:Hid ((W:Nat)<=(wr:Nat)/\(wr:Nat)<=(w1:Nat)/\(w1:Nat)<=(X:Nat)):=eC ⟨Z.out.size,Y.size,ac.size⟩;have a1:Hid (eS kI X po D/\∀ad,po=some ad->D≠[]->M2 ad.block):=eC ⟨ag.1.later ac,λad e h=>a5 _ (ag.2 ad e h) (by
   obtain h1|⟨b',o',h1,h2,_⟩:=ag.1
   .exact absurd h1 h
   .rw[e]at h1
    cases h1
    have:=a6.out
    simp only
    omega)⟩;clear bi bh bj am ai R ak;gi_loopw [35] (λi V=>∃j:Nat,j<=cl/\i=aC aP j/\Hid (J (YG p k++(gD p k).take j) M2 V)/\Hid (eZ (λq=>¬M2 q) X V)) (λi _=>cl-(aW i).toNat)
  case atStart=>exact⟨0,kU _,rfl,eC (by rw[List.take_zero,EL];exact j2),eC (eZ.refl _ _)⟩
  case round=>
   obtain⟨j,bO,rfl,aw,ae⟩:=hrel;by_cases hlj:j<cl
   case neg=>
    obtain rfl:j=cl:=zO;gi_wp2;go_roundw
    case rel=>exact⟨k+1,by omega,by go_num,eC (hJ.less (by
     have h:=aw.out
     rw[nH (by rw[av,rN];exact uU f),<-bg]at h
     exact h) ar),eC (((Z.out.then ay)).trans (ae.out.mono λq _ h1 h2=>h1 (ar q h2)))⟩
    case measure=>simp[aW];omega
   obtain⟨⟨op,m⟩,hc⟩:∃c,C[j]?=some c:=⟨_,lJ (by rw[f];exact hlj)⟩;have hx:Hid ((gD p k)[j]?=some ⟨D,op,m⟩):=eC (by rw[av,oY,hc];rfl);have a0:eD kC 38 w1 wr (aA a2 cl c2) C:=S.on (λq hq=>ae.out.block q (S.lt q hq).2 (λM=>M (a5 q (by have:=(S.lt q hq).1;have:=a6.out;omega) (S.lt q hq).2))) (λ_ _ _ h=>h);obtain⟨g2,bA,hv,_,bL,e0,e1,e2⟩:=aGJ a0 hc;rw[f]at hv;cases hv;have bu:Hid (eS kI wr po D):=eC (lH a1.1 ae.out.size λad e bw h=>ae.out.block _ h (λM=>M (a1.2 ad e bw)));obtain⟨V1,ab⟩:=eR (wr.alloc (aK #[aA none 0 0,aC aP op,aC aP m] 38));have az:=DX ab;have a4:=PC ab;have aL:oH V1 wr [aA none 0 0,aC aP op,aC aP m]:=by rw[<-ab];exact boxed wr _ _
   have bs:Hid (V1.heap[(wr:Nat)]?=some (aK #[aA none 0 0,aC aP op,aC aP m] 38 (0,0))):=eC (by rw[<-ab];exact fG wr _);have a7:=eC aL;have au:=eC az;have al:=eC a4;have bv:Hid (∀(B:aS)(u:aT),eD kI 3 V1 B u D->Bl V1 B->Bl wr (B.setCell ⟨wr,0,none⟩ u)/\eD kI 3 0 (B.setCell ⟨wr,0,none⟩ u) u D):=eC (λB u ho hb=>⟨(au.trans (hb.mono (by have:=al.out;omega))).setCell (eX _) _,(ho.on (λq hq=>pU B ⟨wr,0,none⟩ u q (by have:=(ho.lt q hq).1;have:=al.out;simp only;omega)) (λ_ _ _ h=>h)).mono (kU _)⟩);clear hc a0 aL az a4;gi_wp2_with(first|(rw[ab])|((with_reducible show wpListIn _ _ _ _ _ ({dst:=some 40,op:=_,type:=_,pos:=_,after:=_,guard:=_}::_) _ _);refine QD rV (λh=>h) rfl _ _ rfl (V1:Nat) (aA none 0 0) [] rfl (eD.nil _ _ _ _) po co D (by rw[aa];rfl) (bu.later au) (by rw[rP,aa];omega) (eX _) ?_;intro u B af br R;rw[uS]at af;obtain⟨a3,c3,rfl,_,_,_⟩:=fV af;rw[aa]at af|-;obtain⟨q0,q1,q2⟩:=(a7.later R).c3;have f0:B.frozen? ⟨wr,0,none⟩=false:=g8 B _ _ _ _ ((R.block _ (by have:=al.out;omega)).trans bs);have aq:=eC (bv B _ af R);obtain⟨fn,bV,bx,bz,hy,hR⟩:=hY (YG p k++(gD p k).take j) ⟨D,op,m⟩ #[aH #[aA a3 dl c3,aC aP op,aC aP m]] M2 (B.setCell ⟨wr,0,none⟩ (aA a3 dl c3)) (hJ.below aw.out aq.1) ar ⟨_,rfl,aq.2⟩ (bn j _ hx);replace hR:=eC hR;clear af br R)|((with_reducible show wpListIn _ _ _ _ _ ({dst:=some 44,op:=_,type:=_,pos:=_,after:=_,guard:=_}::_) _ _);refine wpListIn_plain rfl λK' bm=>?_;unfold Oper.wpIn;refine⟨?_,?_⟩;(exact λ_ _=>trivial);(simp only[Oper.semAt_none,Fence.wide_round];simp[execOp,resolve,Deferred.ofValue,invoke,hy,Oper.uponIn_round,Act.eval]);refine(jN hR).mono ?_;rintro e W5⟨rfl,j5,r5⟩;have bl:Hid (J (YG p k++(gD p k).take (j+1)) M2 W5):=eC (by rw[F4,hx];rw[jH]at j5;exact j5);have bk:Hid (eZ (λq=>¬M2 q) X W5):=eC ((ae.out.then aq.1).trans ⟨r5.os,r5.tape,r5.output,r5.size,λq hq M=>r5.own q (cT.1 M) hq⟩);clear j5 r5 hy q0 q1 q2 f0;refine bm _ _ ?_));go_roundw
   case rel=>exact⟨j+1,by omega,by go_num,bl,bk⟩
   case measure=>simp[aW];omega
end
def wJ(ops:Array Oper):Bool:=ops.toList.all λo=>match o.op with
 |.defer _=>false
 |_=>true
theorem XA(h:wJ ops=true)(e:ops[i]?=some o):∀c,o.op≠.defer c:=by unfold wJ at h;rw[IR]at h;have:=h o (iG (by simpa using e));intro c d;rw[d]at this;cases this
theorem XB(D:wJ ops=true)(hq:¬LetsOut Q){K:Act->aS->Prop}(h:wpOp P ops Q i K a w):wpOpIn (Fence.wide.inRound l) n P ops Q i K a w:=by
 unfold wpOp at h;unfold wpOpIn;cases ho:ops[i]?with
 |none=>rw[ho]at h;exact h
 |some o=>
  rw[ho]at h;simp only at h|-;split
  .rename_i hw;rw[eI hw]at h;obtain h|h:=h
   .refine⟨λ_ _=>trivial,?_⟩;rw[Oper.semAt_eq _ _ _ (XA D ho)];unfold Oper.wp at h;revert h;generalize(execOp a.eval o).run P w=r;intro h;unfold Oper.upon at h;unfold Oper.uponIn;split at h
    .exact h
    .exact h
    .exact h
    .exact⟨(λh=>by cases h),(hH (n:=n-1)).2 h⟩
    .exact⟨(λh=>by cases h),λc B _=>let⟨v,w',r,s⟩:=h c B;⟨v,w',r,stepsIn_wide.2 s⟩⟩
    .exact h
    .exact h.elim
   .exact absurd h.2 hq
  .rename_i hw;rw[eE hw]at h;exact⟨λ_ _=>trivial,h⟩
theorem yX{md:Region.Mode}(B:wJ ops=true)(hq:¬LetsOut Q):∀(fuel:Nat)(listed:Array Bool)(a:Act)(w:aS),wpAny P md ops Q fuel listed a w->wpAnyIn (Fence.wide.inRound l) n P md ops Q fuel listed a w
 |0,_,_,_,h=>h
 |fuel+1,_,_,_,h=>⟨h.1,λi J=>wpOpIn_mono (λa' w' D=>yX B hq fuel _ a' w' D) (XB B hq (h.2 i J))⟩
theorem OZ{S:aS->Prop}(hm:P.follows .mixedOrders=true)(D:wJ ops=true)(hq:¬LetsOut Q)
  (B:S w.drew)(h:S w.drew->wpAnyH P .any ops Q S ops.size (bQ ops.size false) a w.drew):(Code.region id ops true).wpIn (Fence.wide.inRound l) n P Q a w:=
 wpIn_region_any hm (yX D hq _ _ _ _ (wpAny_of_held _ _ _ _ (h B)))
theorem LX(I:List Nat)(T:Nat->aS->Prop)(hm:P.follows .mixedOrders=true)(D:wJ ops=true)(hq:¬LetsOut Q)(hT:iV T w.drew I)
  (h:G9 .any ops (bQ ops.size false) (bQ ops.size false)->iV T w.drew (n9 .any ops I (bQ ops.size false))->gS P .any ops Q I T ops.size (bQ ops.size false) (bQ ops.size false) a w.drew):(Code.region id ops true).wpIn (Fence.wide.inRound l) n P Q a w:=
 wpIn_region_any hm (yX D hq _ _ _ _ (gS.any (h G9.start (hT.sub λk B=>(List.mem_filter.1 B).1))))
theorem zgR(I:List Nat)(T:Nat->aS->Prop)(hT:iV T w.drew I)
  (h:AG P .any ops Q I T ops.size (bQ ops.size false) (bQ ops.size false) a w.drew)
  (hm:P.follows .mixedOrders=true:=by kernel_rfl)(B:wJ ops=true:=by kernel_rfl)(hq:¬LetsOut Q:=by rintro⟨a,D,h⟩;exact h):(Code.region id ops true).wpIn (Fence.wide.inRound l) n P Q a w:=
 LX I T hm B hq hT h
theorem gA{α β:Type}{K:lL α}{K2:lL β}{E g:aX}{q:aT}{L:List α}{L2:List β}(h:eD K E n w v L)(aa:¬K.tags g)(h2:eD K2 g n2 w q L2)(hE:E≠g)(hg:w.grownBy w' q.ownBlock):eD K E n w' v L:=by
 have m:∀(k:Nat)(d:Array aT)(t:aX)(z:Nat×Nat),w.heap[k]?=some (aK d t z)->t≠g->w'.heap[k]?=w.heap[k]?:=λk d t z f j=>hg.block k (fB.1 f).1 λe=>by obtain⟨ab,i⟩:=h2.tag k e.symm;rw[f]at i;cases i;exact j rfl
 refine h.on (λk f=>?_) λx _ vs hv=>K.on hv λk d t z f j=>m k d t z f λe=>aa (e▸j);obtain⟨d,i⟩:=h.tag k f;exact m k d _ _ i hE
theorem IL{β:Type}{K2:lL β}{E d:aX}{e:aT}{L2:List β}{f:List (aT×List Int)}(h:sX E n w f)(h2:eD K2 d n2 w e L2)(hE:E≠d)(hg:w.grownBy w' e.ownBlock):sX E n w' f:=
 ⟨λx hx=>gA (h.own x hx) (λh=>h) h2 hE hg,h.apart⟩
theorem SL{k:Nat}:∀(e:List (List aT))(i j:Nat)(d:List aT)(u:aT),(∀d∈e,d.length=k)->e[i]?=some d->j<k->(e.set i (d.set j u)).flatten=e.flatten.set (i*k+j) u
 |[],i,j,d,u,_,h,_=>by simp at h
 |ys::e,0,j,d,u,hl,h,hj=>by
  simp only[List.getElem?_cons_zero,Option.some.injEq]at h
  subst h
  have:=hl ys (DZ ..)
  rw[aIA,L3,L3,Nat.zero_mul,kQ,List.set_append_left _ _ zO]
 |ys::e,i+1,j,d,u,hl,h,hj=>by
  have g:=hl ys (DZ ..)
  rw[aFK,L3,L3,SL e i j d u (λd f=>hl d (BP _ f)) (by simpa using h) hj,List.set_append_right _ _ (by rw[Nat.succ_mul];omega)]
  congr 2
  rw[Nat.succ_mul,g]
  omega
theorem eD.set{α:Type}{K:lL α}{E:aX}{n:Nat}{w:aS}{v:aT}{L:List α}(h:eD K E n w v L)(ae:¬K.tags E){i j g:Nat}{x y:α}{u:aT}(hi:L[i]?=some x)(q:v.ownBlock=some g)(hj:j<K.k)(hy:∀d,K.R w x d->K.R w y (d.set j u)):
  eD K E n (qS w (g,i*K.k+j) u) v (L.set i y)/\w.grownBy (qS w (g,i*K.k+j) u) (some g):=by
 have aa:=h;obtain⟨ac,f,h2⟩:=h;obtain⟨a,c,rfl,ha,_⟩:=fV aa;obtain⟨rfl⟩:a=some ⟨g,0,none⟩:=by
  cases a with
  |none=>cases q
  |some ad=>obtain⟨e1,e2⟩:=ha ad rfl;rw[q]at e2;cases e2;rw[e1]
 obtain⟨h3,h4⟩:=h2.stored (i*K.k+j) u;refine⟨?_,h4⟩;have hR:∀z d,K.R w z d->K.R (qS w (g,i*K.k+j) u) z d:=λz d hz=>K.on hz λk ag t zz hk ht=>pU w ⟨g,_,none⟩ u k λe=>by subst e;obtain⟨ah,hc⟩:=aa.tag _ q;rw[hk]at hc;cases hc;exact ae ht
 obtain⟨d,ab,af⟩:=f.2 i x hi;refine⟨ac.set i (d.set j u),⟨by simp[f.1],λm z hm=>?_⟩,?_⟩
 .rw[List.getElem?_set]at hm;split at hm
  .rename_i e;subst e;split at hm
   .cases hm;refine⟨d.set j u,?_,hR _ _ (hy d af)⟩;rw[List.getElem?_set,eI rfl,eI (gX.1 ab).1]
   .cases hm
  .rename_i e;obtain⟨us,g1,g2⟩:=f.2 m z hm;exact⟨us,by rw[List.getElem?_set,eE e];exact g1,hR _ _ g2⟩
 .rw[cJ,SL ac i j d u f.lens ab hj];exact h3
theorem eD.cut{α:Type}{K:lL α}{E:aX}{L:List α}{x:α}(h:eD K E n w (aA (some (g,0)) m k) (L++[x])):eD K E n w (aA (some (g,0)) L.length k) L:=by
 obtain⟨e,f,h2⟩:=h;obtain⟨d,h0⟩|⟨g',ah,ae,d,hb,hg,ag,af,aa,ac⟩:=h2.2
 .cases d
 .cases d;simp only[iR,LV]at ag aa ac h2;refine⟨e.take L.length,⟨by rw[jR,f.1];simp,λi z hi=>?_⟩,?_,.inr ⟨g,k,ae,rfl,hb,hg,zO,af,aa,?_⟩⟩
  .have ab:=(gX.1 hi).1;obtain⟨j,g1,g2⟩:=f.2 i z (by rw[FU ab];exact hi);exact⟨j,by rw[List.getElem?_take,eI ab];exact g1,g2⟩
  .rw[yE (λj d=>f.lens j (bW d)),jR,f.1];simp
  .have hs:e=e.take L.length++e.drop L.length:=(xH _ _).symm;have hl:(e.take L.length).flatten.length=L.length*K.k:=by rw[yE (λj d=>f.lens j (bW d)),jR,f.1];simp
   have he:e.flatten.take (L.length*K.k)=(e.take L.length).flatten:=by
    conv=>lhs;rw[hs,List.flatten_append]
    rw[<-hl,List.take_left'];rfl
   rw[<-he,<-ac,List.take_take,Nat.min_eq_left (Nat.mul_le_mul_right _ zO)]
theorem eD.at{α:Type}{K:lL α}{E:aX}{n:Nat}{w:aS}{v:aT}{L:List α}(h:eD K E n w v L){i:Nat}{x:α}(hi:L[i]?=some x):∃g c d,v=aA (some (qP g 0)) L.length c/\n<=g/\g<(w:Nat)/\K.R w x d/\eG w g (i*K.k) d/\∀j,w.frozen? (qP g j)=false:=by obtain⟨a,c,rfl,h1,h2⟩:=h.ls;obtain⟨b,ab,d,rfl,hb,hr,hc⟩:=h1.at hi;obtain⟨g1,g2,rfl,aa,g4⟩:=h2 _ rfl;rw[kQ]at hc;exact⟨b,c,d,rfl,g1,g2,hr,hc,λj=>g8 w _ _ _ _ g4⟩
section
attribute [local go_sem] Oper.semAt_some
theorem rR{α:Type}{K:lL α}{S E:aX}{aa:Nat}(M:gY P S E K.k aa){D:Act}{KK:Act->aS->Prop}{EE:Prop}(ae:o.guard=none)(s x:Operand)
  (ho:o.op=.call {callee:=.builtin .append,args:=#[s,x],argTypes:=#[S,S]})(n:Nat)(v:aT)(L:List α)(hs:D.eval s=v)(ab:eD K E n w v L)
  (N:Nat)(y:α)(B:List aT)(R:K.R w y B)(hx:D.eval x=aA (some (N,0)) 1 1)(O:eG w N 0 B)(af:L.length+1<=10000000)(hb:n<=w)
  (ag:¬K.tags E)
  (h:∀J w',eD K E n w' J (L++[y])->w.grownBy w' v.ownBlock->aV n w w'->U8 w v J->KK (D.put o.dst J) w'):if Region.wanted o (yielded ops D.tmps)=true then Oper.wp P o D w KK Q else EE:=by
 obtain⟨i,z,hi,hz,aj,ac,ak⟩:=M.info;have hR:∀w' x B,w.grownBy w' v.ownBlock->K.R w x B->K.R w' x B:=λw' x B O h=>qT ab ag O h;obtain⟨al,h1,h2⟩:=ab;have am:=K.len R;have ai:=M.small;have hw:Region.wanted o (yielded ops D.tmps)=true:=by simp[Region.wanted,ae]
 rw[eI hw];obtain⟨J,w',ah,r1,U,r3⟩:=wK (P:=P) w n S o.type E i z K.k aa M.under hi hz aj ac ak M.pos v L.length al.flatten h2 (N,0) B zO (λj u hj=>by rw[kJ,kQ];simpa using O j u hj) (K.one R) (by unfold aZ;omega) (by have:=Nat.mul_le_mul af ai;omega) hb;unfold Oper.wp;simp[execOp,ho,resolve,invoke,builtin,hs,hx,ah,Result.andThen];exact h J w' (qR h1 R r1 λx B=>hR w' x B U) U ((iL n w).grown U hb (λk hk=>(BK h2 k hk).1)) r3
theorem aD1(B:Nat)(w:aS):qK 249 #[qP B 0] w λe w'=>e=aO (aD (.func 283) #[] #[qP w 0])/\w'=w.alloc (aK #[qP B 0] 235):=by go_enter func249,ntmps249;go_wp2;go_ret;exact⟨rfl,rfl⟩
theorem wR{u v:aS}(h:aV n u v):aV n u v.drew:=⟨h.os,h.tape,h.output,h.size,h.block⟩
def D1(f d:Option Addr)(g e:Nat)(p:Pg)(x3 x4 x5 v:aT):List aT:=[aC aP p.pa,aA f p.vs.length g,aA d p.bd.length e,x3,x4,x5,v]
def aKt:Array aT->Array aT
 |#[aH cs]=>cs
 |_=>#[]
structure aHG(bb n:Nat)(cs:aT->List aT)(w0:aS)(pre:List Dl)(M:Nat->Prop)(U:aS)(v:aT):Prop where
 b:U.heap[bb]?=some (aK (cs v).toArray 237 (0,0))
 o:eD kD 38 n U v pre
 mb:¬M bb
 mv:∀q,v.ownBlock=some q->¬M q
 c:eZ (·=bb) w0 U
theorem aEE{B:Nat}{j:aT->List aT}{g:aS}(u:g<=B):AY (λ_ _=>False) B (λf M U=>∃v,aHG i n j g f M U v):=λf M r U s⟨v,h⟩d hm=>
 ⟨v,(sJ d).same _ _ h.b (.inr rfl),(sJ d).ownLs h.o,λe=>by
  obtain h3|h3:=hm _ e
  .exact h.mb h3
  .have:=(fB.1 h.b).1
   omega,λq hq e=>by
  obtain h3|h3:=hm _ e
  .exact h.mv q hq h3
  .have:=(h.o.lt q hq).2
   omega,d.os.trans h.c.os,d.tape.trans h.c.tape,d.output.trans h.c.output,fA h.c.size d.size,λk e m=>(d.block k (gV e h.c.size) (by
  rintro(h|h)
  .exact h
  .omega)).trans (h.c.block k e m)⟩
theorem TQ(p:Pg):(fH p).length<=p.bd.length*100:=by
 rw[ZZ];suffices h:∀k,(YG p k).length<=k*100 from h _;intro k;induction k with
 |zero=>simp[YG]
 |succ k ih=>
  have:=GA p.bd k;rw[EV,iR];have:(gD p k).length<=100:=by unfold gD;rw[rN];exact this
  omega
def aJt(d:Nat)(f:aT->List aT)(L:List Dl)(w:aS)(e:Ending)(w':aS):Prop:=
 (∃u,e=aO u)/\∃v,w'.heap[d]?=some (aK (f v).toArray 237 (0,0))/\eD kD 38 (w:Nat) w' v L/\eZ (·=d) w w'
theorem aF5{d:Nat}{cs:aT->List aT}{W:aS}{v':aT}(h:W.heap[d]?=some (aK (cs v).toArray 237 (0,0)))(e:(cs v).set 6 v'=cs v'):(qS W (d,6) v').heap[d]?=some (aK (cs v').toArray 237 (0,0)):=by have:=iB W d 6 _ _ v' h;rw[this,<-e];simp
theorem aED(J y ah bc vc:Nat)(va:Option Addr)(p:Pg)(x3 x4 x5:aT)(w:aS)(hb:w.heap[J]?=some (aK (D1 va (some ⟨y,ah,none⟩) vc bc p x3 x4 x5 qN).toArray 237 (0,0)))
  (hN:eP w (some ⟨y,ah,none⟩) p.bd)(hm:p.bd.length<=999)(hc:p.bd.length<=bc)(a6:bc<=aZ)(he:iD p.bd 0=some p.bd.length)(aq:y≠J):
  qK 202 #[aE (some ⟨J,0,none⟩)] w (aJt J (D1 va (some ⟨y,ah,none⟩) vc bc p x3 x4 x5) (fH p) w):=by
 obtain⟨cs,ao⟩:=eR (D1 va (some ⟨y,ah,none⟩) vc bc p x3 x4 x5);have bo:=eC (λv v'=>show(cs v).set 6 v'=cs v' by rw[<-ao];rfl);have bl:=eC (λv=>show(cs v)[2]?=some (aA (some ⟨y,ah,none⟩) p.bd.length bc) by rw[<-ao];rfl);have bm:=eC (λv=>show(cs v)[6]?=some v by rw[<-ao];rfl);rw[ao]at hb|-;have ac:=(fB.1 hb).1;obtain⟨W,hW,a4,-,aw⟩:=lB w (aK #[aE (some ⟨J,0,none⟩)] 235);have xB:Boxed W w 235 (aE (some ⟨J,0,none⟩)):=by rw[<-hW];exact oI w _ _
 obtain⟨W2,ax,ay,-⟩:=lB W (aK #[aE (some ⟨J,0,none⟩)] 235);have bg:(W2:Nat)=(w:Nat)+2:=by rw[<-ax];simp[aw]
 have xE:Boxed W2 ((w:Nat)+1) 235 (aE (some ⟨J,0,none⟩)):=by rw[<-ax,<-aw];exact oI W _ _
 have ap:Bl w W2:=a4.trans (ay.mono (by omega));have bj:Boxed W2 w 235 (aE (some ⟨J,0,none⟩)):=(ay.block _ (pV xB)).trans xB;have am:W2.heap[J]?=some (aK (cs qN).toArray 237 (0,0)):=(ap.block _ ac).trans hb;have ak:eP W2 (some ⟨y,ah,none⟩) p.bd:=hN.later ap;have ar:y<(w:Nat):=by
  obtain h|⟨b,o,h,hl,_⟩:=hN
  .have:=jW he;rw[h]at this;simp at this
  .cases h;exact hl
 have bf:=aCd J y ah bc ((w:Nat)+1) p (λq=>q=(w:Nat)+1\/q=y) W2 xE ak hm hc a6 he (.inl rfl) (.inr rfl) (λq h=>by omega);have au:=TQ p;have a1:AY (λ_ _=>False) W2 (λZ M U=>(∃v,aHG J ((w:Nat)+2) cs W2 Z M U v)/\Boxed U w 235 (aE (some ⟨J,0,none⟩))/\¬M (w:Nat)):=(aEE (eX _)).and λZ M M' U U'⟨h1,h2⟩hc hm=>⟨(sJ hc).boxed h1,λN=>by
  obtain h3|h3:=hm _ N
  .exact h2 h3
  .have:=h1.lt
   omega⟩;have CE:=eC (aD1 J W);rw[ax]at CE;refine(hH (n:=2)).1 ?_;refine xI func202 rfl trivial ?_ rfl;simp only[ntmps202,pN,Nat.reduceAdd,Nat.reduceSub];have cB:=xB.cell;have HZ:=eC aw;have bk:=eC (⟨am,ak,ar,ac,aq,au,hm,bg,ap,bj⟩:_/\_/\_/\_/\_/\_/\_/\_/\_/\_);have bs:=eC bf;have bn:=eC a1;clear hb hN hm hc a6 he aq ao a4 ay xE ap bj am ak ar au bg bf a1 xB aw ac;gi_wp2_with(first|(rw[hW])|(refine⟨trivial,?_⟩;gi_at_call 249;refine(hH.2 CE).mono ?_;rintro e w1⟨rfl,rfl⟩));rw[HZ];obtain⟨am,ak,ar,ac,aq,au,hm,av,ab,bi⟩:=bk.out;have bp:=eC (show(fH p).length<=99900 by omega);have aj:=eC (⟨ac,av,ab⟩:_/\_/\_);refine aCR (n:=0) (gf:=283) (lb:=#[aE (some ⟨(w:Nat)+1,0,none⟩)]) (A:=λ_ _=>False) (Enc:=aKj) rfl (l8 func283 (by kernel_rfl) rfl)
  bs (λq h=>by omega) (λ_ _ h=>h.elim) (λx vs U⟨_,h,_⟩=>by rw[h];rfl) (λx vs U U'⟨v,h,hh⟩gg=>⟨v,h,gg.ownLs hh⟩)
  _ bn (λZ M U⟨⟨v,h⟩,_⟩=>(kG U J 2 _ _ _ h.b).trans (by simpa using bl.out v)) ⟨⟨aA none 0 0,am,eD.nil _ _ _ _,λh=>by omega,λq h=>(by cases h),eZ.refl _ _⟩,bi,λh=>by omega⟩
  (λU x vs=>{tmps:=#[aE (some ⟨J,0,none⟩),aE (some ⟨w,0,none⟩),aE (some ⟨U,0,none⟩),aE (some ⟨J,0,none⟩),aD (.func 283) #[] #[aE (some ⟨(w:Nat)+1,0,none⟩)],vs.getD 0 aY,aY,aY,aY,aY,aY,aY,aY,aY,aY,aY],defers:=[]})
  (λU _ vs=>U.alloc (aK (aKt vs) 38)) (λU _ _=>fL U _) ?_ ?_ ?_
 .rintro lq d vs U K⟨v,rfl,ho⟩hK;obtain⟨a,c,rfl,_,_,_⟩:=fV ho;clear ho;gi_wp2
  first|exact hK|simpa using hK
 .rintro lq Z d vs M U0 U⟨⟨v,Y⟩,hx,hmx⟩a2 bv⟨vd,rfl,az⟩bd bA be bh;obtain⟨ad,cd,rfl,_,_,_⟩:=fV az;have hd:=be (U0:Nat) (eX _);rw[fG]at hd;have ag:=hx.cell;have a5:=(kG U J 6 _ _ _ Y.b).trans (show _=some v by simpa using bm.out v);obtain⟨bV,b0,G7⟩:=pX hd;have bL:(U:Nat)=(U0:Nat)+1:=by rw[bh];simp
  have bw:Hid (Z.length+1<=10000000):=eC (by
   have:=List.IsPrefix.length_le bd
   rw[iR,LV]at this
   have:=bp.out
   omega);have O:=eC Y;have HX:=eC hx;have bq:=eC hmx;have HM:=eC (λq(h:M q)=>show q<(U:Nat) by have:=a2 q h;omega);have br:=eC az;have HD:=eC hd;have bt:=eC bA;have ae:Hid ((w:Nat)<(U:Nat)/\J<(U:Nat)):=eC ⟨hx.lt,(fB.1 Y.b).1⟩;clear Y hx hmx a2 bv az bd be bh hd am ak ar ac aq au hm av ab bi;generalize d.path.length=dl at*;gi_wp2;refine OZ (S:=λV=>V.cell? ⟨w,0,none⟩=some (aE (some ⟨J,0,none⟩))) (by kernel_rfl) (by kernel_rfl) (by rintro⟨a,w,h⟩;exact h) ag (λR=>?_);refine wpAnyH_take (i:=0) (oi:=⟨some 6,_,_,_,_,_⟩) (v:=?v0) rfl (by kernel_rfl) (by kernel_rfl) (by kernel_rfl) (λ_ _ _ h=>h) (Or.inl ⟨by rfl,?y0⟩) (by assumption) ?_
  case y0=>(rintro V a0;go_simp<;>with_reducible rfl)
  simp only[bS,UY];refine wpAnyH_take (i:=1) (oi:=⟨some 7,_,_,_,_,_⟩) (v:=?v1) rfl (by kernel_rfl) (by kernel_rfl) (by kernel_rfl) (λ_ _ _ h=>h) (Or.inl ⟨by rfl,?y1⟩) (by assumption) ?_
  case y1=>(rintro V a0;go_simp<;>with_reducible rfl)
  simp only[bS,UY];refine wpAnyH_take (i:=2) (oi:=⟨some 8,_,_,_,_,_⟩) (v:=?v2) rfl (by kernel_rfl) (by kernel_rfl) (by kernel_rfl) (λ_ _ _ h=>h) (Or.inl ⟨by rfl,?y2⟩) (by assumption) ?_
  case y2=>(rintro V a0;go_simp<;>with_reducible rfl)
  simp only[bS,UY];refine wpAnyH_take (i:=3) (oi:=⟨some 9,_,_,_,_,_⟩) (v:=?v3) rfl (by kernel_rfl) (by kernel_rfl) (by kernel_rfl) (λ_ _ _ h=>h) (Or.inl ⟨by rfl,?y3⟩) (by assumption) ?_
  case y3=>(rintro V a0;go_simp<;>with_reducible rfl)
  simp only[bS,UY];obtain⟨V6,al⟩:=eR ((U.alloc (aK #[aA ad dl cd,d.op,qI d.n] 38)).drew);have aa:Bl U V6:=by rw[<-al];exact wR (fL U _)
  have a3:(V6:Nat)=(U:Nat)+1:=by rw[<-al];exact fO _ _
  have bu:eG V6 U 0 [aA ad dl cd,d.op,qI d.n]:=λj u hj=>by rw[<-al];exact eG.new U [aA ad dl cd,d.op,qI d.n] 38 j u hj
  have k0:=(aa.cell (p:=⟨w,0,none⟩) ae.1).trans ag;have k1:=(aa.cell (p:=⟨J,6,none⟩) ae.2).trans a5;refine wpAnyH_ready (rs:=[4,5]) (by kernel_rfl) (by simp) (AllReadyH.cons rfl (λK hK=>?oa) (AllReadyH.cons rfl (λK hK=>?ob) AllReadyH.nil))
  case' oa=>(go_simp;refine hK.out _ _ ag (λR=>?_);clear hK K R;refine wpAnyH_ready (rs:=[5]) (by kernel_rfl) (by simp) (AllReadyH.cons rfl (λK hK=>?_) AllReadyH.nil);go_simp;refine hK.out _ _ ag (λR=>?_);clear hK K R;refine wpAnyH_ready (rs:=[6]) (by kernel_rfl) (by simp) (AllReadyH.cons rfl (λK hK=>?_) AllReadyH.nil);go_simp)
  case' ob=>(go_simp;refine hK.out _ _ ag (λR=>?_);clear hK K R;refine wpAnyH_ready (rs:=[4,6]) (by kernel_rfl) (by simp) (AllReadyH.cons rfl (λK hK=>?oc) (AllReadyH.cons rfl (λK hK=>?od) AllReadyH.nil)))
  case' oc=>(go_simp;refine hK.out _ _ ag (λR=>?_);clear hK K R;refine wpAnyH_ready (rs:=[6]) (by kernel_rfl) (by simp) (AllReadyH.cons rfl (λK hK=>?_) AllReadyH.nil);go_simp)
  case' od=>(go_simp;(try rw[al]);refine hK.out _ _ k0 (λR=>?_);clear hK K R;refine wpAnyH_ready (rs:=[4]) (by kernel_rfl) (by simp) (AllReadyH.cons rfl (λK hK=>?_) AllReadyH.nil);go_simp)
  all_goals
   try rw[al]
   refine hK.out _ _ k0 (λR=>?_);clear hK K R;refine wpAnyH_ready (rs:=[7]) (by kernel_rfl) (by simp) (AllReadyH.cons rfl (λK hK=>?_) AllReadyH.nil);refine rR (K:=kD) (E:=38) (o:=⟨some 13,_,_,_,_,_⟩) YP rfl (.tmp 10) (.tmp 12) (by rfl) ((w:Nat)+2) v Z (by rfl) (O.o.later aa) (U:Nat) d [aA ad dl cd,d.op,qI d.n] ⟨_,rfl,br.later aa⟩ (by rw[bL];rfl) bu bw (by have:=aj.2.1;have:=bt.out;omega) (λh=>absurd (show(38:aX)=3 from h) (by decide)) ?_;intro v5 f aL a7 bO bx;obtain⟨g5,ai,rfl⟩:=aL.form;have ba:∀b,b<(V6:Nat)->(∀X,V6.heap[b]?≠some (aK X 38 (0,0)))->f.heap[b]?=V6.heap[b]?:=λb hb hn=>a7.block b hb λe=>by obtain⟨X,hc⟩:=(O.o.later aa).tag b e.symm;exact hn X hc
   have nx:=aa.block _ ae.1;have nb:V6.heap[J]?=U.heap[J]?:=aa.block _ ae.2;have ex:f.heap[(w:Nat)]?=U.heap[(w:Nat)]?:=(ba _ (by rw[a3];have:=ae.1;omega) (λX h=>by rw[nx,show U.heap[(w:Nat)]?=_ from HX]at h;cases h)).trans nx;have eb:f.heap[J]?=U.heap[J]?:=(ba _ (by rw[a3];have:=ae.2;omega) (λX h=>by rw[nb,O.b]at h;cases h)).trans nb;have j0:=(lA (w:=U) (a:=⟨w,0,none⟩) ex).trans ag;have j1:=(lA (w:=U) (a:=⟨J,6,none⟩) eb).trans a5;simp only[bS,UY];refine hK.out _ _ j0 (λR=>?_);clear hK K;refine wpAnyH_take (i:=8) (oi:=⟨some 14,_,_,_,_,_⟩) (v:=?v8) rfl (by kernel_rfl) (by kernel_rfl) (by kernel_rfl) (λ_ _ _ h=>h) (Or.inl ⟨by rfl,?y8⟩) (by assumption) ?_
   case y8=>(rintro V a0;go_simp<;>with_reducible rfl)
   simp only[bS,UY];refine wpAnyH_take (i:=9) (oi:=⟨some 15,_,_,_,_,_⟩) (v:=?v9) rfl (by kernel_rfl) (by kernel_rfl) (by kernel_rfl) (λ_ _ _ h=>h) (Or.inl ⟨by rfl,?y9⟩) (by assumption) ?_
   case y9=>(rintro V a0;go_simp<;>with_reducible rfl)
   simp only[bS,UY];refine wpAnyH_ready (rs:=[10]) (by kernel_rfl) (by simp) (AllReadyH.cons rfl (λK hK=>?_) AllReadyH.nil);have fb:f.frozen? ⟨J,6,none⟩=false:=g8 f _ _ _ _ (eb.trans O.b);go_simp;have xB:(f.setCell ⟨J,6,none⟩ (aA (some ⟨g5,0,none⟩) (Z.length+1) ai)).heap[J]?=_:=aF5 (cs:=cs) (v':=aA (some ⟨g5,0,none⟩) (Z.length+1) ai) (eb.trans O.b) (bo _ _);have af:eZ (λq=>q=J\/v.ownBlock=some q) U (f.setCell ⟨J,6,none⟩ (aA (some ⟨g5,0,none⟩) (Z.length+1) ai)):=((eZ.of aa).grown a7 (λr hr=>.inl (.inr hr))).set (.inl (.inl rfl)) _;have bz:eD kD 38 ((w:Nat)+2) (f.setCell ⟨J,6,none⟩ (aA (some ⟨g5,0,none⟩) (Z.length+1) ai)) (aA (some ⟨g5,0,none⟩) (Z.length+1) ai) (Z++[d]):=by
    have a8:∀(k:Nat)(X:Array aT)(t:aX)(z:Nat×Nat),f.heap[k]?=some (aK X t z)->t≠237->(f.setCell ⟨J,6,none⟩ (aA (some ⟨g5,0,none⟩) (Z.length+1) ai)).heap[k]?=f.heap[k]?:=λk X t z N ht=>pU f ⟨J,6,none⟩ _ k λe=>by simp only at e;rw[e,eb.trans O.b]at N;cases N;exact ht rfl
    exact aL.on (λk N=>by obtain⟨X,hc⟩:=aL.tag k N;exact a8 k X _ _ hc (by decide)) λx _ vs hv=>kD.on hv λk X t z N ht=>a8 k X t z N (by rw[show t=3 from ht];decide)
   refine hK.out _ _ ?_ (λR=>?_)
   .rw[<-j0];exact World.cell?_setCell_far _ _ _ _ (by have:=ae.out;have:=aj.1;simp only;omega)
   clear hK K R;refine wpAnyH_done (by kernel_rfl) ?_ _;refine⟨tD.chg af (λk N=>?_) (λk N _=>?_),⟨_,xB,bz,O.mb,λq hq N=>?_,?_⟩,?_,bq⟩
   .obtain rfl|N:=N
    .exact O.mb
    .exact O.mv k N
   .obtain rfl|N:=N
    .exact⟨_,O.b,rfl⟩
    .obtain⟨X,hc⟩:=O.o.tag k N;exact⟨_,hc,rfl⟩
   .obtain e|e:=bx
    .exact O.mv q (e▸hq) N
    .rw[e]at hq;cases hq;have:=HM _ N;omega
   .refine⟨af.os.trans O.c.os,af.tape.trans O.c.tape,af.output.trans O.c.output,fA O.c.size af.size,λk N hn=>(af.block k (gV N O.c.size) ?_).trans (O.c.block k N hn)⟩;rintro(h|h)
    .exact hn h
    .have:=(O.o.lt k h).1;have:=aj.2.1;omega
   .refine(af.block _ ae.1 ?_).trans HX;rintro(h|h)
    .have:=aj.1;omega
    .have:=(O.o.lt _ h).1;omega
 .rintro D U hD⟨⟨v,Y⟩,hx,hmx⟩hK;have HR:=eC ((fD.put (B:=(w1:Nat)) (aM none) hD hK rfl).ownLs Y.o);have HB:=eC ((fD.put (B:=(w1:Nat)) (aM none) hD hK rfl).same _ _ Y.b (.inr rfl));obtain⟨ac,av,ab⟩:=aj.out;have HC:=eC (show eZ (·=J) w (U.putObj D (aM none))from⟨Y.c.os.trans ab.os,Y.c.tape.trans ab.tape,Y.c.output.trans ab.output,by have:=Y.c.size;simp only[World.putObj_size];omega,λk N hn=>(jY (by omega)).trans ((Y.c.block k (by omega) hn).trans (ab.block k N))⟩);clear Y hx hmx ac av ab
  try dsimp only
  gi_wp2;refine⟨by simp,.inl ⟨_,_,rfl,E6 hK,?_⟩⟩;exact⟨_,iU rfl _ _ _,⟨_,rfl⟩,v,HB,HR.mono (by omega),HC⟩
end
theorem disable(w:aS):(callFunc 331 #[]).run prog w=.ok (.value (aF #[])) w:=run_call_mark0 func331 zK zK zK .disable zK w
theorem enable(w:aS):(callFunc 333 #[]).run prog w=.ok (.value (aF #[])) w:=run_call_mark0 func333 zK zK zK .enable zK w
theorem acquire(a:Addr)(w:aS):(callFunc 334 #[aE (some a)]).run prog w=.ok (.value (aF #[])) w:=run_call_marked func334 zK zK zK .acquire zK a w
theorem releaseMerge(a:Addr)(w:aS):(callFunc 336 #[aE (some a)]).run prog w=.ok (.value (aF #[])) w:=run_call_marked func336 zK zK zK .releaseMerge zK a w
theorem zF(a:Addr)(x:aT)(u:FrameMode)(w:aS)(M:w.cell? a=some x)(O:w.frozen? a=false):
  CallsD prog 253 #[aE (some a),aG true] u w λe J w'=>J=u/\(e=aO (aF #[])/\w'=w.drew.setCell a (aC aQ 1)):=by
 have B:w.drew.cell? a=some x:=by go_simp
 have D:w.drew.frozen? a=false:=by go_simp
 have N:=run_call_store (P:=prog) func288 zK zK zK zK (k:=aQ) (y:=1) B D;go_enter_d func253,ntmps253;go_wp2;go_region_calls
 all_goals(go_end0;exact⟨rfl,rfl⟩)
theorem wZ(a:Addr)(u:FrameMode)(w:aS)(B:w.cell? a=some (aC .i32 1))(D:w.frozen? a=false):
  CallsD prog 252 #[aE (some a)] u w λe J w'=>J=u/\(e=aO (aF #[])/\w'=w.setCell a (aC .i32 0)):=by have hd:=disable;have he:=enable;have N:=releaseMerge;have M:=run_call_add (P:=prog) func337 (by kernel_rfl) (by kernel_rfl) (by kernel_rfl) .i32 (by kernel_rfl) (y:=-1) (s:=0) B D (by simp[go_sem];rfl);have hcv:=run_convert_to_unsafe (P:=prog) (src:=461) (dst:=201) underlying461 underlying201 (by kernel_rfl) B;go_enter_d func252,ntmps252;go_wp2;go_end0;go_wp2
theorem NN(a:Addr)(w:aS)(B:w.cell? a=some (aC .i32 0))(J:w.frozen? a=false):
  Calls prog 251 #[aE (some a)] w λe w'=>e=aO (aF #[])/\w'=w.setCell a (aC .i32 1):=by
 have hd:=disable;have he:=enable;have M:=acquire;have N:=run_call_cas_hit (P:=prog) func332 (by kernel_rfl) (by kernel_rfl) (by kernel_rfl) .i32 (by kernel_rfl) (y:=1) B J;have D:(w.setCell a (aC .i32 1)).cell? a=some (aC .i32 1):=GU w a _ B;have hcv:=run_convert_to_unsafe (P:=prog) (src:=461) (dst:=201) underlying461 underlying201 (by kernel_rfl) D;go_enter func251,ntmps251;go_wp2
 first|go_end0|(simp only[Exit.inBlock,Exit.then];refine gO (iU rfl _ _ _) rfl ?_)|refine gO (iU rfl _ _ _) rfl ?_
 go_wp2
def DY(b o:Nat)(W:aS):aS:=(W.drew.setCell ⟨b,o,none⟩ (aC aQ 1)).setCell ⟨b,o+1,none⟩ (aC .i32 0)
def Q0(b o:Nat)(W:aS):Prop:=W.cell? ⟨b,o,none⟩=some (aC aQ 0)/\W.cell? ⟨b,o+1,none⟩=some (aC .i32 1)/\W.frozen? ⟨b,o,none⟩=false/\W.frozen? ⟨b,o+1,none⟩=false
def Y3(b o:Nat)(R:aS->Prop)(e:Ending)(w':aS):Prop:=e=aO (aF #[])/\∃W,R W/\w'=DY b o W
theorem aAw(b o f:Nat)(fa:Array aT)(R:aS->Prop)(w:aS)(j:∀D w,(callFunc f D).run prog w=.ok (.enter f D) w)(S:qC w b o (aC aQ 0))(y:qC w b (o+1) (aC .i32 0))(f0:qF w b o)(f1:qF w b (o+1))
  (hf:qK f fa (qS w (b,o+1) (aC .i32 1)) λe W=>(∃u,e=aO u)/\Q0 b o W/\R W):
  qK 204 #[qP b o,aD (.func f) fa #[]] w (Y3 b o R):=by
 have hl:=run_call_load (P:=prog) func250 zK zK zK aQ zK (w:=qS w (b,o+1) (aC .i32 1)) (a:=(b,o)) (x:=0) ((q9 _ (b,o+1) (b,o) _ zS).trans S);have aa:∀(x:Bool)(w:aS),(Op.unary .not (aG x)).run prog w=.ok (aG (!x)) w:=λ_ _=>rfl;go_enter_defers func204,ntmps204;go_wp2_with(go_at_call 251;refine(NN (b,o+1) _ (by go_simp) (by go_simp)).mono ?_;rintro e w'⟨rfl,rfl⟩);go_wp2_with(first|((with_reducible refine hf.mono ?_);rintro e W⟨⟨u,rfl⟩,⟨J,M,N,O⟩,U⟩)|(go_at_call 203;go_in));refine P7 (f:=253) (args:=#[qP b o,true]) zS (by simp[go_sem]) ?_;refine(zF (b,o) (aC aQ 0) .returning _ J N).mono ?_;rintro e Y Z⟨rfl,rfl,rfl⟩;have X:(qS W.drew (b,o) (aC aQ 1)).cell? (b,o+1)=some (aC .i32 1):=by refine(q9 _ (b,o) (b,o+1) _ zS).trans ?_;rw[World.cell?_drew];exact M
 refine P7 (f:=252) (args:=#[qP b (o+1)]) (by simp[settle]) (by simp[go_sem]) ?_;refine(wZ (b,o+1) _ _ X ?_).mono ?_
 .rw[World.frozen?_setCell,World.frozen?_drew];exact O
 rintro e Y Z⟨rfl,rfl,rfl⟩;have B:=eC (show Y3 b o R (aO (aF #[])) (qS (qS W.drew (b,o) (aC aQ 1)) (b,o+1) (aC .i32 0))from⟨rfl,W,U,rfl⟩);generalize qS (qS W.drew (b,o) (aC aQ 1)) (b,o+1) (aC .i32 0)=V at B|-;simp[Leaves,settle,results,results204];exact B
theorem T3(b o f:Nat)(fa:Array aT)(R:aS->Prop)(w:aS)(D:∀B w,(callFunc f B).run prog w=.ok (.enter f B) w)(J:qC w b o (aC aQ 0))(N:qC w b (o+1) (aC .i32 0))(f0:qF w b o)(f1:qF w b (o+1))
  (hf:qK f fa (qS w (b,o+1) (aC .i32 1)) λe W=>(∃u,e=aO u)/\Q0 b o W/\R W):
  qK 152 #[qP b o,aD (.func f) fa #[]] w (Y3 b o R):=by have S:=eC (aAw b o f fa R w D J N f0 f1 hf);have U:=run_call_load (P:=prog) func250 zK zK zK aQ zK J;have X:∀(x:Bool)(w:aS),(Op.unary .not (aG x)).run prog w=.ok (aG (!x)) w:=λ_ _=>rfl;clear hf D;go_enter func152,ntmps152;go_wp2_with(first|(go_at_call 204;refine S.mono ?_;rintro e W⟨rfl,V,O,rfl⟩)|(go_at_call 203;go_in));have M:=eC (show Y3 b o R (aO (aF #[])) (DY b o V)from⟨rfl,V,O,rfl⟩);exact gO (iU rfl _ _ _) rfl M
theorem aE8(b o f:Nat)(fa:Array aT)(w:aS)(B:qC w b o (aC aQ 1)):
  qK 152 #[qP b o,aD (.func f) fa #[]] w λe w'=>e=aO (aF #[])/\w=w':=by have D:=run_call_load (P:=prog) func250 zK zK zK aQ zK B;have J:∀(x:Bool)(w:aS),(Op.unary .not (aG x)).run prog w=.ok (aG (!x)) w:=λ_ _=>rfl;go_enter func152,ntmps152;go_wp2_with(go_at_call 203;go_in);go_end0;exact⟨rfl,rfl⟩
theorem AH{l:List Nd}(h:nL l=0):l≠[]/\l.length<=200/\iD l 0=some l.length:=by
 unfold nL at h;split at h
 .cases h
 rename_i f;split at h
 .cases h
 split at h
 .cases h
 split at h
 .cases h
 rename_i g;refine⟨λe=>f (by rw[e];rfl),zO,?_⟩;have d:=cT.1 g;rw[show(0:Int)=((0:Nat):Int)from rfl,yY]at d;cases he:iD l 0 with
 |none=>rw[he]at d;simp only at d;omega
 |some e=>rw[he]at d;simp only at d;congr 1;omega
theorem OV(h:gH p=0):nL p.bd=0/\pA p=0/\(p.bd[0]?.getD (0,0)).1=20/\UM p 0=2:=by
 unfold gH at h;split at h
 .rename_i d;exact absurd h d
 split at h
 .rename_i d;exact absurd h d
 split at h
 .cases h
 rename_i d e f;omega
def LN(p:Pg):List Dl:=if gH p=0 then fH p else []
def aHL(d:Nat)(L:List Dl)(w:aS)(e:Ending)(w':aS):Prop:=∃v,e=aO v/\eD kD 38 (w:Nat) w' v L/\eZ (·=d) w w'
theorem fJ{α:Type}{K:lL α}{E T:aX}{b:Nat}{L:List α}{aa:Array aT}(h:eD K E n w v L)(hE:E≠T)(ht:∀t,K.tags t->t≠T)(hb:w.heap[b]?=some (aK aa T (0,0)))(hk:∀k,k≠b->w'.heap[k]?=w.heap[k]?):eD K E n w' v L:=by
 have i:∀(k:Nat)(f:Array aT)(t:aX)(z:Nat×Nat),w.heap[k]?=some (aK f t z)->t≠T->w'.heap[k]?=w.heap[k]?:=λk f t z d g=>hk k λe=>by rw[e,hb]at d;cases d;exact g rfl
 exact h.on (λk d=>by obtain⟨f,hc⟩:=h.tag k d;exact i k _ _ _ hc hE) λx _ vs hv=>K.on hv λk f t z d g=>i k f t z d (ht t g)
theorem aDv(B N O J U:Nat)(S:Option Addr)(p:Pg)(w:aS)(R:qB w B (D1 S (some (N,O)) U J p (aC aQ 0) (aC .i32 0) (aC aQ 0) qN).toArray 237)
  (hN:eP w (some (N,O)) p.bd)(hm:p.bd.length<=999)(hc:p.bd.length<=J)(ae:J<=aZ)(he:iD p.bd 0=some p.bd.length)(x:N≠B):
  qK 151 #[qP B 0] w (aHL B (fH p) w):=by
 obtain⟨Y,X⟩:=eR (qS w (B,4) (aC .i32 1));have ac:Y.heap[B]?=some (aK (D1 S (some (N,O)) U J p (aC aQ 0) (aC .i32 1) (aC aQ 0) qN).toArray 237 (0,0)):=by have:=iB w B 4 _ _ (aC .i32 1) R;rw[X]at this;rw[this];simp[D1]
 have j:eZ (·=B) w Y:=by rw[<-X];exact eZ.set (M:=(·=B)) (eZ.refl _ _) (.inl rfl) _
 have af:Y=(w:Nat):=by rw[<-X];simp
 have ab:=hN.kept zO λad e hl=>j.block _ hl (by cases e;exact x);have hF:=aED B N O J U S p (aC aQ 0) (aC .i32 1) (aC aQ 0) Y ac ab hm hc ae he x;have CD:=eC (T3 B 3 202 #[qP B 0] (λW=>∃v,qB W B (D1 S (some (N,O)) U J p (aC aQ 0) (aC .i32 1) (aC aQ 0) v).toArray 237/\eD kD 38 w W v (fH p)/\eZ (·=B) w W) w
  (l8 func202 zK rfl) (uG R) (E0 R) (g8 w _ _ _ _ R) (g8 w _ _ _ _ R) (by
   rw[X]
   refine hF.mono ?_
   rintro e W⟨hu,v,D,Z,f⟩
   exact⟨hu,⟨uG D,E0 D,g8 W _ _ _ _ D,g8 W _ _ _ _ D⟩,v,D,by rw[<-af];exact Z,j.trans f⟩));have aa:=eC (λ(W:aS)(h:∃v,qB W B (D1 S (some (N,O)) U J p (aC aQ 0) (aC .i32 1) (aC aQ 0) v).toArray 237/\eD kD 38 w W v (fH p)/\eZ (·=B) w W)=>
  show∃v,qC (DY B 3 W) B 6 v/\aHL B (fH p) w (aO v) (DY B 3 W) by
   obtain⟨v,D,Z,f⟩:=h
   have g1:=D
   have g2:=iB W.drew B 3 _ _ (aC aQ 1) g1
   have g3:=iB _ B 4 _ _ (aC .i32 0) g2
   refine⟨v,(kG (DY B 3 W) B 6 _ _ _ g3).trans (by simp[D1]),v,rfl,?_,?_⟩
   .exact fJ Z zD (λt ht=>by rw[show t=3 from ht];decide) D λk y=>(pU _ ⟨B,_,none⟩ _ k y).trans (pU _ ⟨B,_,none⟩ _ k y)
   .exact((f.drew.set (.inl rfl) _).set (.inl rfl) _));go_enter func151,ntmps151;go_wp2_with(go_at_call 152;refine CD.mono ?_;rintro e w2⟨rfl,W,hW,rfl⟩;obtain⟨v,hcv,u⟩:=aa W hW;change Hid _ at hW u);go_ret;exact u
def aCe(p:Pg)(w:aS)(e:Ending)(w':aS):Prop:=∃v,e=aO (aF #[v,aC aP (gH p:Nat)])/\eD kD 38 (w:Nat) w' v (LN p)/\aV (w:Nat) w w'
theorem II(J N:Option Addr)(M D:Nat)(p:Pg)(w:aS)(W:iE w J N M D p)(hm:p.vs.length<=1000000)(ab:p.bd.length<=100000):
  qK 72 #[kE J N M D p] w (aCe p w):=by
 obtain⟨O,u,j,-⟩:=lB w (aK #[p.pa,aA J p.vs.length M,aA N p.bd.length D] 25);have ae:oH O w [p.pa,aA J p.vs.length M,aA N p.bd.length D]:=by rw[<-u];exact boxed w [p.pa,aA J p.vs.length M,aA N p.bd.length D] 25
 have ac:=W.later j;have Y:=eC (qO J N M D p O ac hm ab);have x:=eC j;have f:=eC (λU(h:Bl O U)=>(ae.later h).c3);by_cases hk:gH p=0
 case neg=>
  have d0:((gH p:Int) !=0)=true:=by simpa using hk
  have ag:=eC (λw'(h:Bl O w')=>show aCe p w (aO (aF #[qN,qI (gH p:Nat)])) w' from⟨_,rfl,by unfold LN;rw[eE hk];exact eD.nil _ _ _ _,fC x h⟩);unfold kE at Y|-;clear hk W ac hm ab j ae;generalize gH p=k at*;generalize p.vs.length=vl at*;generalize p.bd.length=bl at*;generalize p.pa=pa at*;obtain⟨c0,c1,c2⟩:=f O (iL _ _);go_enter func72,ntmps72;go_wp2_with(first|(rw[u])|(go_at_call 37;refine Y.mono ?_;rintro e B⟨rfl,Z⟩));go_ret2;exact ag _ Z
 .obtain⟨ha,_,_,_⟩:=OV hk;obtain⟨ai,ak,ah⟩:=AH ha;obtain⟨R,X,rfl,aj⟩:∃R X,N=some ⟨R,X,none⟩/\R<(w:Nat):=by
   obtain h|⟨b,o,h,hl,_⟩:=W.2.1
   .exact absurd h ai
   .exact⟨b,o,h,hl⟩
  have d0:((gH p:Int) !=0)=false:=by rw[hk];rfl
  have CA:=eC (λB(h:Bl O B)=>show qK 151 #[qP B 0] (B.alloc (aK #[p.pa,aA J p.vs.length M,aA (some (R,X)) p.bd.length D,aC aQ 0,aC .i32 0,aC aQ 0,qN] 237)) (λe w'=>∃v,e=aO v/\aCe p w (aO (aF #[v,qI 0])) w')by
   have S:=fC x h
   have y:Bl B (B.alloc (aK #[p.pa,aA J p.vs.length M,aA (some (R,X)) p.bd.length D,aC aQ 0,aC .i32 0,aC aQ 0,qN] 237)):=fL _ _
   refine(aDv B R X D M J p _ (fG B _) ((W.later (fC S y)).2.1) zO W.2.2.2.2.1 W.2.2.2.2.2 ah (by have:=S.size;omega)).mono ?_
   rintro e w'⟨v,rfl,ho,hc⟩
   refine⟨v,rfl,v,by rw[hk];rfl,by unfold LN;rw[eI hk];exact ho.mono (by have:=S.size;simp;omega),(fC S y).trans (hc.below (by have:=S.size;simp;omega) (λk e=>by have:=S.size;omega))⟩);unfold kE at Y|-;generalize p.vs.length=vl at*;generalize p.bd.length=bl at*;generalize p.pa=pa at*;change Hid _ at hk;generalize gH p=k at*;obtain⟨c0,c1,c2⟩:=f O (iL _ _);go_enter func72,ntmps72;go_wp2_with(first|(rw[u])|(go_at_call 37;refine Y.mono ?_;rintro e B⟨rfl,Z⟩;obtain⟨e0,e1,e2⟩:=f B Z;have af:=eC (CA B Z))|(go_at_call 151;refine af.mono ?_;rintro e w3⟨v,rfl,aa⟩;change Hid _ at aa));go_ret2;exact aa
end Go.Proofs.YtgmjilingndloaaGreatDoor
