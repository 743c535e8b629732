/- Part 13 of the proof of TopFuel. No conditions. -/
import Derived.Test.YtgmjilingndloaaGreatDoorZ12
open Go renaming TypeId->aX,Value->aT,World->aS,maxLen->aZ
open Go.Ending renaming returned->aO
open Go.Fn renaming func->bC
open Go.IntKind renaming i64->aP,u32->aQ
open Go.Obj renaming cells->aK
open Go.Operand renaming tmp->aR
open Go.RowKit renaming Below->aV,intOf->aW
open Go.Value renaming agg->aH,bool->aG,func->aD,int->aC,ownBlock->bY,slice->aA,string->aB,tuple->aF
namespace Go.Proofs.YtgmjilingndloaaGreatDoor
set_option linter.unusedVariables false
set_option linter.unusedSimpArgs false
set_option maxRecDepth 100000
set_option maxHeartbeats 20000000
open Go Go.RowKit Go.Proofs.Tryz
variable{w w' V U wr W j:aS}{n d b i m:Nat}{a:Option Addr}{B:RB}{L T y:List (List Int)}{x r s q g u:aT}{p:Pg}{F x7:Int}{l:List Int}{C:List Mt}
theorem aDj(P:Mt->Bool)(u:Nat)(a:Option Addr)(c:Nat)(l:List Mt)(w:aS)(x:eS kM w a l)(hm:l.length<=1000000)
  (Y:∀m∈l,∀O X U,Bl w U->eS kI U O m.d.path->qK 83 #[E1 O X m,qP u 0] U (Rt (aG (P m)) U)):
  qK 162 #[aA a l.length c,aD (bC 83) #[] #[qP u 0]] w λe w'=>(∃k:Int,e=aO (qI k)/\decide (0<=k)=l.any P)/\Bl w w':=by
 obtain⟨n,M⟩:=eR l.length;rw[M]at hm;rw[M];have Z:=eC M;have HL:=eC x;have ab:=eC Y;clear M x Y;go_enter func162,ntmps162;go_wp2_with fail;go_loopw [8] (λi wr=>∃k:Nat,k<=n/\i=qI k/\Hid (∀j m,j<k->l[j]?=some m->P m=false)/\Bl w wr) (λi _=>n-(aW i).toNat)
 case atStart=>exact⟨0,zO,rfl,eC λj m J=>zO,iL _ _⟩
 case round=>
  obtain⟨k,hk,rfl,hs,D⟩:=hrel;by_cases hlt:k<n
  .obtain⟨m,N⟩:=fN (show k<l.length by rw[Z];exact hlt);obtain⟨b,ac,O,X,rfl,hb,aa,x0,x1,x2,x3,x4,x5,x6,x7,_⟩:=sR (HL.later D) N;have B:=eC (ab m (iG N) O X wr D aa);unfold E1 at B;have f:=eC N;clear N aa;cases hP:P m with
   |false=>
    rw[hP]at B;have HP:=eC hP;clear hP;go_wp2_with fail;refine B.mono ?_;rintro e w4⟨rfl,S⟩;go_wp2_with fail;go_roundw
    case rel=>
     refine⟨k+1,zO,by go_num,eC λj y J W=>?_,fC D S⟩;by_cases hjk:j<k
     .exact hs.out j y hjk W
     .obtain rfl:j=k:=zO;rw[f]at W;cases W;exact HP
    case measure=>simp[aW];omega
   |true=>rw[hP]at B;have R:Hid (l.any P=true):=eC (List.any_eq_true.2 ⟨m,iG f,hP⟩);clear hP;go_wp2_with fail;refine B.mono ?_;rintro e w4⟨rfl,S⟩;go_wp2_with fail;go_ret;exact⟨⟨k,rfl,by rw[R];simp⟩,fC D S⟩
  .obtain rfl:n=k:=zO;have R:Hid (l.any P=false):=eC (List.any_eq_false.2 λm hm=>by
    obtain⟨j,J⟩:=List.mem_iff_getElem?.1 hm
    have h1:=(gX.1 J).1
    rw[hs.out j m (by have:=Z.out;omega) J]
    decide);go_wp2_with fail;go_ret;exact⟨⟨-1,rfl,by rw[R];rfl⟩,D⟩
theorem aF2(P:Mt->Bool)(D:Nat)(a:Option Addr)(c:Nat)(l:List Mt)(w:aS)(M:eS kM w a l)(hm:l.length<=1000000)
  (J:∀m∈l,∀N S U,Bl w U->eS kI U N m.d.path->qK 83 #[E1 N S m,qP D 0] U (Rt (aG (P m)) U)):
  qK 94 #[aA a l.length c,aD (bC 83) #[] #[qP D 0]] w (Rt (aG (l.any P)) w):=by have B:=eC (aDj P D a c l w M hm J);clear M hm J;generalize l.any P=r at B|-;generalize l.length=n at B|-;go_enter func94,ntmps94;go_wp2_with fail;refine B.mono ?_;rintro e W⟨⟨k,rfl,R⟩,O⟩;go_wp2_with fail;go_ret;exact⟨aIZ (by rw[<-R]),O⟩
theorem aCO(P:Mt->Bool)(u:Nat)(a:Option Addr)(c:Nat)(l:List Mt)(w:aS)(x:eS kM w a l)(hm:l.length<=1000000)
  (Y:∀m∈l,∀O X U,Bl w U->eS kI U O m.d.path->qK 85 #[E1 O X m,qP u 0] U (Rt (aG (P m)) U)):
  qK 162 #[aA a l.length c,aD (bC 85) #[] #[qP u 0]] w λe w'=>(∃k:Int,e=aO (qI k)/\decide (0<=k)=l.any P)/\Bl w w':=by
 obtain⟨n,M⟩:=eR l.length;rw[M]at hm;rw[M];have Z:=eC M;have HL:=eC x;have ab:=eC Y;clear M x Y;go_enter func162,ntmps162;go_wp2_with fail;go_loopw [8] (λi wr=>∃k:Nat,k<=n/\i=qI k/\Hid (∀j m,j<k->l[j]?=some m->P m=false)/\Bl w wr) (λi _=>n-(aW i).toNat)
 case atStart=>exact⟨0,zO,rfl,eC λj m J=>zO,iL _ _⟩
 case round=>
  obtain⟨k,hk,rfl,hs,D⟩:=hrel;by_cases hlt:k<n
  .obtain⟨m,N⟩:=fN (show k<l.length by rw[Z];exact hlt);obtain⟨b,ac,O,X,rfl,hb,aa,x0,x1,x2,x3,x4,x5,x6,x7,_⟩:=sR (HL.later D) N;have B:=eC (ab m (iG N) O X wr D aa);unfold E1 at B;have f:=eC N;clear N aa;cases hP:P m with
   |false=>
    rw[hP]at B;have HP:=eC hP;clear hP;go_wp2_with fail;refine B.mono ?_;rintro e w4⟨rfl,S⟩;go_wp2_with fail;go_roundw
    case rel=>
     refine⟨k+1,zO,by go_num,eC λj y J W=>?_,fC D S⟩;by_cases hjk:j<k
     .exact hs.out j y hjk W
     .obtain rfl:j=k:=zO;rw[f]at W;cases W;exact HP
    case measure=>simp[aW];omega
   |true=>rw[hP]at B;have R:Hid (l.any P=true):=eC (List.any_eq_true.2 ⟨m,iG f,hP⟩);clear hP;go_wp2_with fail;refine B.mono ?_;rintro e w4⟨rfl,S⟩;go_wp2_with fail;go_ret;exact⟨⟨k,rfl,by rw[R];simp⟩,fC D S⟩
  .obtain rfl:n=k:=zO;have R:Hid (l.any P=false):=eC (List.any_eq_false.2 λm hm=>by
    obtain⟨j,J⟩:=List.mem_iff_getElem?.1 hm
    have h1:=(gX.1 J).1
    rw[hs.out j m (by have:=Z.out;omega) J]
    decide);go_wp2_with fail;go_ret;exact⟨⟨-1,rfl,by rw[R];rfl⟩,D⟩
theorem aFB(P:Mt->Bool)(D:Nat)(a:Option Addr)(c:Nat)(l:List Mt)(w:aS)(M:eS kM w a l)(hm:l.length<=1000000)
  (J:∀m∈l,∀N S U,Bl w U->eS kI U N m.d.path->qK 85 #[E1 N S m,qP D 0] U (Rt (aG (P m)) U)):
  qK 94 #[aA a l.length c,aD (bC 85) #[] #[qP D 0]] w (Rt (aG (l.any P)) w):=by have B:=eC (aCO P D a c l w M hm J);clear M hm J;generalize l.any P=r at B|-;generalize l.length=n at B|-;go_enter func94,ntmps94;go_wp2_with fail;refine B.mono ?_;rintro e W⟨⟨k,rfl,R⟩,O⟩;go_wp2_with fail;go_ret;exact⟨aIZ (by rw[<-R]),O⟩
structure CA where
 va:Option Addr
 vc:Nat
 ba:Option Addr
 bc:Nat
 ta:Option Addr
 tc:Nat
 ma:Option Addr
 mc:Nat
def fU(A:CA)(c:Cp):Array aT:=#[aC aP c.p.pa,aA A.va c.p.vs.length A.vc,aA A.ba c.p.bd.length A.bc,aA A.ta c.T.length A.tc,aC aP c.F,aA A.ma c.ms.length A.mc,aC aP c.sc.a,aC aP c.sc.k,aC aP c.sc.t]
def kW(w:aS)(A:CA)(c:Cp):Prop:=iE w A.va A.ba A.vc A.bc c.p/\gG w A.ta c.T/\eS kM w A.ma c.ms
theorem kW.later{w w':aS}{A:CA}{c:Cp}(h:kW w A c)(d:Bl w w'):kW w' A c:=⟨h.1.later d,h.2.1.later d,h.2.2.later d⟩
structure JH(c:Cp):Prop where
 kc:gH c.p=0
 cf:pW c.p.pa c.T c.F=0
 ml:c.ms.length<=2000
 rise:aHK c.ms
 find:∀m∈c.ms,0<=mW (fH c.p) m.d ((fH c.p).length+1) 0 (fH c.p).length
 right:∀m∈c.ms,qG m=true
 sc:c.sc=kL c.ms
 vl:c.p.vs.length<=1000
 bl:c.p.bd.length<=100000
 al:(fH c.p).length<=1000000
 pl:∀m∈c.ms,m.d.path.length<=1000000
def aAG(c:Cp)(m:Mt):Bool:=decide (m.test>=(c.T.length:Int))
theorem aIz(N:Nat)(A:CA)(c:Cp)(O:Option Addr)(R:Nat)(m:Mt)(w:aS)(S:qB w N (fU A c) 33)(U:qG m=true):
  qK 85 #[E1 O R m,qP N 0] w (Rt (aG (aAG c m)) w):=by obtain⟨C,hC⟩:=eR (Obj.cells #[aA O m.d.path.length R,m.d.op,m.d.n,m.v,m.test,m.out.1,m.out.2,m.dig] 42);have J:Bl w (w.alloc C):=fL w _;have f:=(fB.1 S).1;have B:=eC (SH O R m (w.alloc C) U);have M:(w.alloc C).heap[(w:Nat)]?=some C:=fG w C;have Y:=eC S;unfold aAG;unfold E1 at B|-;rw[<-hC]at B M J;change Hid _ at M J;clear hC U;go_enter func85,ntmps85;go_wp2_with fail;refine B.mono ?_;rintro e x⟨rfl,D⟩;have W:=(D.block w (by rw[fO];omega)).trans M;have X:=(D.block N (by rw[fO];omega)).trans ((iI _ _ _ f).trans Y);have u:=E0 W;have j:=uG X;have Z:=eC (J.trans (D.mono (by rw[fO];omega)));clear W X D B M J;go_wp2_with fail;go_ret;exact⟨rfl,Z⟩
def aC4(c:Cp)(m:Mt):Bool:=decide (mW (fH c.p) m.d ((fH c.p).length+1) 0 (fH c.p).length<0)
theorem aIR(N:Nat)(M:Option Addr)(S:Nat)(c:Cp)(J:Option Addr)(O:Nat)(m:Mt)(w:aS)(X:qC w N 0 (aA M (fH c.p).length S))(U:eS kD w M (fH c.p))(j:eS kI w J m.d.path)(f:(fH c.p).length<=1000000)(y:m.d.path.length<=1000000)(W:∀x∈fH c.p,x.path.length<=1000000):
  qK 83 #[E1 J O m,qP N 0] w (Rt (aG (aC4 c m)) w):=by obtain⟨C,hC⟩:=eR (Obj.cells #[aA J m.d.path.length O,m.d.op,m.d.n,m.v,m.test,m.out.1,m.out.2,m.dig] 42);have D:Bl w (w.alloc C):=fL w _;have Z:=oF w _ X;have ae:N<w:=Z;have B:=eC (N3 M J S O (fH c.p) m.d (w.alloc C) (U.later D) (j.later D) f y W);unfold aC4;unfold GL at B;unfold E1;generalize mW (fH c.p) m.d ((fH c.p).length+1) 0 (fH c.p).length=R at B|-;generalize(fH c.p).length=n at B X;rw[<-hC]at B D;change Hid _ at D;clear hC U j f W Z;go_enter func83,ntmps83;go_wp2_with fail;refine B.mono ?_;rintro e w1⟨rfl,Y⟩;have u:=eC (D.trans (Y.mono (by rw[fO];omega)));clear Y B D;go_wp2_with fail;go_ret;exact⟨rfl,u⟩
def rJ(w:aS)(d:Nat)(A:CA)(c:Cp):Prop:=w.heap[d]?=some (aK (fU A c) 33 (0,0))
theorem rJ.later{A:CA}{c:Cp}(h:rJ w d A c)(e:Bl w w'):rJ w' d A c:=(e.block _ (fB.1 h).1).trans h
theorem rJ.c{A:CA}{c:Cp}(h:rJ w d A c)(i:Nat)(e:(fU A c)[i]?=some x):w.cell? (d,i)=some x:=by unfold World.cell?;rw[show w.heap[d]?=_ from h];exact e
theorem aFz(B:Nat)(A:CA)(c:Cp)(w:aS)(D:rJ w B A c)(N:kW w A c)(J:JH c):qK 87 #[qP B 0] w (Rt (qI 0) w):=by have M:=eC (qO A.va A.ba A.vc A.bc c.p w N.1 (fA J.vl zD) J.bl);rw[J.kc]at M;have O:=eC (λW=>nM true 23 W);have S:qC w B 0 c.p.pa:=D.c 0 rfl;have U:qC w B 1 (aA A.va c.p.vs.length A.vc):=D.c 1 rfl;have X:qC w B 2 (aA A.ba c.p.bd.length A.bc):=D.c 2 rfl;unfold kE at M;clear D N J;go_enter func87,ntmps87;go_wp2_with fail;refine M.mono ?_;rintro e Y⟨rfl,R⟩;go_wp2_with fail;refine(O _).mono ?_;rintro e Z⟨rfl,rfl⟩;go_wp2_with fail;go_ret;exact⟨rfl,R⟩
theorem aGB(B:Nat)(A:CA)(c:Cp)(w:aS)(D:rJ w B A c)(N:kW w A c)(J:JH c):qK 89 #[qP B 0] w (Rt (qI 0) w):=by have M:=eC (sI c.p.pa A.ta A.tc c.T c.F w N.2.1 (by have:=(IE J.cf).2.1;unfold aZ;omega));rw[J.cf]at M;have R:qC w B 0 c.p.pa:=D.c 0 rfl;have S:qC w B 3 (aA A.ta c.T.length A.tc):=D.c 3 rfl;have U:qC w B 4 c.F:=D.c 4 rfl;clear D N J;go_enter func89,ntmps89;go_wp2_with fail;refine M.mono ?_;rintro e W⟨rfl,O⟩;go_wp2_with fail;go_ret;exact⟨rfl,O⟩
theorem aFu(B:Nat)(A:CA)(c:Cp)(w:aS)(D:rJ w B A c)(M:JH c):qK 90 #[qP B 0] w (Rt (qI 0) w):=by have N:=eC (λW=>nM true 24 W);have O:qC w B 5 (aA A.ma c.ms.length A.mc):=D.c 5 rfl;have J:=M.ml;generalize c.ms.length=n at O J;have d1:decide ((n:Int)<=2000)=true:=zT;clear D M J;go_enter func90,ntmps90;go_wp2_with fail;refine(N _).mono ?_;rintro e R⟨rfl,rfl⟩;go_wp2_with fail;go_ret;exact⟨rfl,iL _ _⟩
theorem aG9(D:Nat)(A:CA)(c:Cp)(w:aS)(J:rJ w D A c)(M:kW w A c)(B:JH c):qK 91 #[qP D 0] w (Rt (qI 0) w):=by have N:=eC (aDx A.ma A.mc c.ms w M.2.2 (fA B.ml zD) B.rise B.pl);have O:=eC (λW=>nM true 20 W);have S:qC w D 5 (aA A.ma c.ms.length A.mc):=J.c 5 rfl;clear J M B;go_enter func91,ntmps91;go_wp2_with fail;refine N.mono ?_;rintro e U⟨rfl,R⟩;go_wp2_with fail;refine(O _).mono ?_;rintro e X⟨rfl,rfl⟩;go_wp2_with fail;go_ret;exact⟨rfl,R⟩
theorem aHt(M u D:Nat)(J:Option Addr)(R:Nat)(A:CA)(c:Cp)(w:aS)(Z:rJ w M A c)(f:kW w A c)(B:JH c)(hs:qC w u 0 (aD (bC 83) #[] #[qP D 0]))(N:qC w D 0 (aA J (fH c.p).length R))(X:eS kD w J (fH c.p)):
  qK 93 #[qP M 0,qP u 0] w (Rt (qI 0) w):=by
 have j:=oF w _ N;have O:=eC (aF2 (aC4 c) D A.ma A.mc c.ms w f.2.2 (fA B.ml zD) λm hm pa pc U S hp=>aIR D J R c pa pc m U ((S.cell (p:=(D,0)) j).trans N) (X.later S) hp B.al (B.pl m hm) (λx hx=>fA (I5 c.p x hx) (fA B.bl zD)));have Y:c.ms.any (aC4 c)=false:=List.any_eq_false.2 λm hm=>by have:=B.find m hm;unfold aC4;simp;omega
 rw[Y]at O;have y:=eC (λW=>nM true 17 W);have c5:qC w M 5 (aA A.ma c.ms.length A.mc):=Z.c 5 rfl;clear Z f B N X j Y;go_enter func93,ntmps93;go_wp2_with fail;refine O.mono ?_;rintro e w1⟨rfl,ae⟩;go_wp2_with fail;refine(y _).mono ?_;rintro e w2⟨rfl,rfl⟩;go_wp2_with fail;go_ret;exact⟨rfl,ae⟩
def LO(c:Cp):Nat:=if c.ms.any (aAG c)=true then 21 else 0
theorem aHz(B X:Nat)(A:CA)(c:Cp)(w:aS)(N:rJ w B A c)(S:kW w A c)(R:JH c)(hs:qC w X 0 (aD (bC 85) #[] #[qP B 0])):
  qK 95 #[qP B 0,qP X 0] w (Rt (qI (LO c:Nat)) w):=by
 have D:=eC (aFB (aAG c) B A.ma A.mc c.ms w S.2.2 (fA R.ml zD) λm hm Z f U Y y=>aIz B A c Z f m U (N.later Y) (R.right m hm));have x:qC w B 5 (aA A.ma c.ms.length A.mc):=N.c 5 rfl;have M:Hid (LO c=if c.ms.any (aAG c)=true then 21 else 0):=eC rfl;generalize c.ms.any (aAG c)=r at D M;rw[M];clear N S R M;cases r
 .have J:=eC (λW=>nM true 21 W);go_enter func95,ntmps95;go_wp2_with fail;refine D.mono ?_;rintro e j⟨rfl,O⟩;go_wp2_with fail;refine(J _).mono ?_;rintro e u⟨rfl,rfl⟩;go_wp2_with fail;go_ret;exact⟨rfl,O⟩
 .have J:=eC (λW=>nM false 21 W);go_enter func95,ntmps95;go_wp2_with fail;refine D.mono ?_;rintro e j⟨rfl,O⟩;go_wp2_with fail;refine(J _).mono ?_;rintro e u⟨rfl,rfl⟩;go_wp2_with fail;go_ret;exact⟨rfl,O⟩
theorem aHe(B:Nat)(A:CA)(c:Cp)(w:aS)(D:rJ w B A c)(R:kW w A c)(J:JH c):qK 96 #[qP B 0] w (Rt (qI 0) w):=by
 have O:=jX w;have M:=eC (DL A.ma A.mc c.ms w.drew (R.2.2.later O) (fA J.ml zD));have X:=eC (λW=>nM true 22 W);have f:∀U,Bl w U->qC U B 5 (aA A.ma c.ms.length A.mc):=λU h=>(D.later h).c 5 rfl;have j:∀U,Bl w U->qC U B 6 (qI c.sc.a):=λU h=>(D.later h).c 6 rfl;have u:∀U,Bl w U->qC U B 7 (qI c.sc.k):=λU h=>(D.later h).c 7 rfl;have x:∀U,Bl w U->qC U B 8 (qI c.sc.t):=λU h=>(D.later h).c 8 rfl;have hcv:aEr c.ms=#[qI c.sc.a,qI c.sc.k,qI c.sc.t]:=by rw[J.sc];rfl
 rw[hcv]at M;generalize c.sc.a=sa at*;generalize c.sc.k=sk at*;generalize c.sc.t=st at*;clear D R J hcv;go_enter func96,ntmps96;go_wp2_with fail;go_region_held3(λU=>Bl w U) (first|(with_reducible assumption)|go_grown) ((first|(go_at_call 61;refine M.mono ?_;rintro e Z⟨rfl,N⟩;have Y:Bl w Z:=O.trans (N.mono (eX _));change Hid _ at N)|(go_at_call 88;refine(X _).mono ?_;rintro e y⟨rfl,S⟩;rw[<-S];clear S)));go_wp2_with fail;go_ret;exact⟨rfl,Y⟩
theorem ix0(x0 x1 x2 x3 x4 x5 x6:aT)(w:aS):(Instr.index 159 (aH #[x0,x1,x2,x3,x4,x5,x6]) (qI 0)).run prog w=.ok x0 w:=zK
theorem ix1(x0 x1 x2 x3 x4 x5 x6:aT)(w:aS):(Instr.index 159 (aH #[x0,x1,x2,x3,x4,x5,x6]) (qI 1)).run prog w=.ok x1 w:=zK
theorem ix2(x0 x1 x2 x3 x4 x5 x6:aT)(w:aS):(Instr.index 159 (aH #[x0,x1,x2,x3,x4,x5,x6]) (qI 2)).run prog w=.ok x2 w:=zK
theorem ix3(x0 x1 x2 x3 x4 x5 x6:aT)(w:aS):(Instr.index 159 (aH #[x0,x1,x2,x3,x4,x5,x6]) (qI 3)).run prog w=.ok x3 w:=zK
theorem ix4(x0 x1 x2 x3 x4 x5 x6:aT)(w:aS):(Instr.index 159 (aH #[x0,x1,x2,x3,x4,x5,x6]) (qI 4)).run prog w=.ok x4 w:=zK
theorem ix5(x0 x1 x2 x3 x4 x5 x6:aT)(w:aS):(Instr.index 159 (aH #[x0,x1,x2,x3,x4,x5,x6]) (qI 5)).run prog w=.ok x5 w:=zK
theorem ix6(x0 x1 x2 x3 x4 x5 x6:aT)(w:aS):(Instr.index 159 (aH #[x0,x1,x2,x3,x4,x5,x6]) (qI 6)).run prog w=.ok x6 w:=zK
def tR(A:CA)(c:Cp):aT:=aH (fU A c)
theorem aGT{d e f g:Obj}(h:(((w.alloc d).alloc e).alloc f).alloc g=V):V.heap[(w:Nat)]?=some d/\V.heap[(w:Nat)+1]?=some e/\V.heap[(w:Nat)+1+1]?=some f/\V.heap[(w:Nat)+1+1+1]?=some g/\Bl w V/\V=(w:Nat)+1+1+1+1:=KS h
theorem uZ(A:CA)(c:Cp)(w:aS)(hc:kW w A c)(U:JH c):qK 28 #[tR A c] w (Rt (qI (LO c:Nat)) w):=by
 have aw:=IZ;obtain⟨V,Y,ae,-⟩:=lB w (aK (fU A c) 33);have X:rJ V w A c:=by rw[<-Y];exact fG w _
 have f:=eC (II A.va A.ba A.vc A.bc c.p V (hc.later ae).1 (fA U.vl zD) U.bl);have c0:=X.c 0 rfl;have c1:=X.c 1 rfl;have c2:=X.c 2 rfl;have HC:=eC hc;have M:=eC U;have ai:=eC ae;have am:=eC X;have i0:=ix0;have i1:=ix1;have i2:=ix2;have i3:=ix3;have i4:=ix4;have i5:=ix5;have i6:=ix6;have HK:=eC U.kc;unfold tR;unfold fU at Y|-;unfold kE at f;clear hc U ae X;go_enter func28,ntmps28;go_wp2_with(rw[Y]);refine pSj ?_;go_wp2_with fail;refine f.out.mono ?_;rintro e J⟨av,rfl,hav,ab⟩;rw[show LN c.p=fH c.p by unfold LN;rw[eI HK.out]]at hav;obtain⟨aa,ac,rfl,ao⟩:=eL hav;have ag:=eC ao;have j:=mG ai ab;have al:=eC (am.out.later ab);have aj:=eC (HC.out.later j.out);clear Y f hav ao ab c0 c1 c2 am ai;obtain⟨W,hW⟩:=eR ((((J.alloc (aK #[aA aa (fH c.p).length ac] 122)).alloc (aK #[aD (bC 83) #[] #[qP J 0]] 154)).alloc (aK #[aD (bC 85) #[] #[qP w 0]] 154)).alloc (aK #[aD (bC 87) #[] #[qP w 0],aD (bC 89) #[] #[qP w 0],aD (bC 90) #[] #[qP w 0],aD (bC 91) #[] #[qP w 0],aD (bC 93) #[] #[qP w 0,qP ((J:Nat)+1) 0],aD (bC 95) #[] #[qP w 0,qP ((J:Nat)+1+1) 0],aD (bC 96) #[] #[qP w 0]] 159));obtain⟨x0,x1,x2,x3,S,ar⟩:=KS hW;have aq:=mG j S;have N:=eC (al.out.later S);have O:=eC (aj.out.later S);have ah:=eC (ag.out.later S);have u:=eC (nS x0);have x:=eC (nS x1);have y:=eC (nS x2);have HW:=eC hW;have au:Hid (J+1+1<(W:Nat)):=eC zO;clear hW S ar x0 x1 x2 x3 j al aj ag;go_wp2_with fail;go_step3;go_wp2_with fail;rw[HW.out];have ap:∀wr,Bl W wr->Hid (Bl w wr):=λwr h=>mG aq h;have A3:=eC λwr h=>aFz _ A c wr (N.out.later h) (O.out.later h) M.out;have A4:=eC λwr h=>aGB _ A c wr (N.out.later h) (O.out.later h) M.out;have A5:=eC λwr h=>aFu _ A c wr (N.out.later h) M.out;have A6:=eC λwr h=>aG9 _ A c wr (N.out.later h) (O.out.later h) M.out;have A7:=eC λwr h=>aHt _ _ J aa ac A c wr (N.out.later h) (O.out.later h) M.out ((h.cell (p:=(qP ((J:Nat)+1) 0)) (oF W _ x.out)).trans x.out) ((h.cell (p:=(qP J 0)) (oF W _ u.out)).trans u.out) (ah.out.later h);have Z:=eC λwr h=>aHz _ _ A c wr (N.out.later h) (O.out.later h) M.out ((h.cell (p:=(qP ((J:Nat)+1+1) 0)) (oF W _ y.out)).trans y.out);have A9:=eC λwr h=>aHe _ A c wr (N.out.later h) (O.out.later h) M.out;have HE:Hid (LO c=0\/LO c=21):=eC (by unfold LO;split;exact Or.inr rfl;exact Or.inl rfl);clear HW u x y N O ah HC HK M;obtain⟨od,af⟩:=eR (LO c);rw[af]at Z HE;have ak:=eC af;clear af;go_loopw [8,28] (λe i wr=>∃k:Nat,k<=7/\i=qI k/\e=qI 0/\Hid (6<=k->od=0)/\Hid (Bl W wr)) (λ_ i _=>7-(aW i).toNat)
 case atStart=>exact⟨0,zO,rfl,rfl,eC (λh=>absurd h zD),eC (iL _ W)⟩
 case round=>
  obtain⟨k,hk,rfl,rfl,H6,D⟩:=hrel;obtain rfl|rfl|rfl|rfl|rfl|rfl|rfl|rfl:k=0\/k=1\/k=2\/k=3\/k=4\/k=5\/k=6\/k=7:=zO
  .go_wp2_with fail;refine(A3.out wr D.out).mono ?_;rintro e R⟨rfl,B⟩;change Hid _ at B;go_wp2_with fail;go_roundw
   case rel=>exact⟨1,zO,rfl,rfl,eC (λh=>absurd h zD),mG D B.out⟩
   case measure=>simp[aW]
  .go_wp2_with fail;refine(A4.out wr D.out).mono ?_;rintro e R⟨rfl,B⟩;change Hid _ at B;go_wp2_with fail;go_roundw
   case rel=>exact⟨2,zO,rfl,rfl,eC (λh=>absurd h zD),mG D B.out⟩
   case measure=>simp[aW]
  .go_wp2_with fail;refine(A5.out wr D.out).mono ?_;rintro e R⟨rfl,B⟩;change Hid _ at B;go_wp2_with fail;go_roundw
   case rel=>exact⟨3,zO,rfl,rfl,eC (λh=>absurd h zD),mG D B.out⟩
   case measure=>simp[aW]
  .go_wp2_with fail;refine(A6.out wr D.out).mono ?_;rintro e R⟨rfl,B⟩;change Hid _ at B;go_wp2_with fail;go_roundw
   case rel=>exact⟨4,zO,rfl,rfl,eC (λh=>absurd h zD),mG D B.out⟩
   case measure=>simp[aW]
  .go_wp2_with fail;refine(A7.out wr D.out).mono ?_;rintro e R⟨rfl,B⟩;change Hid _ at B;go_wp2_with fail;go_roundw
   case rel=>exact⟨5,zO,rfl,rfl,eC (λh=>absurd h zD),mG D B.out⟩
   case measure=>simp[aW]
  .obtain rfl|rfl:=HE.out
   .go_wp2_with fail;refine(Z.out wr D.out).mono ?_;rintro e R⟨rfl,B⟩;change Hid _ at B;go_wp2_with fail;go_roundw
    case rel=>exact⟨6,zO,rfl,rfl,eC (λh=>by trivial),mG D B.out⟩
    case measure=>simp[aW]
   .go_wp2_with fail;refine(Z.out wr D.out).mono ?_;rintro e R⟨rfl,B⟩;change Hid _ at B;go_wp2_with fail;refine lM ?_;go_ret;exact⟨by rw[ak.out];rfl,(ap _ (fC D B.out)).out⟩
  .go_wp2_with fail;refine(A9.out wr D.out).mono ?_;rintro e R⟨rfl,B⟩;change Hid _ at B;go_wp2_with fail;go_roundw
   case rel=>exact⟨7,zO,rfl,rfl,eC (λh=>H6.out zD),mG D B.out⟩
   case measure=>simp[aW]
  .obtain rfl:od=0:=H6.out zD;go_wp2_with fail;refine lM ?_;go_ret;exact⟨by rw[ak.out];rfl,(ap _ D.out).out⟩
theorem eS.empty{α:Type}{K:lL α}{aa:Nat}{L:List α}{x:α}(h:eS K U (some (b,aa)) L)(hi:L[i]?=some x)(hk:0<K.k){t:aX}{z:Nat×Nat}(hb:U.heap[b]?=some (aK #[] t z)):False:=by
 obtain⟨b',ab,vs,h1,_,hr,hc⟩:=h.at hi;cases h1;have hl:=K.len hr;cases vs with
 |nil=>simp at hl;omega
 |cons v r=>have h2:=hc 0 v rfl;unfold World.cell? at h2;simp[hb]at h2
theorem vD.elem(h:vD B w){d:Dl}(u:(fH B.p)[i]?=some d):∃b f n r,B.da=some ⟨b,f,none⟩/\b≠B.rb/\b<(w:Nat)/\
  (∀w',eZ (λq=>q=B.rb) w w'->eD kI 3 0 w' (aA n d.path.length r) d.path/\w'.cell? (b,f+i*3)=some (aA n d.path.length r)/\w'.cell? (b,f+i*3+1)=some (qI d.op)/\w'.cell? (b,f+i*3+2)=some (qI d.n)):=by
 obtain⟨b,f,S,s,y,⟨v,rfl,L⟩,m⟩:=h.now.2.2.at u;obtain⟨n,r,rfl,_⟩:=eL L;have E:b≠B.rb:=by
  intro e;have G:=h.data {w with heap:=w.heap.setIfInBounds B.rb (aK #[] 3 (0,0))} (by have:=h.nw;simpa using this) λk _ x=>by show(w.heap.setIfInBounds B.rb _)[k]?=_;rw[Array.getElem?_setIfInBounds];rw[eE (λe=>x e.symm)]
  have C:=G.2.2;rw[s]at C;refine C.empty u zD (b:=b) (t:=3) (z:=(0,0)) ?_;show(w.heap.setIfInBounds B.rb _)[b]?=_;rw[Array.getElem?_setIfInBounds,eI e.symm,eI (by rw[<-e];exact y)]
 refine⟨b,f,n,r,s,E,y,λw' hw=>?_⟩;have K:=h.chg (hw.mono λk _ x=>.inl x);obtain⟨N,O,U,D,_,⟨R,rfl,M⟩,J⟩:=K.now.2.2.at u;rw[s]at D;cases D;have g:∀j,w'.cell? (qP b j)=w.cell? (qP b j):=λj=>by unfold World.cell?;rw[hw.block b y E]
 have A:=J 0 _ rfl;have F:=m 0 _ rfl;rw[g,F]at A;cases A;exact⟨M,(g _).trans (m 0 _ rfl),(g _).trans (m 1 _ rfl),(g _).trans (m 2 _ rfl)⟩
theorem G6.pushed{j:aT}{r:List (Int×Int)}{A n:List Mt}(h:G6 B w d x7 j q r A)(u:w.grownBy w' q.ownBlock)(f:aV B.n w w')(x:eD kM 42 B.n w' g n):
  G6 B (qS w' (B.rb,11) g) d x7 j g r n/\eZ (aBp B) w (qS w' (B.rb,11) g):=by have y:=h.good.rb;have D:=h.good.nw;have s:eZ (aBp B) w w':=⟨f.os,f.tape,f.output,f.size,λk C hm=>f.block k (Nat.lt_of_not_le λe=>hm (.inr e))⟩;have i:=(f.block _ y).trans h.box;have m:eZ (aBp B) w (qS w' (B.rb,11) g):=s.set (.inl (.inl rfl)) _;exact⟨⟨h.good.chg m,iB _ _ 11 _ _ g i,vG (gA h.base (λh=>h) h.muts zD u) i _ _,uX x i _ _,h.ask⟩,m⟩
theorem G6.added{e:aT}{i:List (Int×Int)}{f:List Mt}(h:G6 B w d x7 e g i f):G6 B (qS w (B.rb,6) (qI ((d+1:Nat):Int))) (d+1) x7 e g i f:=
 ⟨h.good.set _ _,iB _ _ 6 _ _ _ h.box,vG h.base h.box _ _,uX h.muts h.box _ _,h.ask⟩
def aEa(B:RB)(w:aS)(d:Nat)(g:List Mt)(e:Ending)(w':aS):Prop:=e=aO (aG true)/\(∃f h,G6 B w' (d+1) 1 f h (rW B.p B.T B.F) g)/\eZ (aBp B) w w'
theorem aAJ(B:RB)(d:Nat)(x7:Int)(bv mv:aT)(aw:List (Int×Int))(J:List Mt)(D:Dl)(w:aS)(hf:aCv B)(h:G6 B w d x7 bv mv aw J)(hi:(fH B.p)[d]?=some D)(am:(fH B.p).length<=1000000)(bf:J.length<=1000000)(bh:D.path.length<=1000000)(hq:aEN (jA B.p D).1)(bj:B.p.vs.length<=1000):
  qK 22 #[qP B.rb 0] w (aEa B w d (J++[fQ iC B.p B.T B.F D])):=by
 obtain⟨M,hM⟩:=eR (fQ iC B.p B.T B.F D);obtain⟨f,j,bg,bp,_⟩:=fV h.muts;subst bg;have bm:=(gX.1 hi).1;obtain⟨-,-,-,-,-,c5,c6,-,-,-,-,bb⟩:=aKw h.box;have CL:=eC (NK B.rb d B.da (fH B.p).length B.dc w c6 c5 zO zO am);have hdd:∀V:aS,Bl V V.drew:=λV=>(jX _);have HD:=eC ((h.later (hdd w)).later (hdd w.drew));have ae:eZ (λq=>q=B.rb) w w.drew.drew:=(eZ.of (hdd w)).then (hdd w.drew);obtain⟨R,S,X,Y,bd,bq,bo,ag⟩:=h.good.elem hi;rw[bd]at c5;have au:=ag _ ae;have CJ:=eC (aBn B d x7 bv (aA f J.length j) aw J X Y D w.drew.drew hf HD (by
  obtain⟨a,c,Z,x⟩:=eL au.1
  cases Z
  exact x) bh (λw' hw=>by
  obtain⟨a,c,Z,x⟩:=eL (ag w' (ae.trans hw)).1
  cases Z
  exact x) hq bj);have a6:Hid (∃Q,aEa B w d (J++[M])=Q):=eC ⟨_,rfl⟩;obtain⟨Q,hQ⟩:=a6.out;have bn:decide (((fH B.p).length:Int)-d=0)=false:=zT;have i1:(0:Int)<=(d:Int):=zO;have i2:(d:Int)<((fH B.p).length:Int):=zO;have HQ:=eC hQ;have HM:=eC hM;have ah:=eC ae;have a7:=eC ag;have a3:=eC bf;have az:=eC am;have g5:qC w.drew.drew B.rb 5 (aA (some ⟨R,S,none⟩) (fH B.p).length B.dc):=c5;have g6:qC w.drew.drew B.rb 6 (qI d):=c6;have al:qC w.drew.drew B.rb 11 (aA f J.length j):=bb;have CD:=eC (MN B.rb d w.drew.drew g6);have HE:=eC (show qC w.drew.drew R (S+d*3) (aA X D.path.length Y)/\qC w.drew.drew R (S+d*3+1) D.op/\qC w.drew.drew R (S+d*3+2) (qI D.n)from au.2);rw[hM,hQ];unfold GL at CJ;have bl:Hid (J.length=J.length):=eC rfl;have a2:=eC hi;generalize be:(fH B.p).length=dn at*;generalize bi:B.rb=rb at*;have N:=eC bi;have a1:=eC be;go_enter func22,ntmps22;go_wp2_with(go_at_call 73;refine CL.mono ?_;rintro e w1⟨rfl,rfl⟩);refine zgW [4,10,14] (λi U=>match i with|4=>qC U rb 11 (aA f J.length j)|10=>qC U rb 5 (aA (some ⟨R,S,none⟩) dn B.dc)|14=>qC U R (S+d*3) (aA X D.path.length Y)/\qC U R (S+d*3+1) D.op/\qC U R (S+d*3+2) (qI D.n)|_=>True) (.cons al (.cons g5 (.cons HE .nil))) ?_;refine jV 0 ?_;refine jV 1 ?_;refine jV 2 ?_;refine jV 3 ?_;refine BS 4 ?_;refine jV 5 ?_;refine jV 6 ?_;refine jV 7 ?_;refine jV 8 ?_;refine jV 9 ?_;refine BS 10 ?_;refine jV 11 ?_;refine tG 12 [4,10,14] λK hK=>?_;go_simp;go_wp2_with(go_at_call 75;refine CD.mono ?_;rintro e w3⟨rfl,av⟩;rw[<-av];clear av);refine hK _ _ (.cons al (.cons g5 (.cons HE .nil))) ?_;clear hK K;refine jV 13 ?_;refine BS 14 ?_;refine tG 15 [4] λK hK=>?_;go_simp;go_wp2_with(go_at_call 74;refine CJ.mono ?_;rintro e u⟨m,hm,rfl,aq,⟨ba,ar⟩,ao⟩;have ak:=eC ar;have ai:Hid (eZ (λq=>q=rb) w.drew.drew u):=eC (N▸ao);have a4:=eC hm;have aj:=eC aq;have bk:qC u rb 11 (aA f J.length j):=N▸aBw ak.box;clear ar ao hm aq);refine hK _ _ (.cons bk .nil) ?_;clear hK K;obtain⟨W5,ac,aa,-⟩:=lB u (aK #[aA X D.path.length Y,D.op,qI D.n,m.v,m.test,m.out.1,m.out.2,m.dig] 42);have a0:Hid (eG W5 u 0 [aA X D.path.length Y,D.op,qI D.n,m.v,m.test,m.out.1,m.out.2,m.dig]):=eC (by rw[<-ac];exact eG.new _ _ _);have a5:Hid (kM.R W5 m [aA X D.path.length Y,D.op,qI D.n,m.v,m.test,m.out.1,m.out.2,m.dig]):=eC ⟨_,by rw[aj],by rw[aj];exact((a7 u (ah.trans ai)).1).later aa⟩;have O:=eC (ak.later aa);have k5:=N▸aBw O.box;have aL:Hid (eZ (λq=>q=rb) w W5):=eC ((ah.trans ai).then aa);have a8:=eC ac;clear aa ac;refine tG 16 [4] λK hK=>?_;go_simp;rw[a8];refine hK _ _ (.cons k5 .nil) ?_;refine tG 17 [] λK hK=>?_;refine iS (o:=⟨some 27,_,_,_,_,_⟩) MX rfl (aR 14) (aR 26) zR B.n (aA f J.length j) J zR O.muts (u:Nat) m [aA X D.path.length Y,D.op,qI D.n,m.v,m.test,m.out.1,m.out.2,m.dig] a5 zR a0 (by have:=a3.out;omega) O.good.nw (λh=>absurd (show(42:aX)=3 from h) zD) ?_;intro v' y af ap ab;obtain⟨ax,ay,rfl,_⟩:=eL af;have W:=eC (O.pushed ap ab af);have k6:=(O.pushed ap ab af).1.box;have br:qF y rb 11:=N▸g8 y _ 11 _ _ ((ab.block _ O.good.rb).trans O.box);have bs:qC y rb 11 (aA f J.length j):=N▸kG y _ 11 _ _ _ ((ab.block _ O.good.rb).trans O.box);rw[N]at W;simp only[Act.put,UY];refine hK _ _ .nil ?_;refine EY 18 [] ?_;refine EY 19 [] ?_;refine EY 20 [] ?_;refine QU ?_;simp only[iR,iW,rP,kQ]at W;obtain⟨W7,bc⟩:=eR (y.setCell ⟨rb,11,none⟩ (aA ax (J.length+1) ay));rw[bc]at W|-;have k6:=L4 W.1.box;have z6:=g8 W7 _ 6 _ _ W.1.box;have CA:=eC (aFd B.rb 6 d 1 ((d+1:Nat):Int) W7 (by have Z:=(gX.1 a2).1;rw[iA];have:=az.out;rw[<-a1]at this;omega) k6 z6);rw[N]at CA;go_wp2_with(go_at_call 76;refine CA.mono ?_;rintro e w8⟨rfl,rfl⟩);rw[<-HQ];have HF:aEa B w d (J++[M]) (aO true) (W7.setCell ⟨rb,6,none⟩ (qI ((d+1:Nat):Int))):=by
  have Z:=W.1;have x:=W.2;have h3:eZ (aBp B) w W7:=(aL.mono λk _ hk=>Or.inl (hk.trans N.symm)).trans x;refine⟨rfl,⟨ba,aA ax (J.length+1) ay,?_⟩,h3.set (.inl (.inl N.symm)) _⟩;have h4:=Z.added;rw[N]at h4;have h5:m=M:=by rw[a4,HM]
  rw[<-h5];exact h4
 exact HF
def YA:lL (List Int) where
 k:=1
 R:=λw l n=>∃v,n=[v]/\eD kI 3 0 w v l
 len:=λ⟨v,h,_⟩=>by rw[h];rfl
 one:=λ⟨v,h,d⟩u e=>by
  rw[h]at e
  obtain⟨a,c,m,_⟩:=fV d
  simp at e
  rw[e,m];rfl
 tags:=λt=>t=3
 on:=λ⟨v,h,d⟩j=>⟨v,h,d.on (λk i=>by obtain⟨f,g⟩:=d.tag k i;exact j k f _ _ g rfl) (λ_ _ _ h=>h)⟩
theorem PH(h:eS kI w a l):oB w a l:=by
 obtain h|⟨b,off,rfl,hlt,h⟩:=h
 .exact .inl h
 .refine .inr ⟨b,off,rfl,hlt,λj x i=>?_⟩;obtain⟨k,e,g⟩:=h j x i;have f:k=[qI x]:=e;subst f;have d:=g 0 _ rfl;rw[show j*kI.k=j from Nat.mul_one j]at d;exact d
theorem JS(h:eS YA w a L):gG w a L:=by
 obtain h|⟨b,off,rfl,hlt,h⟩:=h
 .exact .inl h
 .refine .inr ⟨b,off,rfl,hlt,λj x f=>?_⟩;obtain⟨m,⟨v,rfl,i⟩,e⟩:=h j x f;obtain⟨k,c,rfl,g⟩:=eL i;have d:=e 0 _ rfl;rw[show j*YA.k=j from Nat.mul_one j]at d;exact⟨k,c,d,PH g⟩
theorem lR{α:Type}{K:lL α}{E:aX}{c:Nat}{L:List α}(h:eD K E n w (aA a m c) L):L.length<=c/\c<=aZ:=by
 obtain⟨ah,h1,h2⟩:=h;obtain⟨d,h0⟩|⟨g,ac,ae,d,hb,hg,ab,aa,af,ag⟩:=h2.2
 .cases d;exact⟨by rw[h0];exact kU _,by unfold aZ;omega⟩
 .cases d;exact⟨ab,aa⟩
theorem zV{α:Type}{K:lL α}{E:aX}{j:Nat}{v:aT}{L:List α}{cs:Array aT}(h:eD K E n w v L)(hE:E≠142)(ht:∀t,K.tags t->t≠142)(hb:qB w j cs 142)
  (hU:∀k,k<(w:Nat)->k≠j->U.heap[k]?=w.heap[k]?):eD K E n U v L:=by
 have i:∀(k:Nat)(f:Array aT)(t:aX)(z:Nat×Nat),w.heap[k]?=some (aK f t z)->t≠142->U.heap[k]?=w.heap[k]?:=λk f t z d g=>hU k (fB.1 d).1 λe=>by rw[e,hb]at d;cases d;exact g rfl
 exact h.on (λk d=>by obtain⟨f,hc⟩:=h.tag k d;exact i k _ _ _ hc hE) λx _ vs hv=>K.on hv λk f t z d g=>i k f t z d (ht t g)
structure NSt(p:Pg)(T:List (List Int))(F:Int)(w:aS)(rb:Nat)(v1 v2 tv:aT)(k:Nat)(wr:aS):Prop where
 box:wr.heap[rb]?=some (aK #[aC aP p.pa,v1,v2,tv,aC aP F,aA none 0 0,aC aP 0,aC aQ 0,aC .i32 0,aC aQ 0,aA none 0 0,aA none 0 0] 142 (0,0))
 rows:eD YA 22 w wr tv (T.take k)
 vs:eD kI 3 w wr v1 p.vs
 bd:eD kP 54 w wr v2 p.bd
 bel:aV w w wr
 ge:(w:Nat)<=rb
theorem NSt.later{p:Pg}{T:List (List Int)}{F:Int}{w wr U:aS}{e k:Nat}{g i f:aT}(h:NSt p T F w e g i f k wr)(d:Bl wr U):NSt p T F w e g i f k U:=
 ⟨(d.block _ (fB.1 h.box).1).trans h.box,h.rows.later d,h.vs.later d,h.bd.later d,h.bel.trans (d.mono h.bel.size),h.ge⟩
theorem NSt.push{k:Nat}{m:aT}(h:NSt p T F w i r s q k wr)(n:wr.grownBy j q.ownBlock)(x:aV w wr j)(A:eD YA 22 w j m (T.take (k+1))):
  j.heap[i]?=some (aK #[qI p.pa,r,s,q,qI F,qN,qI 0,aC aQ 0,aC .i32 0,aC aQ 0,qN,qN] 142 (0,0))/\NSt p T F w i r s m (k+1) (qS j (i,3) m):=by
 have y:=(fB.1 h.box).1;have f:=(n.block i y (λe=>by
  obtain⟨B,u⟩:=h.rows.tag _ e.symm
  rw[h.box]at u
  cases u)).trans h.box;have d:∀t,YA.tags t->t≠142:=λt d=>by rw[show t=3 from d];decide
 refine⟨f,iB _ _ 3 _ _ m f,fJ A zD d f (λk g=>eF _ g),fJ (gA h.vs (λh=>h) h.rows zD n) zD (λt d=>d.elim) f (λk g=>eF _ g),fJ (gA h.bd (λh=>h) h.rows zD n) zD (λt d=>d.elim) f (λk g=>eF _ g),(h.bel.trans x).setCell h.ge _,h.ge⟩
def aBZ(p:Pg)(T:List (List Int))(F:Int)(w:aS)(e:Ending)(w':aS):Prop:=∃B:RB,B.p=p/\B.T=T/\B.F=F/\e=aO (aF #[.pointer (some ⟨B.rb,0,none⟩),aC aP 0])/\G6 B w' 0 0 (aA none 0 0) (aA none 0 0) [] []/\aV (w:Nat) w w'/\(w:Nat)<=B.n/\(w:Nat)<=B.rb
theorem aBZ.from{e:Ending}(h:aBZ p T F V e w')(d:Bl w V):aBZ p T F w e w':=by obtain⟨B,f,g,i,j,k,m,n,q⟩:=h;exact⟨B,f,g,i,j,k,fC d m,fA d.size n,fA d.size q⟩
theorem NSt.stands{j:Nat}{x y A d:Option Addr}{G J K f:Nat}(h:NSt p T F w j (aA x p.vs.length G) (aA y p.bd.length J) (aA A T.length K) T.length wr)(Y:Bl wr U)(S:eD kD 38 0 U (aA d (fH p).length f) (fH p)):
  aBZ p T F w (aO (aF #[qP j 0,qI 0])) (qS U (j,5) (aA d (fH p).length f)):=by
 have m:=h.later Y;have r:=m.box;have ab:=(fB.1 r).1;have M:∀t,YA.tags t->t≠142:=λt g=>by rw[show t=3 from g];decide
 have L:∀t,kD.tags t->t≠142:=λt g=>by rw[show t=3 from g];decide
 have s:=iB _ _ 5 _ _ (aA d (fH p).length f) r;have N:=fJ m.vs zD (λt g=>g.elim) r (λk n=>eF (w:=U) (i:=5) (aA d (fH p).length f) n);have O:=fJ m.bd zD (λt g=>g.elim) r (λk n=>eF (w:=U) (i:=5) (aA d (fH p).length f) n);have C:=fJ m.rows zD M r (λk n=>eF (w:=U) (i:=5) (aA d (fH p).length f) n);have R:=fJ S zD L r (λk n=>eF (w:=U) (i:=5) (aA d (fH p).length f) n);rw[nH (eX _)]at C;have B:Bl w (qS U (j,5) (aA d (fH p).length f)):=m.bel.setCell m.ge _;have Z:(qS U (j,5) (aA d (fH p).length f)).heap.size=U:=by simp
 generalize qS U (j,5) (aA d (fH p).length f)=W at s N O C R B Z;refine⟨⟨p,T,F,W,j,x,G,y,J,A,K,d,f⟩,rfl,rfl,rfl,rfl,⟨⟨by show j<W;omega,eX _,λX _ u=>?_⟩,s,eD.nil _ _ _ _,eD.nil _ _ _ _,.inl rfl⟩,B,B.size,m.ge⟩;have D:=zV N zD (λt g=>g.elim) s u;have E:=zV O zD (λt g=>g.elim) s u;have q3:=zV C zD M s u;have q4:=zV R zD L s u;have l1:eS kI X x p.vs:=by obtain⟨a,c,e,q⟩:=eL D;cases e;exact q
 have l2:eS kP X y p.bd:=by obtain⟨a,c,e,q⟩:=eL E;cases e;exact q
 have l3:eS YA X A T:=by obtain⟨a,c,e,q⟩:=eL q3;cases e;exact q
 have l4:eS kD X d (fH p):=by obtain⟨a,c,e,q⟩:=eL q4;cases e;exact q
 exact⟨⟨l1,nG.2 l2,(lR D).1,(lR D).2,(lR E).1,(lR E).2⟩,JS l3,l4⟩
theorem aIf(p:Pg)(R D ta:Option Addr)(S J tc:Nat)(T:List (List Int))(F:Int)(w:aS)(hp:iE w R D S J p)(ht:gG w ta T)(hf:Fit p T)(hk:gH p=0)(hc:pW p.pa T F=0):
  qK 21 #[kE R D S J p,aA ta T.length tc,qI F] w (aBZ p T F w):=by
 obtain⟨V,hV,N,bo,-⟩:=lB w (aK #[p.pa,aA R p.vs.length S,aA D p.bd.length J] 25);have bp:=aG0 hV;have j:=eC (λU(h:Bl V U)=>show qC U w 0 p.pa/\qC U w 1 (aA R p.vs.length S)/\U.cell? (w,2)=some (aA D p.bd.length J)by
  have e0:=(h.block w zO).trans bo
  exact pX e0);have CK:=eC (qO R D S J p V (hp.later N) hf.vl hf.bl);rw[hk]at CK;have CC:=eC (λU(h:Bl V U)=>show qK 43 #[p.pa,aA ta T.length tc,qI F] U (Rt (qI 0) U)by
  have h2:=sI p.pa ta tc T F U (ht.later (N.trans (h.mono zO))) (by have:=hf.tl;unfold aZ;omega)
  rw[hc]at h2
  exact h2);have CP:=eC (λU(h:Bl V U)=>KG p R D S J U (hp.later (N.trans (h.mono zO))) hf.vl (fA hf.bl zD));have CS:=eC (λU(h:Bl V U)=>II R D S J p U (hp.later (N.trans (h.mono zO))) hf.vl hf.bl);have a5:Hid (LN p=fH p):=eC (by unfold LN;rw[eI hk]);have HT:=eC (λU(h:Bl V U)=>(ht.later (N.trans (h.mono zO))));have ab:=eC hf.tl;have be:=eC hf.t64;obtain⟨a0,u,x⟩:=j V (iL _ _);obtain⟨Q,hQ⟩:=eR (aBZ p T F w);rw[hQ];have HK:=eC hk;change Hid _ at hQ N bp;obtain⟨n,O⟩:=eR T.length;rw[O]at ab|-;simp only[O]at CC;change Hid _ at O;unfold kE at CK CP CS|-;go_enter func21,ntmps21;go_wp2_with(rw[hV]);refine CK.mono ?_;rintro e w1⟨rfl,ah⟩;obtain⟨b0,b1,b2⟩:=j w1 ah;go_wp2_with fail;refine(CC w1 ah).mono ?_;rintro e w2⟨rfl,bi⟩;have y:=fC ah bi;obtain⟨c0,c1,c2⟩:=j w2 y;go_wp2_with fail;refine(CP w2 y).mono ?_;rintro e w3⟨⟨v1,v2,rfl,ax,ay⟩,aq⟩;obtain⟨u,ae,rfl,_⟩:=eL ax;obtain⟨x,af,rfl,_⟩:=eL ay;obtain⟨W,hW,ai,-⟩:=lB w3 (aK #[p.pa,aA u p.vs.length ae,aA x p.bd.length af,qN,qI F,qN,qI 0,aC aQ 0,aC .i32 0,aC aQ 0,qN,qN] 142);have bh:=fC y aq;have bd:=eC (fC bh ai);have ap:Hid (NSt p T F V w3 (aA u p.vs.length ae) (aA x p.bd.length af) qN 0 W):=eC (by
  have h1:V<=(w2:Nat):=y.size
  refine⟨by rw[<-hW];exact fG w3 _,eD.nil _ _ _ _,(ax.later ai).mono h1,(ay.later ai).mono h1,bd,fA h1 aq.size⟩);obtain⟨rb,az⟩:=eR (w3:Nat);rw[az]at ap;go_wp2_with(rw[hW]);(try rw[az])
 go_loopw [34] (λi wr=>∃k:Nat,k<=n/\i=qI k/\Hid (∃tv,NSt p T F V rb (aA u p.vs.length ae) (aA x p.bd.length af) tv k wr)) (λi _=>n-(aW i).toNat)
 case atStart=>exact⟨0,zO,rfl,eC ⟨_,ap⟩⟩
 case round=>
  obtain⟨k,hk,rfl,am⟩:=hrel;have HB:Hid (Bl V wr):=eC (by obtain⟨_,h⟩:=am.out;exact h.bel);by_cases hlt:k<n
  .obtain⟨B,al⟩:=fN (show k<T.length by rw[O];exact hlt);obtain⟨tb,bq,pa,pc,rfl,bl,bn⟩:=(HT wr HB).at al;obtain⟨tv,M⟩:=am.out;obtain⟨ra,rc,rfl,_⟩:=eL M.rows;have X:=eC M;have k3:=uG M.box;have ao:(T.take k).length=k:=by rw[jR,O];omega
   rw[ao]at k3 X;have bf:Hid ((T.take (k+1)).length=k+1):=eC (by rw[jR,O];omega);have bg:Hid (T.take k++[B]=T.take (k+1)):=eC (by rw[F4,al];rfl);have a7:=eC (uD bn);have bb:=eC (be B (iG al)).2;have br:qC wr tb (bq+k) (aA pa B.length pc):=bl;change Hid _ at ao;go_wp2_with fail;refine zgW [5] (λi U=>match i with|5=>qC U rb 3 (aA ra k rc)|_=>True) (.cons k3 .nil) ?_;refine jV 0 ?_;refine jV 1 ?_;refine jV 2 ?_;refine jV 3 ?_;refine jV 4 ?_;refine BS 5 ?_;refine jV 6 ?_;refine tG 7 [5] λK hK=>?_;refine jZ (K:=kI) (o:=⟨some 45,_,_,_,_,_⟩) rV (λh=>h) rfl (.const qN) (aR 44) zR wr.drew.heap.size qN [] zR (eD.nil _ _ _ _) pa pc B zR (a7.later (jX _)) (by have:=bb.out;simp;omega) (eX _) ?_;intro vq Z ak bs Y;obtain⟨qa,qc,rfl,_⟩:=eL ak;have bj:Bl wr Z:=⟨Y.os,Y.tape,Y.output,Y.size,Y.block⟩;have H5:=eC (X.later bj);have k5:=uG H5.box;obtain⟨W6,ag,au,-⟩:=lB Z (aK #[aA qa B.length qc] 22);have a6:Hid (eG W6 Z 0 [aA qa B.length qc]):=eC (by rw[<-ag];exact eG.new _ _ _);have a8:Hid (YA.R W6 B [aA qa B.length qc]):=eC ⟨_,rfl,(by simpa using(ak.mono (kU _)).later au)⟩;have f:=eC (H5.later au);have k6:=uG f.box;change Hid _ at ag;change Hid _ at ak;simp only[Act.put,xq7,uS];refine hK _ _ (.cons k5 .nil) ?_;refine tG 8 [5] λK hK=>?_;go_simp;rw[ag];refine hK _ _ (.cons k6 .nil) ?_;refine tG 9 [] λK hK=>?_;refine iS (o:=⟨some 47,_,_,_,_,_⟩) S5 rfl (aR 43) (aR 46) zR V (aA ra k rc) (T.take k) zR f.rows Z B [aA qa B.length qc] a8 zR a6 (by have:=ao.out;have:=ab.out;omega) (f.bel.size) (λh=>absurd (show(22:aX)=3 from h) zD) ?_;intro v' w7 aj bm bk;rw[bg]at aj;obtain⟨bu,bv,a3,_⟩:=eL aj;rw[bf]at a3;subst a3;have HP:=eC (f.push bm bk aj);have y7:=uG HP.1;have x7:=tK HP.1;simp only[Act.put,UY];refine hK _ _ .nil ?_;refine EY 10 [] ?_;refine EY 11 [] ?_;refine EY 12 [] ?_;refine EY 13 [] ?_;refine QU ?_;have bt:=ab.out;go_wp2_with fail;go_roundw
   case rel=>exact⟨k+1,zO,by go_num,eC ⟨_,HP.2⟩⟩
   case measure=>simp[aW];omega
  .obtain rfl:k=n:=zO;obtain⟨tv,M⟩:=am.out;rw[show k=T.length from O.symm]at M;have aL:=M.rows;rw[nH (eX _)]at aL;obtain⟨ra,rc,rfl,_⟩:=eL aL;have X:=eC M;have a4:=eC (CS wr HB);obtain⟨d0,d1,d2⟩:=j wr HB;go_wp2_with fail;refine a4.mono ?_;rintro e Z⟨av,rfl,hav,ar⟩;rw[a5]at hav;obtain⟨aa,ac,rfl,_⟩:=eL hav;have HF:=eC (X.stands ar (hav.mono (kU _)));have aw:=(X.later ar).box;have y5:=F7 aw;have x5:=tK aw;go_wp2_with fail;rw[<-hQ];exact HF.from N
def S9(W U:aS)(b n:Nat)(t:aX)(L:List aT)(V:aS):Prop:=V.heap[b]?=some (aK L.toArray t (0,0))/\aV n U V/\(∀k,k≠b->V.heap[k]?=W.heap[k]?)/\(V:Nat)=(W:Nat)
theorem s9{t:aX}{L:List aT}(e:n<=b)(h:S9 W U b n t L V)(i:Nat)(v:aT):S9 W U b n t (L.set i v) (V.setCell ⟨b,i,none⟩ v):=
 ⟨by rw[<-List.setIfInBounds_toArray];exact heap_setCell_same V b i _ _ v h.1,h.2.1.setCell e _,λk d=>(eF _ d).trans (h.2.2.1 k d),(World.size_setCell ..).trans h.2.2.2⟩
theorem WY{t:aX}(x0 x1 x2 x3 x4 x5 x6 x7 x8 e f g i j k m q r:aT)(h:W.heap[b]?=some (aK #[x0,x1,x2,x3,x4,x5,x6,x7,x8] t (0,0)))(s:aV n U W)(d:n<=b):
  S9 W U b n t [e,f,g,i,j,k,m,q,r] (((((((((W.setCell ⟨b,0,none⟩ e).setCell ⟨b,1,none⟩ f).setCell ⟨b,2,none⟩ g).setCell ⟨b,3,none⟩ i).setCell ⟨b,4,none⟩ j).setCell ⟨b,5,none⟩ k).setCell ⟨b,6,none⟩ m).setCell ⟨b,7,none⟩ q).setCell ⟨b,8,none⟩ r):=
 s9 d (s9 d (s9 d (s9 d (s9 d (s9 d (s9 d (s9 d (s9 d ⟨h,s,λ_ _=>rfl,rfl⟩ 0 e) 1 f) 2 g) 3 i) 4 j) 5 k) 6 m) 7 q) 8 r
structure uQ(B:RB)(sc:Sc)(V:aS)(cb:Nat)(v1 v2 tv mv:aT)(T':List (List Int))(ms':List Mt)(wr:aS):Prop where
 box:wr.heap[cb]?=some (aK #[aC aP B.p.pa,v1,v2,tv,aC aP B.F,mv,aC aP sc.a,aC aP sc.k,aC aP sc.t] 33 (0,0))
 rows:eD YA 22 V wr tv T'
 muts:eD kM 42 V wr mv ms'
 vs:eD kI 3 V wr v1 B.p.vs
 bd:eD kP 54 V wr v2 B.p.bd
 bel:aV V V wr
 ge:(V:Nat)<=cb
theorem uQ.later{B:RB}{j:Sc}{V wr U:aS}{f:Nat}{m n k i:aT}{e:List (List Int)}{g:List Mt}(h:uQ B j V f m n k i e g wr)(d:Bl wr U):uQ B j V f m n k i e g U:=
 ⟨(d.block _ (fB.1 h.box).1).trans h.box,h.rows.later d,h.muts.later d,h.vs.later d,h.bd.later d,h.bel.trans (d.mono h.bel.size),h.ge⟩
theorem WF:∀t,YA.tags t->t≠33:=λt d=>by rw[show t=3 from d];decide
theorem E8:∀t,kM.tags t->t≠33:=λt d=>by rw[show t=3 from d];decide
theorem uQ.pushT{i:Sc}{g:Nat}{n:aT}{D:List (List Int)}(h:uQ B i V g u x s r D C wr)(m:wr.grownBy j s.ownBlock)(E:aV V wr j)(G:eD YA 22 V j n y):
  j.heap[g]?=some (aK #[qI B.p.pa,u,x,s,qI B.F,r,qI i.a,qI i.k,qI i.t] 33 (0,0))/\uQ B i V g u x n r y C (qS j (g,3) n):=by
 have F:=(fB.1 h.box).1;have f:=(m.block g F (λe=>by
  obtain⟨J,A⟩:=h.rows.tag _ e.symm
  rw[h.box]at A
  cases A)).trans h.box;refine⟨f,iB _ _ 3 _ _ n f,fJ G zD WF f (λk d=>eF _ d),fJ (gA h.muts (λh=>absurd (show(22:aX)=3 from h) zD) h.rows zD m) zD E8 f (λk d=>eF _ d),fJ (gA h.vs (λh=>h) h.rows zD m) zD (λt q=>q.elim) f (λk d=>eF _ d),fJ (gA h.bd (λh=>h) h.rows zD m) zD (λt q=>q.elim) f (λk d=>eF _ d),(h.bel.trans E).setCell h.ge _,h.ge⟩
theorem uQ.pushM{i:Sc}{g:Nat}{n:aT}{G:List Mt}(h:uQ B i V g u x s r y G wr)(m:wr.grownBy j r.ownBlock)(D:aV V wr j)(F:eD kM 42 V j n C):
  j.heap[g]?=some (aK #[qI B.p.pa,u,x,s,qI B.F,r,qI i.a,qI i.k,qI i.t] 33 (0,0))/\uQ B i V g u x s n y C (qS j (g,5) n):=by
 have E:=(fB.1 h.box).1;have f:=(m.block g E (λe=>by
  obtain⟨J,A⟩:=h.muts.tag _ e.symm
  rw[h.box]at A
  cases A)).trans h.box;refine⟨f,iB _ _ 5 _ _ n f,fJ (gA h.rows (λh=>absurd (show(42:aX)=3 from h) zD) h.muts zD m) zD WF f (λk d=>eF _ d),fJ F zD E8 f (λk d=>eF _ d),fJ (gA h.vs (λh=>h) h.muts zD m) zD (λt q=>q.elim) f (λk d=>eF _ d),fJ (gA h.bd (λh=>h) h.muts zD m) zD (λt q=>q.elim) f (λk d=>eF _ d),(h.bel.trans D).setCell h.ge _,h.ge⟩
structure oS(n:Nat)(W:aS)(A:CA)(c:Cp):Prop where
 vs:eD kI 3 n W (aA A.va c.p.vs.length A.vc) c.p.vs
 bd:eD kP 54 n W (aA A.ba c.p.bd.length A.bc) c.p.bd
 rows:eD YA 22 n W (aA A.ta c.T.length A.tc) c.T
 muts:eD kM 42 n W (aA A.ma c.ms.length A.mc) c.ms
theorem oS.at{A:CA}{c:Cp}(h:oS n W A c):kW W A c:=by
 have f:eS kI W A.va c.p.vs:=by obtain⟨a,c,e,d⟩:=eL h.vs;cases e;exact d
 have g:eS kP W A.ba c.p.bd:=by obtain⟨a,c,e,d⟩:=eL h.bd;cases e;exact d
 have i:eS YA W A.ta c.T:=by obtain⟨a,c,e,d⟩:=eL h.rows;cases e;exact d
 have j:eS kM W A.ma c.ms:=by obtain⟨a,c,e,d⟩:=eL h.muts;cases e;exact d
 exact⟨⟨f,nG.2 g,(lR h.vs).1,(lR h.vs).2,(lR h.bd).1,(lR h.bd).2⟩,JS i,j⟩
theorem oS.mono{n m:Nat}{W:aS}{A:CA}{c:Cp}(h:oS n W A c)(hm:m<=n):oS m W A c:=⟨h.vs.mono hm,h.bd.mono hm,h.rows.mono hm,h.muts.mono hm⟩
theorem oS.box{g:aS}{A:CA}{c:Cp}{i:Array aT}(h:oS n W A c)(d:qB W b i 33)(e:∀k,k≠b->g.heap[k]?=W.heap[k]?):oS n g A c:=
 ⟨fJ h.vs zD (λt f=>f.elim) d e,fJ h.bd zD (λt f=>f.elim) d e,fJ h.rows zD WF d e,fJ h.muts zD E8 d e⟩
def aHZ(B:RB)(d:List Mt)(w:aS)(e:Ending)(w':aS):Prop:=∃A:CA,e=aO (tR A ⟨B.p,B.T,B.F,d,kL d⟩)/\oS (w:Nat) w' A ⟨B.p,B.T,B.F,d,kL d⟩/\aV (w:Nat) w w'
theorem TD(B:RB)(d:Nat)(x7:Int)(bv mv:aT)(cl:List (Int×Int))(J:List Mt)(w:aS)(h:G6 B w d x7 bv mv cl J)(hf:aCv B)(be:J.length<=1000000)(bp:∀m∈J,m.d.path.length<=1000000):
  qK 23 #[qP B.rb 0] w (aHZ B J w):=by
 obtain⟨V,hV,au,-⟩:=lB w (aK #[qI 0,qN,qN,qN,qI 0,qN,qI 0,qI 0,qI 0] 33);have bt:=show V.heap[(w:Nat)]?=some (aK #[qI 0,qN,qN,qN,qI 0,qN,qI 0,qI 0,qI 0] 33 (0,0)) by rw[<-hV];exact fG w _
 have bA:=aG0 hV;have hR:=h.later au;obtain⟨ma,mc,rfl,ch⟩:=fV hR.muts;clear ch;have HR:=eC (λU(R:Bl V U)=>hR.later R);have HX:∀U,Bl V U->qC U B.rb 0 B.p.pa/\qC U B.rb 1 (aA B.va B.p.vs.length B.vc)/\qC U B.rb 2 (aA B.ba B.p.bd.length B.bc)/\qC U B.rb 3 (aA B.ta B.T.length B.tc)/\qC U B.rb 4 B.F/\qC U B.rb 11 (aA ma J.length mc):=λU R=>by have e0:=(hR.later R).box;exact⟨nS e0,rI e0,uI e0,uG e0,E0 e0,aBw e0⟩
 have s0:=λU R=>(HX U R).1;have s1:=λU R=>(HX U R).2.1;have s2:=λU R=>(HX U R).2.2.1;have s4:=λU R=>(HX U R).2.2.2.2.1;have cm:=λU R=>(HX U R).2.2.2.2.2;have CP:=eC (λU(R:Bl V U)=>KG B.p B.va B.ba B.vc B.bc U ((hR.later R).good.now.1) hf.fit.vl (fA hf.fit.bl zD));have CS:=eC (λU(R:Bl V U)=>show qK 61 #[aA ma J.length mc] U (Rt (aH #[qI (kL J).a,qI (kL J).k,qI (kL J).t]) U)by
  obtain⟨a,c,e,hl⟩:=eL (hR.later R).muts
  cases e
  exact DL ma mc J U hl be);obtain⟨Q,hQ⟩:=eR (aHZ B J w);rw[hQ];have ab:=jX V;obtain⟨sc,bh⟩:=eR (kL J);rw[bh]at CS;change Hid _ at HX hf be bp au bt bA hQ bh;clear hR h;generalize ck:B.rb=rb at*;change Hid _ at ck;unfold kE at CP;go_enter func23,ntmps23;go_wp2_with(rw[hV]);clear hV;go_cut [3] (λs3 wx=>∃(X:Nat)(a1:Option Addr)(c1:Nat)(a2:Option Addr)(c2:Nat),s3=qP X 0/\Hid (uQ B sc V X (aA a1 B.p.vs.length c1) (aA a2 B.p.bd.length c2) qN qN [] [] wx))
 case first=>
  refine zgW [4,10,14] (λi U=>match i with|4|10|14=>Bl V U|_=>True) (.cons ab (.cons ab (.cons ab .nil))) ?_;refine jV 0 ?_;refine jV 1 ?_;refine jV 2 ?_;refine jV 3 ?_;refine BS 4 ?_;refine jV 6 ?_;refine jV 7 ?_;refine jV 8 ?_;refine jV 9 ?_;refine BS 10 ?_;refine jV 11 ?_;refine jV 12 ?_;refine jV 13 ?_;refine BS 14 ?_;refine zgM 5 17 [10,14] [4,10,14] (λK hK=>?_) λK hK=>?_;go_simp;go_wp2_with(go_at_call 71;refine(CP _ ab).mono ?_;rintro e w3⟨⟨v1,v2,rfl,y,aa⟩,ai⟩;obtain⟨a1,c1,rfl,_⟩:=eL y;obtain⟨a2,c2,rfl,_⟩:=eL aa);have y:=eC (y.mono (ab).size);have aa:=eC (aa.mono (ab).size);have Z:Bl V w3:=(ab).trans (ai.mono (ab).size);change Hid _ at ai;refine hK _ _ (.cons Z (.cons Z .nil)) ?_;clear hK K;refine zgM 15 17 [10] [10,14] (λK hK=>?_) λK hK=>?_;go_simp;go_wp2_with(go_at_call 61;refine(CS _ Z).mono ?_;rintro e w4⟨rfl,S⟩);have ac:Bl V w4:=(Z).trans (S.mono (Z).size);have o1:=eC ((y).later S);have o2:=eC ((aa).later S);change Hid _ at S;refine hK _ _ (.cons ac .nil) ?_;clear hK K;refine jV 16 ?_;refine tG 17 [10] λK hK=>?_;go_simp;obtain⟨O,Y⟩:∃N,(w4).alloc (aK #[qI 0,qN,qN,qN,qI 0,qN,qI 0,qI 0,qI 0] 33)=N:=⟨_,rfl⟩;rw[Y];have x:aV (w4).heap.size (w4) O:=by rw[<-Y];exact fL _ _
  have hq:O.heap[(w4).heap.size]?=some (aK #[qI 0,qN,qN,qN,qI 0,qN,qI 0,qI 0,qI 0] 33 (0,0)):=by rw[<-Y];exact fG _ _
  have ar:Bl V O:=(ac).trans (x.mono (ac).size);clear Y;have D:=hq;have o1:=eC (o1.later x);have o2:=eC (o2.later x);clear hq x;refine hK _ _ (.cons ar .nil) ?_;clear hK K;obtain⟨X,ah⟩:=eR (w4:Nat);have av:V<=X:=by rw[<-ah];exact ac.size
  rw[ah]at D|-;rotate_left;go_simp;obtain⟨W3,Y⟩:∃N,(w3).alloc (aK #[qI 0,qN,qN,qN,qI 0,qN,qI 0,qI 0,qI 0] 33)=N:=⟨_,rfl⟩;rw[Y];have x:aV (w3).heap.size (w3) W3:=by rw[<-Y];exact fL _ _
  have hq:W3.heap[(w3).heap.size]?=some (aK #[qI 0,qN,qN,qN,qI 0,qN,qI 0,qI 0,qI 0] 33 (0,0)):=by rw[<-Y];exact fG _ _
  have f:Bl V W3:=(Z).trans (x.mono (Z).size);clear Y;have y:=eC (y.later x);have aa:=eC (aa.later x);have hq:=eC hq;clear x;refine hK _ _ (.cons f (.cons f .nil)) ?_;clear hK K;refine tG 15 [10] λK hK=>?_;go_simp;go_wp2_with(go_at_call 61;refine(CS _ f).mono ?_;rintro e O⟨rfl,S⟩);have ac:Bl V O:=(f).trans (S.mono (f).size);have o1:=eC ((y).later S);have o2:=eC ((aa).later S);change Hid _ at S;refine hK _ _ (.cons ac .nil) ?_;clear hK K;refine jV 16 ?_;have ar:=ac;have D:O.heap[(w3:Nat)]?=_:=(S.block _ (fB.1 hq).1).trans hq;obtain⟨X,ah⟩:=eR (w3:Nat);have av:V<=X:=by rw[<-ah];exact Z.size
  rw[ah]at D|-;rotate_left;go_simp;obtain⟨W3,Y⟩:∃N,(V.drew).alloc (aK #[qI 0,qN,qN,qN,qI 0,qN,qI 0,qI 0,qI 0] 33)=N:=⟨_,rfl⟩;rw[show World.drew (V.alloc (aK #[qI 0,qN,qN,qN,qI 0,qN,qI 0,qI 0,qI 0] 33))=V.drew.alloc (aK #[qI 0,qN,qN,qN,qI 0,qN,qI 0,qI 0,qI 0] 33)from rfl];rw[Y];have x:aV (V.drew).heap.size (V.drew) W3:=by rw[<-Y];exact fL _ _
  have hq:W3.heap[(V.drew).heap.size]?=some (aK #[qI 0,qN,qN,qN,qI 0,qN,qI 0,qI 0,qI 0] 33 (0,0)):=by rw[<-Y];exact fG _ _
  have f:Bl V W3:=(ab).trans (x.mono (ab).size);clear Y;have hq:=eC hq;clear x;refine hK _ _ (.cons f (.cons f (.cons f .nil))) ?_;clear hK K;refine tG 5 [10,14] λK hK=>?_;go_simp;go_wp2_with(go_at_call 71;refine(CP _ f).mono ?_;rintro e w3⟨⟨v1,v2,rfl,y,aa⟩,ai⟩;obtain⟨a1,c1,rfl,_⟩:=eL y;obtain⟨a2,c2,rfl,_⟩:=eL aa);have y:=eC (y.mono (f).size);have aa:=eC (aa.mono (f).size);have Z:Bl V w3:=(f).trans (ai.mono (f).size);change Hid _ at ai;refine hK _ _ (.cons Z (.cons Z .nil)) ?_;clear hK K;refine tG 15 [10] λK hK=>?_;go_simp;go_wp2_with(go_at_call 61;refine(CS _ Z).mono ?_;rintro e O⟨rfl,S⟩);have ac:Bl V O:=(Z).trans (S.mono (Z).size);have o1:=eC ((y).later S);have o2:=eC ((aa).later S);change Hid _ at S;refine hK _ _ (.cons ac .nil) ?_;clear hK K;refine jV 16 ?_;have ar:=ac;have D:O.heap[(V:Nat)]?=_:=(S.block _ (gV (fB.1 hq).1 ai.size)).trans ((ai.block _ (fB.1 hq).1).trans hq);obtain⟨X,ah⟩:=eR (V:Nat);have av:V<=X:=by rw[<-ah];exact eX _
  rw[ah]at D|-
  all_goals refine tG 18 [] λK hK=>?_;have y0:=nS D;have x0:=g8 O _ 0 _ _ D;have y1:=rI D;have x1:=g8 O _ 1 _ _ D;have y2:=uI D;have x2:=g8 O _ 2 _ _ D;have y3:=uG D;have x3:=g8 O _ 3 _ _ D;have y4:=E0 D;have x4:=g8 O _ 4 _ _ D;have y5:=F7 D;have x5:=g8 O _ 5 _ _ D;have y6:=L4 D;have x6:=g8 O _ 6 _ _ D;have y7:=LI D;have x7:=g8 O _ 7 _ _ D;have y8:=pE8 D;have x8:=g8 O _ 8 _ _ D;change Hid _ at D;go_simp;refine hK _ _ .nil ?_;clear hK K;refine QU ?_;obtain⟨e9,b9,k9,z9⟩:=WY _ _ _ _ _ _ _ _ _ (qI B.p.pa) (aA a1 B.p.vs.length c1) (aA a2 B.p.bd.length c2) qN (qI B.F) qN (qI sc.a) (qI sc.k) (qI sc.t) D ar av;have bL:=eC (show uQ B sc V X (aA a1 B.p.vs.length c1) (aA a2 B.p.bd.length c2) qN qN [] [] _ from⟨e9,eD.nil _ _ _ _,eD.nil _ _ _ _,fJ o1 zD (λt ht=>ht.elim) D k9,fJ o2 zD (λt ht=>ht.elim) D k9,b9,av⟩);clear e9 b9 k9 z9 y0 x0 y1 x1 y2 x2 y3 x3 y4 x4 y5 x5 y6 x6 y7 x7 y8 x8;go_wp2;go_meet;exact⟨_,_,_,_,_,rfl,bL⟩
 case rest=>
  obtain⟨X,a1,c1,a2,c2,rfl,bn⟩:=hcut;obtain⟨n,hn⟩:=eR B.T.length;obtain⟨m,hm⟩:=eR J.length;have t3:=(HX wc bn.out.bel).2.2.2.1;rw[hn]at t3;have cs:n<=1000000:=by rw[<-hn];exact hf.fit.tl
  have cr:m<=1000000:=by rw[<-hm];exact be
  rw[hm]at HX;change Hid _ at hn hm;clear s0 s1 s2 s4 cm CP CS ab;go_wp2_with fail;go_loopw [34] (λi wr=>∃k:Nat,k<=n/\i=qI k/\Hid (∃tv,uQ B sc V X (aA a1 B.p.vs.length c1) (aA a2 B.p.bd.length c2) tv qN (B.T.take k) [] wr)) (λi _=>n-(aW i).toNat)
  case atStart=>exact⟨0,zO,rfl,eC ⟨_,bn.out⟩⟩
  case round=>
   obtain⟨k,hk,rfl,ag⟩:=hrel;by_cases hlt:k<n
   .obtain⟨ae,ay⟩:=fN (show k<B.T.length by rw[hn];exact hlt);obtain⟨tv,h0⟩:=ag.out;obtain⟨tb,cn,pa,pc,bw,bm,bo⟩:=(HR wr h0.bel).good.now.2.1.at ay;rw[bw]at t3;obtain⟨ra,rc,rfl,_⟩:=eL h0.rows;have H0:=eC h0;have k3:=uG h0.box;have aj:(B.T.take k).length=k:=by rw[jR,hn];omega
    rw[aj]at k3 H0;have a3:Hid ((B.T.take (k+1)).length=k+1):=eC (by rw[jR,hn];omega);have a0:=eC aj;have a4:Hid (B.T.take k++[ae]=B.T.take (k+1)):=eC (by rw[F4,ay];rfl);have bO:=eC (uD bo);have cd:=eC (hf.fit.t64 ae (iG ay)).2;have cq:qC wr tb (cn+k) (aA pa ae.length pc):=bm;rw[bw];clear bm bo h0 ag ay aj;go_wp2_with fail;refine zgW [1] (λi U=>match i with|1=>qC U X 3 (aA ra k rc)|_=>True) (.cons k3 .nil) ?_;refine jV 0 ?_;refine BS 1 ?_;refine jV 2 ?_;refine tG 3 [1] λK hK=>?_;refine jZ (K:=kI) (o:=⟨some 41,_,_,_,_,_⟩) rV (λh=>h) rfl (.const qN) (aR 40) zR wr.drew.heap.size qN [] zR (eD.nil _ _ _ _) pa pc ae zR (bO.later (jX _)) (by have:=cd.out;simp;omega) (eX _) ?_;intro vq w5 bf ce ak;obtain⟨j,u,rfl,_⟩:=eL bf;have bk:Bl wr w5:=⟨ak.os,ak.tape,ak.output,ak.size,ak.block⟩;have H5:=eC (H0.later bk);have k5:=uG H5.box;obtain⟨W6,a6,ba,-⟩:=lB w5 (aK #[aA j ae.length u] 22);have az:Hid (eG W6 w5 0 [aA j ae.length u]):=eC (by rw[<-a6];exact eG.new _ _ _);have aL:Hid (YA.R W6 ae [aA j ae.length u]):=eC ⟨_,rfl,(by simpa using(bf.mono (kU _)).later ba)⟩;have H6:=eC (H5.later ba);have k6:=uG H6.box;change Hid _ at a6;clear bf ce ak bk ba;simp only[Act.put,xq7,uS];refine hK _ _ (.cons k5 .nil) ?_;clear hK K;refine tG 4 [1] λK hK=>?_;go_simp;rw[a6];refine hK _ _ (.cons k6 .nil) ?_;clear hK K;refine tG 5 [] λK hK=>?_;refine iS (o:=⟨some 43,_,_,_,_,_⟩) S5 rfl (aR 39) (aR 42) zR V (aA ra k rc) (B.T.take k) zR H6.rows w5 ae [aA j ae.length u] aL zR az (by have:=a0.out;omega) (H6.bel.size) (λh=>absurd (show(22:aX)=3 from h) zD) ?_;intro v' w7 af ap ao;rw[a4]at af;obtain⟨cu,cw,bx,_⟩:=eL af;rw[a3]at bx;subst bx;have HP:=eC (H6.pushT ap ao af);have y7:=uG HP.1;have x7:=tK HP.1;clear af ap ao;simp only[Act.put,UY];refine hK _ _ .nil ?_;clear hK K;refine EY 6 [] ?_;refine EY 7 [] ?_;refine QU ?_;go_wp2_with fail;go_roundw
    case rel=>exact⟨k+1,zO,by go_num,eC ⟨_,HP.2⟩⟩
    case measure=>simp[aW];omega
   .obtain rfl:k=n:=zO;obtain⟨tv,h0⟩:=ag.out;rw[show k=B.T.length from hn.symm,nH (eX _)]at h0;have bu:=h0.rows;obtain⟨ra,rc,rfl,_⟩:=eL bu;have H0:=eC h0;have t11:=(HX wr h0.bel).2.2.2.2.2;clear ag h0 bu t3 hlt hk;go_wp2_with fail;go_loopw [51] (λi wr=>∃k:Nat,k<=m/\i=qI k/\Hid (∃mv,uQ B sc V X (aA a1 B.p.vs.length c1) (aA a2 B.p.bd.length c2) (aA ra B.T.length rc) mv B.T (J.take k) wr)) (λi _=>m-(aW i).toNat)
    case atStart=>exact⟨0,zO,rfl,eC ⟨_,H0⟩⟩
    case round=>
     obtain⟨k,hk,rfl,ag⟩:=hrel;by_cases hlt:k<m
     .obtain⟨mt,aw⟩:=fN (show k<J.length by rw[hm];exact hlt);obtain⟨mv,W⟩:=ag.out;obtain⟨al,am,rfl,_⟩:=eL W.muts;have bi:eS kM wr ma J:=by obtain⟨a,c,e,hl⟩:=eL (HR wr W.bel).muts;cases e;exact hl
      obtain⟨b,ct,pa,pc,cg,hb,br,u0,u1,u2,u3,u4,u5,u6,u7,ci⟩:=sR bi aw;rw[cg]at t11|-;have H1:=eC W;have aj:(J.take k).length=k:=by rw[jR,hm];omega
      have a0:=eC aj;have a3:Hid ((J.take (k+1)).length=k+1):=eC (by rw[jR,hm];omega);have a4:Hid (J.take k++[mt]=J.take (k+1)):=eC (by rw[F4,aw];rfl);rw[aj]at H1;have ca:=eC (bp mt (iG aw));obtain⟨W5,a5,a8,-⟩:=lB wr (aK #[aA pa mt.d.path.length pc,mt.d.op,mt.d.n,mt.v,mt.test,mt.out.1,mt.out.2,mt.dig] 42);have ax:W5.heap[(wr:Nat)]?=some (aK #[aA pa mt.d.path.length pc,mt.d.op,mt.d.n,mt.v,mt.test,mt.out.1,mt.out.2,mt.dig] 42 (0,0)):=by rw[<-a5];exact fG _ _
      have r0:=nS ax;have cc:=eC (br.later a8);have bV:=eC (fB.1 ax).1;change Hid _ at ax a5 a8;clear bi aw W ag ci br aj;go_wp2_with(first
       |rw[a5]
       |(at_builtin;(refine B8 rV (λh=>h) rfl (.const qN) (aR 57) rfl W5 qN [] rfl (eD.nil _ _ _ _) pa pc mt.d.path rfl cc (by have:=ca.out;simp;omega) (eX _) ?_;intro v6 w6 bg cf bd;obtain⟨j,u,rfl,_⟩:=eL bg;have aq:=(bd.block _ bV).trans ax;have co:=nS aq;have cp:=tK aq;obtain⟨W7,a7⟩:=eR (qS w6 (wr,0) (aA j mt.d.path.length u));have bb:Bl wr W7:=(by rw[<-a7];exact(fC a8 bd).setCell (eX _) _);have bs:qB W7 wr #[aA j mt.d.path.length u,mt.d.op,mt.d.n,mt.v,mt.test,mt.out.1,mt.out.2,mt.dig] 42:=(by rw[<-a7];exact iB _ _ 0 _ _ _ aq);have bq:eD kI 3 0 W7 (aA j mt.d.path.length u) mt.d.path:=(by rw[<-a7];have cj:eD kI 3 W5 w6 (aA j mt.d.path.length u) mt.d.path:=(by simpa using bg);exact(fJ cj zD (λt ht=>ht.elim) aq (λk hk=>eF _ hk)).mono (kU _));obtain⟨z0,z1,z2,z3,z4,z5,z6,z7⟩:=pQ8 bs;have k5:qC W7 X 5 (aA al k am):=kG W7 _ 5 _ _ _ (H1.later bb).box;have H7:=eC (H1.later bb);obtain⟨W8,bj⟩:=eR (W7.alloc (aK #[aA j mt.d.path.length u,mt.d.op,mt.d.n,mt.v,mt.test,mt.out.1,mt.out.2,mt.dig] 42));have bc:Bl W7 W8:=(by rw[<-bj];exact fL W7 _);have az:Hid (eG W8 W7 0 [aA j mt.d.path.length u,mt.d.op,mt.d.n,mt.v,mt.test,mt.out.1,mt.out.2,mt.dig]):=eC (by rw[<-bj];exact eG.new _ _ _);have aL:Hid (kM.R W8 mt [aA j mt.d.path.length u,mt.d.op,mt.d.n,mt.v,mt.test,mt.out.1,mt.out.2,mt.dig]):=eC ⟨_,rfl,bq.later bc⟩;have H8:=eC (H7.later bc);clear bg cf bd aq bb bs bq bc))
       |(at_builtin;(refine kN MX rfl (aR 62) (aR 64) rfl V (aA al k am) (J.take k) rfl H8.muts W7 mt [aA j mt.d.path.length u,mt.d.op,mt.d.n,mt.v,mt.test,mt.out.1,mt.out.2,mt.dig] aL rfl az (by have:=a0.out;omega) H8.bel.size (λh=>absurd (show(42:aX)=3 from h) zD) ?_;intro v' w9 af ap ao;rw[a4]at af;obtain⟨cv,cx,bz,_⟩:=eL af;rw[a3]at bz;subst bz;have HP:=eC (H8.pushM ap ao af);have y9:=F7 HP.1;have x9:=tK HP.1;clear af ap ao)));go_roundw
      case rel=>exact⟨k+1,zO,by go_num,eC ⟨_,HP.2⟩⟩
      case measure=>simp[aW];omega
     .obtain rfl:k=m:=zO;obtain⟨mv,W⟩:=ag.out;rw[show k=J.length from hm.symm,nH (eX _)]at W;obtain⟨al,am,rfl,_⟩:=eL W.muts;have M:=(W.bel.block _ bA).trans bt;have bl:=W.box;obtain⟨b0,b1,b2,b3,b4,b5,b6,b7,b8⟩:=pQ9 bl;have y0:=nS M;have x0:=g8 wr _ 0 _ _ M;have y1:=rI M;have x1:=g8 wr _ 1 _ _ M;have y2:=uI M;have x2:=g8 wr _ 2 _ _ M;have y3:=uG M;have x3:=g8 wr _ 3 _ _ M;have y4:=E0 M;have x4:=g8 wr _ 4 _ _ M;have y5:=F7 M;have x5:=g8 wr _ 5 _ _ M;have y6:=L4 M;have x6:=g8 wr _ 6 _ _ M;have y7:=LI M;have x7:=g8 wr _ 7 _ _ M;have y8:=pE8 M;have x8:=g8 wr _ 8 _ _ M;have HE:=bh.out;subst HE;have h9:=WY _ _ _ _ _ _ _ _ _ (qI B.p.pa) (aA a1 B.p.vs.length c1) (aA a2 B.p.bd.length c2) (aA ra B.T.length rc) (qI B.F) (aA al J.length am) (qI (kL J).a) (qI (kL J).k) (qI (kL J).t) M (fC au W.bel) (eX w);change Hid _ at h9 W M;clear ag bl;go_wp2_with fail;rw[<-hQ];exact gO (EP rfl _ _ w 33 _ (0,0) _ rfl h9.1 underlying33 rfl zK) rfl ⟨⟨a1,c1,a2,c2,ra,rc,al,am⟩,rfl,(oS.box (A:=⟨a1,c1,a2,c2,ra,rc,al,am⟩) ⟨W.vs,W.bd,W.rows,W.muts⟩ M h9.2.2.1).mono au.size,h9.2.1⟩
theorem FY(D:Rn->ByteArray)(q:Pg)(d:Dl)(F:Int)(e:Nat->Int×Int):∀(T:List (List Int))(k:Nat)(m:Mt),m.d=d->(kX D q d F e k T m).d=d
 |[],k,m,h=>by unfold kX;exact h
 |t::T,k,m,h=>by
  simp only[kX]
  split
  .exact FY D q d F e T _ _ h
  .split
   .rfl
   .exact FY D q d F e T _ _ rfl
theorem IS(D:Rn->ByteArray)(p:Pg)(T:List (List Int))(F:Int)(d:Dl):(fQ D p T F d).d=d:=by unfold fQ;exact FY _ _ _ _ _ _ _ _ rfl
theorem aEW(B:RB)(d:Nat)(x7:Int)(O S:aT)(U:List (Int×Int))(R:List Mt)(w:aS)(h:G6 B w d x7 O S U R)(hd:d=(fH B.p).length)(N:(fH B.p).length<=1000000):
  qK 22 #[qP B.rb 0] w λe w'=>e=aO (aG false)/\w'=w.drew:=by obtain⟨-,-,-,-,-,J,M⟩:=pQ7 h.box;have D:=eC (NK B.rb d B.da (fH B.p).length B.dc w M J zO zO N);rw[show((fH B.p).length:Int)-d=0 by omega]at D;clear h hd N J M;generalize(fH B.p).length=dn at*;generalize B.rb=rb at*;go_enter func22,ntmps22;go_wp2_with(go_at_call 73;refine D.mono ?_;rintro e W⟨rfl,rfl⟩);go_ret;exact⟨rfl,rfl⟩
structure KU(p:Pg)(T:List (List Int))(F:Int):Prop where
 fit:Fit p T
 kc:gH p=0
 cf:pW p.pa T F=0
 al:(fH p).length<=1000000
 pl:∀dl∈fH p,dl.path.length<=1000000
 q:∀dl∈fH p,aEN (jA p dl).1
 vl:p.vs.length<=1000
def UO(p:Pg)(T:List (List Int))(F:Int):Cp:=⟨p,T,F,nZ iC p T F,kL (nZ iC p T F)⟩
def aJ7(p:Pg)(T:List (List Int))(F:Int)(w:aS)(e:Ending)(w':aS):Prop:=∃A:CA,e=aO (aF #[tR A (UO p T F),aC aP 0])/\oS (w:Nat) w' A (UO p T F)/\aV (w:Nat) w w'
theorem aEu(p:Pg)(y f ta:Option Addr)(vc j tc:Nat)(T:List (List Int))(F:Int)(w:aS)(hp:iE w y f vc j p)(ht:gG w ta T)(hf:KU p T F):
  qK 7 #[kE y f vc j p,aA ta T.length tc,qI F] w (aJ7 p T F w):=by
 obtain⟨V,hV⟩:=eR ((w.alloc (aK #[p.pa,aA y p.vs.length vc,aA f p.bd.length j] 25)).alloc (aK #[qI 0,qN,qN,qN,qI 0,qN,qI 0,qI 0,qI 0] 33));obtain⟨r0,r1,X,am⟩:=iY hV;have CN:=eC (aIf p y f ta vc j tc T F V (hp.later X) (ht.later X) hf.fit hf.kc hf.cf);obtain⟨y0,y1,y2⟩:=pX r0;obtain⟨Q,hQ⟩:=eR (aJ7 p T F w);rw[hQ];change Hid _ at r1 X am hf hQ;clear r0 hp ht;unfold kE at CN|-;go_enter func7,ntmps7;go_wp2_with(rw[hV]);refine CN.mono ?_;rintro e w1⟨B,rfl,rfl,rfl,rfl,ak,ae,aj,al⟩;change Hid _ at ak ae aj al;clear hV y0 y1 y2 CN;go_wp2_with fail;obtain⟨N,S⟩:=eR ((fH B.p).length);change Hid _ at S;obtain⟨L,x⟩:=eR (nZ iC B.p B.T B.F);have HL:Hid (L=(fH B.p).map (fQ iC B.p B.T B.F)):=eC x.symm;have aa:Hid (L.length=N):=eC (by rw[HL,rN];exact S);change Hid _ at x;go_loopg [] N (λk wr=>∃(d:Nat)(x7:Int)(W Y:aT)(Z:List (Int×Int)),d+k=N/\Hid (G6 B wr d x7 W Y Z (L.take d))/\Hid (Bl V wr))
 case atStart=>exact⟨0,_,_,_,_,zO,ak,ae⟩
 case round=>
  obtain⟨d,x7,W,Y,Z,av,HR,M⟩:=hrel;by_cases hg:gk=0
  .obtain rfl:d=N:=zO;have CE:=eC (aEW B d x7 W Y Z _ wr HR.out S.symm hf.al);have O:=HR.out.later ((jX _):Bl wr wr.drew);rw[nH (uU aa)]at O;have ai:=aa.out;have CC:=eC (TD B d x7 W Y Z L wr.drew O ⟨hf.fit,hf.kc,hf.cf⟩ (by rw[ai,<-S];exact hf.al) (λm hm=>by
    rw[HL]at hm
    obtain⟨R,U,rfl⟩:=List.mem_map.1 hm
    rw[IS]
    exact hf.pl R U));have ac:Hid (Bl V wr.drew):=eC ⟨M.out.os,M.out.tape,M.out.output,M.out.size,M.out.block⟩;clear O ai;go_wp2_with(go_at_call 22;refine CE.mono ?_;rintro e w2⟨rfl,rfl⟩);refine CC.mono ?_;rintro e J⟨A,rfl,ah,ar⟩;have af:=fC ac ar;have D:=(af.block _ (by have:=am.out;omega)).trans r1;have y0:=nS D;have x0:=g8 J _ 0 _ _ D;have y1:=rI D;have x1:=g8 J _ 1 _ _ D;have y2:=uI D;have x2:=g8 J _ 2 _ _ D;have y3:=uG D;have x3:=g8 J _ 3 _ _ D;have y4:=E0 D;have x4:=g8 J _ 4 _ _ D;have y5:=F7 D;have x5:=g8 J _ 5 _ _ D;have y6:=L4 D;have x6:=g8 J _ 6 _ _ D;have y7:=LI D;have x7:=g8 J _ 7 _ _ D;have y8:=pE8 D;have x8:=g8 J _ 8 _ _ D;have u:=WY _ _ _ _ _ _ _ _ _ (qI B.p.pa) (aA A.va B.p.vs.length A.vc) (aA A.ba B.p.bd.length A.bc) (aA A.ta B.T.length A.tc) (qI B.F) (aA A.ma L.length A.mc) (qI (kL L).a) (qI (kL L).k) (qI (kL L).t) D (fC X af) (sA w);have ap:=eC (oS.box ah D u.2.2.1);unfold tR fU;change Hid _ at u;clear D ah;go_wp2_with fail;rw[<-hQ];exact gO (eQ rfl _ _ ((w:Nat)+1) 33 _ (0,0) _ (qI 0) rfl u.1 underlying33 rfl zK rfl) rfl ⟨A,by unfold UO;rw[x];rfl,by unfold UO;rw[x];exact ap.mono (fA X.size ac.size),u.2.1⟩
  .obtain⟨k,hk⟩:∃k,gk=k+1:=⟨gk-1,zO⟩;obtain⟨R,U⟩:=fN (show d<(fH B.p).length by rw[S];omega);have ab:=iG U;have CM:=eC (aAJ B d x7 W Y Z _ R wr ⟨hf.fit,hf.kc,hf.cf⟩ HR.out U hf.al (by rw[jR];have:=aa.out;have:=hf.al;have:=S.out;omega) (hf.pl R ab) (hf.q R ab) hf.vl);have aq:Hid (L.take d++[fQ iC B.p B.T B.F R]=L.take (d+1)):=eC (by rw[F4,HL,oY,U];rfl);clear U ab;go_wp2_with(go_at_call 22;refine CM.mono ?_;rintro e w2⟨rfl,⟨au,aw,O⟩,ag⟩;rw[aq]at O;have ao:Hid (Bl V w2):=eC (M.out.trans (ag.below M.out.size (λq hq=>by obtain hq|hq:=hq;(rw[hq];exact al);exact fA aj hq)));change Hid _ at O;clear ag);go_roundg k
   case measure=>omega
   case rel=>exact⟨d+1,_,_,_,_,zO,O,ao⟩
def jS(c:Cp):List jJ:=[(1,eH (FE c.p)),(2,eH (fP c.T c.F)),(3,eH (MC c.ms)),(4,eH (VP c.sc))]
def gR(c:Cp):ByteArray:=eH (p9 (jS c))
theorem SQ(c:Cp):BT (jS c)=true:=by simp[BT,jS,mF]
structure uV(c:Cp):Prop where
 ok:JH c
 odd:LO c=0
 pg:X9 c.p
 t64:∀l∈c.T,∀x∈l,rH x
 te:tE c.T c.F=0
 mt:∀m∈c.ms,EM m
 sc:aDP c.sc
 sz:(p9 (jS c)).length<=1048576
theorem aFD(B:Nat)(A:CA)(c:Cp)(w:aS)(D:rJ w B A c)(N:kW w A c)(J:uV c):qK 29 #[qP B 0] w (Rt (aF #[aB (eH (FE c.p)),qI 0]) w):=by have M:=eC (P1 A.va A.ba A.vc A.bc c.p w N.1 J.pg J.ok.kc);have R:qC w B 0 c.p.pa:=D.c 0 rfl;have S:qC w B 1 (aA A.va c.p.vs.length A.vc):=D.c 1 rfl;have U:qC w B 2 (aA A.ba c.p.bd.length A.bc):=D.c 2 rfl;unfold kE at M;clear D N J;go_enter func29,ntmps29;go_wp2_with fail;refine M.mono ?_;rintro e W⟨rfl,O⟩;go_wp2_with fail;go_ret2;exact⟨rfl,O⟩
theorem aF7(B:Nat)(A:CA)(c:Cp)(w:aS)(D:rJ w B A c)(M:kW w A c)(J:uV c):qK 30 #[qP B 0] w (Rt (aF #[aB (eH (fP c.T c.F)),qI 0]) w):=by have N:=eC (PK A.ta A.tc c.T c.F w M.2.1 J.t64 J.te);have R:qC w B 3 (aA A.ta c.T.length A.tc):=D.c 3 rfl;have S:qC w B 4 c.F:=D.c 4 rfl;clear D M J;go_enter func30,ntmps30;go_wp2_with fail;refine N.mono ?_;rintro e U⟨rfl,O⟩;go_wp2_with fail;go_ret2;exact⟨rfl,O⟩
theorem aGm(B:Nat)(A:CA)(c:Cp)(w:aS)(J:rJ w B A c)(M:kW w A c)(D:uV c):qK 31 #[qP B 0] w (Rt (aF #[aB (eH (MC c.ms)),qI 0]) w):=by have N:=eC (RJ A.ma A.mc c.ms w M.2.2 D.mt D.ok.ml);have R:qC w B 5 (aA A.ma c.ms.length A.mc):=J.c 5 rfl;clear J M D;go_enter func31,ntmps31;go_wp2_with fail;refine N.mono ?_;rintro e S⟨rfl,O⟩;go_wp2_with fail;go_ret2;exact⟨rfl,O⟩
theorem aGO(B:Nat)(A:CA)(c:Cp)(w:aS)(D:rJ w B A c)(M:uV c):qK 33 #[qP B 0] w (Rt (aF #[aB (eH (VP c.sc)),qI 0]) w):=by have J:=eC (TF c.sc w M.sc);have O:qC w B 6 (qI c.sc.a):=D.c 6 rfl;have R:qC w B 7 (qI c.sc.k):=D.c 7 rfl;have S:qC w B 8 (qI c.sc.t):=D.c 8 rfl;unfold scV at J;clear D M;go_enter func33,ntmps33;go_wp2_with fail;refine J.mono ?_;rintro e U⟨rfl,N⟩;go_wp2_with fail;go_ret2;exact⟨rfl,N⟩
theorem NU(A:CA)(c:Cp)(w:aS)(hc:kW w A c)(ho:uV c):qK 11 #[tR A c] w (Rt (aF #[aB (gR c),qI 0]) w):=by
 have aL:=IZ;obtain⟨V,hV,ao,-⟩:=lB w (aK (fU A c) 33);have Y:rJ V w A c:=by rw[<-hV];exact fG w _
 have CC:=eC (uZ A c V (hc.later ao) ho.ok);rw[ho.odd]at CC;have c0:qC V w 0 c.p.pa:=Y.c 0 rfl;have c1:qC V w 1 (aA A.va c.p.vs.length A.vc):=Y.c 1 rfl;have c2:qC V w 2 (aA A.ba c.p.bd.length A.bc):=Y.c 2 rfl;have c3:qC V w 3 (aA A.ta c.T.length A.tc):=Y.c 3 rfl;have c4:qC V w 4 c.F:=Y.c 4 rfl;have c5:qC V w 5 (aA A.ma c.ms.length A.mc):=Y.c 5 rfl;have c6:qC V w 6 (qI c.sc.a):=Y.c 6 rfl;have c7:qC V w 7 (qI c.sc.k):=Y.c 7 rfl;have c8:qC V w 8 (qI c.sc.t):=Y.c 8 rfl;have HC:=eC hc;have HO:=eC ho;have ar:=eC ao;have aw:=eC Y;unfold tR at CC|-;unfold fU at hV CC|-;go_enter func11,ntmps11;go_wp2_with(rw[hV]);refine CC.mono ?_;rintro e w1⟨rfl,am⟩;have aq:=mG ar am;have av:=eC (aw.later am);obtain⟨W,hW,ap,ay,-⟩:=lB w1 (aK #[aD (bC 29) #[] #[qP w 0],aD (bC 30) #[] #[qP w 0],aD (bC 31) #[] #[qP w 0],aD (bC 33) #[] #[qP w 0]] 70);have au:=mG aq ap;have ax:=eC (av.later ap);have ai:=eC ay;have HW:=eC hW;go_wp2_with fail;(try rw[HW])
 have ak:Hid (∀wr,Bl W wr->Bl w wr):=eC (λwr h=>fC au h);have y:Hid (∀wr,Bl W wr->kW wr A c/\rJ wr w A c):=eC (λwr h=>⟨HC.later (ak wr h),ax.later h⟩);have aj:Hid (∀wr,Bl W wr->wr.heap[(w1:Nat)]?=W.heap[(w1:Nat)]?):=eC (λwr h=>h.block _ (fB.1 ai).1);go_loopw [5,21] (λv i wr=>∃k:Nat,k<=4/\i=qI k/\Hid (tC wr W v ((jS c).take k))/\Hid (Bl W wr)) (λ_ i _=>4-(aW i).toNat)
 case atStart=>exact⟨0,zO,rfl,eC (tC.nil _ _),eC (iL _ W)⟩
 case round=>
  obtain⟨k,hk,rfl,Z,D⟩:=hrel;obtain rfl|rfl|rfl|rfl|rfl:k=0\/k=1\/k=2\/k=3\/k=4:=zO
  .have hf:=kG wr _ 0 _ _ _ ((aj wr D.out).trans ai);have M:=eC (aFD _ A c wr (y wr D.out).2 (y wr D.out).1 HO);obtain⟨S,O⟩:=eR (eH (FE c.p));rw[O]at M;have ae:=eC O;obtain⟨f,j,rfl,_⟩:=Z.out.secs;go_wp2_with fail;refine M.mono ?_;rintro e B⟨rfl,J⟩;have aa:=eC (Z.out.later J);have u:=mG D J;obtain⟨W4,R,U,-⟩:=lB B (aK #[qI 1,S] 75);have af:Hid (QH W4 B (1,S)):=eC (by rw[<-R];exact fG B _);have ab:=eC (aa.later U);have N:=mG u U;have ag:=eC R;go_wp2_with(first|rw[ag]|(at_builtin;refine sM rfl (aR 34) (aR 39) rfl W (aA f ((jS c).take 0).length j) ((jS c).take 0) rfl ab B (1,S) rfl af (by show 0+1<=10000000;decide) N.size ?_;intro v' w7 X al ah;have ac:Hid (tC w7 W v' ((jS c).take 1)):=eC (by rw[<-ae]at X;exact X);have x:=eC (N.trans ah)));go_roundw
   case rel=>exact⟨1,zO,rfl,ac,x⟩
   case measure=>simp[aW]
  .have hf:=kG wr _ 1 _ _ _ ((aj wr D.out).trans ai);have M:=eC (aF7 _ A c wr (y wr D.out).2 (y wr D.out).1 HO);obtain⟨S,O⟩:=eR (eH (fP c.T c.F));rw[O]at M;have ae:=eC O;obtain⟨f,j,rfl,_⟩:=Z.out.secs;go_wp2_with fail;refine M.mono ?_;rintro e B⟨rfl,J⟩;have aa:=eC (Z.out.later J);have u:=mG D J;obtain⟨W4,R,U,-⟩:=lB B (aK #[qI 2,S] 75);have af:Hid (QH W4 B (2,S)):=eC (by rw[<-R];exact fG B _);have ab:=eC (aa.later U);have N:=mG u U;have ag:=eC R;go_wp2_with(first|rw[ag]|(at_builtin;refine sM rfl (aR 34) (aR 39) rfl W (aA f ((jS c).take 1).length j) ((jS c).take 1) rfl ab B (2,S) rfl af (by show 1+1<=10000000;decide) N.size ?_;intro v' w7 X al ah;have ac:Hid (tC w7 W v' ((jS c).take 2)):=eC (by rw[<-ae]at X;exact X);have x:=eC (N.trans ah)));go_roundw
   case rel=>exact⟨2,zO,rfl,ac,x⟩
   case measure=>simp[aW]
  .have hf:=kG wr _ 2 _ _ _ ((aj wr D.out).trans ai);have M:=eC (aGm _ A c wr (y wr D.out).2 (y wr D.out).1 HO);obtain⟨S,O⟩:=eR (eH (MC c.ms));rw[O]at M;have ae:=eC O;obtain⟨f,j,rfl,_⟩:=Z.out.secs;go_wp2_with fail;refine M.mono ?_;rintro e B⟨rfl,J⟩;have aa:=eC (Z.out.later J);have u:=mG D J;obtain⟨W4,R,U,-⟩:=lB B (aK #[qI 3,S] 75);have af:Hid (QH W4 B (3,S)):=eC (by rw[<-R];exact fG B _);have ab:=eC (aa.later U);have N:=mG u U;have ag:=eC R;go_wp2_with(first|rw[ag]|(at_builtin;refine sM rfl (aR 34) (aR 39) rfl W (aA f ((jS c).take 2).length j) ((jS c).take 2) rfl ab B (3,S) rfl af (by show 2+1<=10000000;decide) N.size ?_;intro v' w7 X al ah;have ac:Hid (tC w7 W v' ((jS c).take 3)):=eC (by rw[<-ae]at X;exact X);have x:=eC (N.trans ah)));go_roundw
   case rel=>exact⟨3,zO,rfl,ac,x⟩
   case measure=>simp[aW]
  .have hf:=kG wr _ 3 _ _ _ ((aj wr D.out).trans ai);have M:=eC (aGO _ A c wr (y wr D.out).2 HO);obtain⟨S,O⟩:=eR (eH (VP c.sc));rw[O]at M;have ae:=eC O;obtain⟨f,j,rfl,_⟩:=Z.out.secs;go_wp2_with fail;refine M.mono ?_;rintro e B⟨rfl,J⟩;have aa:=eC (Z.out.later J);have u:=mG D J;obtain⟨W4,R,U,-⟩:=lB B (aK #[qI 4,S] 75);have af:Hid (QH W4 B (4,S)):=eC (by rw[<-R];exact fG B _);have ab:=eC (aa.later U);have N:=mG u U;have ag:=eC R;go_wp2_with(first|rw[ag]|(at_builtin;refine sM rfl (aR 34) (aR 39) rfl W (aA f ((jS c).take 3).length j) ((jS c).take 3) rfl ab B (4,S) rfl af (by show 3+1<=10000000;decide) N.size ?_;intro v' w7 X al ah;have ac:Hid (tC w7 W v' ((jS c).take 4)):=eC (by rw[<-ae]at X;exact X);have x:=eC (N.trans ah)));go_roundw
   case rel=>exact⟨4,zO,rfl,ac,x⟩
   case measure=>simp[aW]
  .obtain⟨f,j,rfl,az⟩:=Z.out.secs;have CS:=eC (aDZ f j (jS c) wr az (SQ c) HO.sz);go_wp2_with fail;refine CS.mono ?_;rintro e B⟨rfl,J⟩;have HF:=eC ((ak _ D.out).trans (J.mono (ak _ D.out).size));go_wp2_with fail;go_ret2;exact⟨rfl,HF⟩
def EQ(n:Nat)(w:aS)(a:Option Addr)(l:List Int):Prop:=l=[]\/∃b d,a=some ⟨b,d,none⟩/\n<=b/\b<(w:Nat)/\∀j x,l[j]?=some x->w.cell? ⟨b,d+j,none⟩=some (aC aP x)
def fZ(n:Nat)(w:aS)(a:Option Addr)(L:List (List Int)):Prop:=L=[]\/∃b d,a=some ⟨b,d,none⟩/\n<=b/\b<(w:Nat)/\∀i l,L[i]?=some l->∃e c,w.cell? ⟨b,d+i,none⟩=some (aA e l.length c)/\EQ n w e l
theorem EQ.on(h:EQ n w a l)(f:w<=(w':Nat))(e:∀k,n<=k->k<(w:Nat)->w'.heap[k]?=w.heap[k]?):EQ n w' a l:=by
 obtain h|⟨b,off,rfl,hn,hlt,h⟩:=h
 .exact .inl h
 .exact .inr ⟨b,off,rfl,hn,zO,λj x d=>(lA (w:=w) (a:=(qP b (off+j))) (e b hn hlt)).trans (h j x d)⟩
theorem fZ.on{n:Nat}{w w':aS}{a:Option Addr}{L:List (List Int)}(h:fZ n w a L)(j:w<=(w':Nat))(d:∀k,n<=k->k<(w:Nat)->w'.heap[k]?=w.heap[k]?):fZ n w' a L:=by
 obtain h|⟨b,off,rfl,hn,hlt,h⟩:=h
 .exact .inl h
 .refine .inr ⟨b,off,rfl,hn,zO,λi l g=>?_⟩;obtain⟨m,c,e,f⟩:=h i l g;exact⟨m,c,(lA (w:=w) (a:=(b,off+i)) (d b hn hlt)).trans e,f.on j d⟩
theorem fZ.later(h:fZ n w a L)(d:Bl w w'):fZ n w' a L:=h.on d.size λk _ e=>d.block k e
theorem fZ.mono(h:fZ n w a L)(hm:m<=n):fZ m w a L:=by
 obtain h|⟨b,off,rfl,hn,hlt,h⟩:=h
 .exact .inl h
 .refine .inr ⟨b,off,rfl,zO,hlt,λi l g=>?_⟩;obtain⟨j,c,f,d⟩:=h i l g;refine⟨j,c,f,?_⟩;obtain d|⟨b2,off2,e,hn2,hlt2,d⟩:=d
  .exact .inl d
  .exact .inr ⟨b2,off2,e,zO,hlt2,d⟩
theorem fZ.at(h:fZ n w a L):gG w a L:=by
 obtain h|⟨b,off,rfl,hn,hlt,h⟩:=h
 .exact .inl h
 .refine .inr ⟨b,off,rfl,hlt,λi l g=>?_⟩;obtain⟨j,c,f,d⟩:=h i l g;refine⟨j,c,f,?_⟩;obtain d|⟨b2,off2,e,hn2,hlt2,d⟩:=d
  .exact .inl d
  .exact .inr ⟨b2,off2,e,hlt2,d⟩
def aJf(n:Nat)(s:ByteArray)(L:List (List Int))(f E:Nat)(T:ByteArray)(w':aS)(e:Ending):Prop:=
 (∃d c,e=aO (aF #[aA d L.length c,aC aP (f:Nat),aC aP 0])/\fZ n w' d L/\E=0/\T=s)\/(e=aO (aF #[aA none 0 0,aC aP 0,aC aP 12])/\¬(E=0/\T=s))
theorem aCN(R O r:Nat)(s:ByteArray)(a D B J:Nat)(w:aS)(hW:qC w R 0 (qI B))(hP:qC w O 0 (qP r 0))(nW:R≠r)(nR:O≠r)(h:eV w r s a D)(hs:s.size<=aZ)(ha:a<=s.size)(a7:B<=10000)(hc:J<=10000):
  qK 126 #[qI J,aD (bC 127) #[] #[qP R 0,qP O 0]] w λe w'=>(∃M c,e=aO (aA M (pB s a D B J).length c)/\fZ w w' M (pB s a D B J))/\eV w' r s (oM s a D (J*B)).1 (oM s a D (J*B)).2/\eN r w w':=by
 have HR:=eC h;have bf:=h.lt;have a0:R<w:=oF w _ hW;have aL:O<w:=oF w _ hP;obtain⟨i0,z0,f,hz,k1,k2,k3⟩:=YU aJE;have HI:=eC f;have HZ:=eC hz;have K1:=eC k1;have K2:=eC k2;have K3:=eC k3;clear h f hz k1 k2 k3;go_enter func126,ntmps126;go_wp2_with fail;go_loopw [5,7] (λv i wr=>∃k:Nat,k<=J/\i=qI k/\(∃X:List aT,wr.ownsRow w 22 1 v X.length X/\wG wr w v X (pB s a D B k))/\eV wr r s (oM s a D (k*B)).1 (oM s a D (k*B)).2/\eN r w wr) (λ_ i _=>J-(aW i).toNat)
 case atStart=>exact⟨0,zO,rfl,⟨[],World.ownsRow_nil _ _ _ _,rfl,λi l f=>by simp[pB]at f⟩,by rw[Nat.zero_mul];exact HR,eN.refl _ _⟩
 case round=>
  obtain⟨k,hk,rfl,⟨X,am,W⟩,hR,hO⟩:=hrel;have y:=eC am;have ae:=eC W;have ag:=eC hR;have Y:=eC hO;have a8:X.length=k:=by rw[W.1,zU]
  clear am W hR hO HR;by_cases ab:k<J
  .have c1:qC wr R 0 (qI B):=(lA (w:=w) (a:=(R,0)) (Y.block R a0 nW)).trans hW;have c2:qC wr O 0 (qP r 0):=(lA (w:=w) (a:=(O,0)) (Y.block O aL nR)).trans hP;have CI:=eC (UU R O r s (oM s a D (k*B)).1 (oM s a D (k*B)).2 B wr c1 c2 ag hs (QO ha _) a7);have aw:=eC (show oM s (oM s a D (k*B)).1 (oM s a D (k*B)).2 B=oM s a D ((k+1)*B) by rw[MR,Nat.add_mul,Nat.one_mul]);rw[aw]at CI;rw[show tN s (oM s a D (k*B)).1 (oM s a D (k*B)).2 B=EF s a D B k from rfl]at CI;clear c1 c2;go_wp2_with fail;refine CI.mono ?_;rintro e N⟨⟨v1,rfl,ao⟩,aj,Z⟩;obtain⟨a1,q1,rfl,ak⟩:=ao.inner;have ac:∀q,bY u5=some q->(w:Nat)<=q/\q<(wr:Nat):=BK y;have au:=aEx (w':=N) y λq hq=>Z.block q (ac q hq).2 (by have:=(ac q hq).1;omega);have O2:=Y.trans Z;have bd:wr<=(N:Nat):=Z.size;have ar:wG N w u5 X (pB s a D B k):=ae.move Z.size λq hN ab u=>⟨Z.block q ab zO,u⟩;have bh:w<=(wr:Nat):=Y.size;have aq:aC9 N w u5 a1 (EF s a D B k):=by
    obtain h|⟨b,rfl,h1,h2,S⟩:=ak
    .exact .inl h
    .exact .inr ⟨b,rfl,zO,h2,λh=>by have:=(ac b h.symm).2;omega,S⟩
   have IN:=eC (ar.snoc (c:=q1) aq);have ay:=eC au;have ah:=eC aj;have aa:=eC O2;have a6:w<=(N:Nat):=O2.size;have HW:=eC ac;clear au aj Z O2 CI ac ao ak aq ar ae y Y ag;go_wp2_with(at_builtin;refine IY rfl 26 22 i0 z0 24 underlying26 HI HZ K1 K2 K3 zD (aR 9) (aR 12) rfl w u5 _ rfl ay (aA a1 (EF s a D B k).length q1) rfl rfl a6 zO ?_;intro v' w5 a4 U a2);have af:(N.alloc (aK #[aA a1 (EF s a D B k).length q1] 22)).heap.size=N+1:=by simp
   have a5:r<N:=ah.lt;have a3:some r≠bY u5:=λh=>by have:=(HW r h.symm).1;omega
   have R5:=ah.at ((U.block r (by rw[af];omega) a3).trans (iI _ _ _ a5));have ai:N<=(w5:Nat):=by have:=U.size;rw[af]at this;omega
   have O5:eN r w w5:=⟨U.os.trans aa.os,U.tape.trans aa.tape,U.output.trans aa.output,fA aa.size ai,λq hq u=>((U.block q (by rw[af];omega) (λh=>by have:=(HW q h.symm).1;omega)).trans (iI _ _ _ zO)).trans (aa.block q hq u)⟩;have ax:wG w5 w v' (X++[aA a1 (EF s a D B k).length q1]) (pB s a D B (k+1)):=by
    rw[VJ];refine IN.move ai λq hN ab u=>⟨(U.block q (by rw[af];omega) u).trans (iI _ _ _ ab),?_⟩;obtain e|⟨b,e,hb⟩:=a2
    .rw[e];exact u
    .rw[e];intro h;cases h;omega
   exact⟨⟨k+1,zO,by go_num,⟨_,a4,ax⟩,R5,O5⟩,by simp[aW];omega⟩
  .obtain rfl:k=J:=zO;have HF:Hid (∃M c,u5=aA M (pB s a D B k).length c/\fZ w wr M (pB s a D B k)):=eC (by
    have h0:=y.out
    have W:=ae.out
    obtain⟨hv,h1⟩|⟨g,az,ba,hv,hb,hg,be,bb,bc,bg⟩:=h0.2
    .have al:pB s a D B k=[]:=List.eq_nil_of_length_eq_zero (by rw[<-W.1];exact h1)
     exact⟨none,0,by rw[hv,al];rfl,.inl al⟩
    .refine⟨some (g,0),az,by rw[hv,W.1],?_⟩
     by_cases hl:pB s a D B k=[]
     .exact .inl hl
     .refine .inr ⟨g,0,rfl,hb,(fB.1 hg).1,λi l f=>?_⟩
      obtain⟨M,c,h2,S⟩:=W.2 i l f
      have ab:=(gX.1 h2).1
      refine⟨M,c,?_,?_⟩
      .rw[hv]at h0
       rw[kQ,h0.cellAt i zO];exact h2
      .obtain S|⟨b,rfl,hN3,hlt3,_,S⟩:=S
       .exact .inl S
       .exact .inr ⟨b,0,rfl,hN3,hlt3,λj x hj=>by rw[kQ];exact S j x hj⟩);obtain⟨M,c,rfl,ap⟩:=HF.out;have av:=eC ap;clear ap HF y ae a8;go_wp2_with fail;go_ret;exact⟨⟨M,c,rfl,av⟩,ag,Y⟩
theorem aHS(s:ByteArray)(w:aS)(Y:s.size<=aZ):
  qK 51 #[aB s] w λe w'=>aJf w s (YN s) (rdF s) (tE (YN s) (rdF s:Nat)) (BJ (YN s) (rdF s:Nat)) w' e/\aV w w w':=by
 have bg:=IZ;have OF:=eC (λW=>zM s W);have R:=eC (λr W h=>rcN (r:=r) (s:=s) (a:=0) (er:=0) (M:=10000) 10000 rfl (w:=W) h Y (kU _) zD);have D:=eC (λr W h=>rcN (r:=r) (s:=s) (a:=LJ s) (er:=LY s) (M:=20) 20 rfl (w:=W) h Y (EI (kU _)) zD);have J:=eC (λr W h=>rcN (r:=r) (s:=s) (a:=IX s) (er:=K6 s) (M:=12) 12 rfl (w:=W) h Y (EI (EI (kU _))) zD);have a5:rdW s<=12:=Z7 ..;have a1:rdN s<=20:=Z7 ..;have N:=eC (λO Rb r W h1 h2 h3 h4 h5=>aCN O Rb r s (UW s) (VL s) (rdW s) (rdN s) W h1 h2 h3 h4 h5 Y (EI (EI (EI (kU _)))) zO zO);have S:=eC (λpa c W h=>aDa pa c (YN s) (rdF s:Nat) W h (fA (YM s) zD) (λl hl=>by rw[aCl s l hl];unfold aZ;omega) (aGE s));rw[show cV s 0 0 10000=rdF s from rfl,show cA s 0 0 10000=LJ s from rfl,show cR s 0 0 10000=LY s from rfl]at R;rw[show cV s (LJ s) (LY s) 20=rdN s from rfl,show cA s (LJ s) (LY s) 20=IX s from rfl,show cR s (LJ s) (LY s) 20=K6 s from rfl]at D;rw[show cV s (IX s) (K6 s) 12=rdW s from rfl,show cA s (IX s) (K6 s) 12=UW s from rfl,show cR s (IX s) (K6 s) 12=VL s from rfl]at J;rw[show pB s (UW s) (VL s) (rdW s) (rdN s)=YN s from rfl]at N;have a0:=YM s;generalize YN s=L at N S a0|-;generalize rdF s=f at R S|-;generalize tE L (f:Nat)=E at S|-;generalize BJ L (f:Nat)=T at S|-;generalize rdN s=n at D N a1;generalize rdW s=wd at J N a5;generalize LJ s=A1 at R D;generalize LY s=R1 at R D;generalize IX s=A2 at D J;generalize K6 s=R2 at D J;generalize UW s=A3 at J N;generalize VL s=R3 at J N;clear Y;go_enter func51,ntmps51;go_wp2_with(fail);refine(OF.out _).mono ?_;rintro e w1⟨rfl,rfl⟩;go_upto_region 2 with fail;have ak:=(eV.new w s).alloc (aK #[qP w 0] 176);have hV:((w.alloc (aK #[s,qI 0,qI 0] 189)).alloc (aK #[qP w 0] 176)).cell? ((w:Nat)+1,0)=some (.pointer (some (w,0))):=by simp
 have hZ:((w.alloc (aK #[s,qI 0,qI 0] 189)).alloc (aK #[qP w 0] 176)).heap.size=w+2:=by simp
 have U:aV w w ((w.alloc (aK #[s,qI 0,qI 0] 189)).alloc (aK #[qP w 0] 176)):=(fL _ _).alloc zS _;generalize((w.alloc (aK #[s,qI 0,qI 0] 189)).alloc (aK #[qP w 0] 176))=V at ak hV hZ U|-;have Z:∀w',eN w V w'->qC w' ((w:Nat)+1) 0 (qP w 0):=λw' h=>(lA (w:=V) (a:=((w:Nat)+1,0)) (h.block _ (by show(w:Nat)+1<_;omega) (by show(w:Nat)+1≠_;omega))).trans hV;have aw:=eN.refl w V;have a3:V<=(V:Nat):=eX _;have X:w<(V:Nat):=zO;clear hZ hV;go_cut [6,7,8] (λs6 s7 s8 wx=>s6=qI (f:Int)/\s7=qI (n:Int)/\∃O,s8=qP O 0/\qC wx O 0 (qI (wd:Int))/\qC wx ((w:Nat)+1) 0 (qP w 0)/\(w:Nat)<O/\eV wx w s A3 R3/\aV w w wx)
 case first=>
  go_region_held3(λw'=>eN w V w') (first|(with_reducible assumption)|exact eN.alloc zW _|exact eN.drew (eN.alloc zW _)|exact eN.drew zW|exact eN.setNew zW zO)
   (first|(go_at_call 111;(with_reducible refine(R.out _ _ (by repeat' first|(with_reducible assumption)|apply eV.alloc|apply eV.drew)).mono ?_);rintro e wA⟨rfl,ba,x⟩;have ax:=eN.trans (by first|(with_reducible assumption)|exact eN.alloc zW _|exact eN.drew (eN.alloc zW _)) x;have bh:=ax.size;obtain⟨aL,bd⟩:=x.cells;have aq:=x.size;(try simp only[fO,World.size_drew]at aq);(try have a6:=Nat.lt_of_succ_le aq);have ai:w<(wA:Nat):=zO;clear x)|(go_at_call 111;(with_reducible refine(D.out _ _ (by repeat' first|(with_reducible assumption)|apply eV.alloc|apply eV.drew)).mono ?_);rintro e wB⟨rfl,bb,y⟩;have ay:=eN.trans (by first|(with_reducible assumption)|exact eN.alloc zW _|exact eN.drew (eN.alloc zW _)) y;have bi:=ay.size;obtain⟨am,be⟩:=y.cells;have ar:=y.size;(try simp only[fO]at ar);(try have a7:=Nat.lt_of_succ_le ar);have ao:w<(wB:Nat):=zO;(try have a4:V<(wB:Nat):=zO);clear y)|(go_at_call 111;(with_reducible refine(J.out _ _ (by repeat' first|(with_reducible assumption)|apply eV.alloc|apply eV.drew)).mono ?_);rintro e j⟨rfl,ab,aa⟩;have B:=eN.trans (by first|(with_reducible assumption)|exact eN.alloc zW _|exact eN.drew (eN.alloc zW _)) aa;have bj:=B.size;obtain⟨ah,bf⟩:=aa.cells;have au:=aa.size;(try simp only[fO]at au);(try have bk:=Nat.lt_of_succ_le au);have a2:w<(j:Nat):=zO;clear aa))
  all_goals go_wp2_with fail
  all_goals go_meet
  .exact⟨rfl,rfl,_,rfl,World.cell?_alloc_new j #[qI (wd:Int)] _ 0,Z _ (B.alloc _),a2,ab.alloc _,U.trans ((B.alloc _).below (eX _) zO)⟩
  .exact⟨rfl,rfl,_,rfl,GU j _ _ ((ah _ 0 ao (by rw[fO];omega)).trans (World.cell?_alloc_new wB #[qI 0] _ 0)),Z _ (B.setNew zO),ao,ab.setOther zO,U.trans ((B.setNew zO).below (eX _) zO)⟩
  .exact⟨rfl,rfl,_,rfl,GU j _ _ ((ah _ 0 ai a7).trans ((am _ 0 ai (by rw[fO];omega)).trans (World.cell?_alloc_new wA #[qI 0] _ 0))),Z _ (B.setNew zO),ai,ab.setOther zO,U.trans ((B.setNew zO).below (eX _) zO)⟩
  .exact⟨rfl,rfl,_,rfl,GU j _ _ ((ah _ 0 X a4).trans ((am _ 0 X a6).trans ((aL _ 0 X (by rw[World.size_drew,fO];exact Nat.lt_succ_self _)).trans (World.cell?_alloc_new V #[qI 0] _ 0)))),Z _ (B.setNew zO),X,ab.setOther zO,U.trans ((B.setNew zO).below (eX _) zO)⟩
 case rest=>
  obtain⟨rfl,rfl,O,rfl,cW,cP,bc,al,hb⟩:=hcut;have aj:=eC (N.out O ((w:Nat)+1) w wc cW cP zO zO al);have u:=eC hb;clear ak U Z aw a3 X cW cP hb al N R D J OF;go_wp2_with fail;refine aj.out.mono ?_;rintro e w2⟨⟨pa,c,rfl,ap⟩,hR,hO⟩;have af:=eC (ap.mono u.out.size);have ac:=eC (u.out.trans (hO.below (eX _) u.out.size));have a8:=ac.out.size;clear hR hO ap aj u;go_wp2_with fail;refine(S.out pa c w2 af.out.at).mono ?_;rintro e w3⟨rfl,ag⟩;have av:=eC (af.out.later ag);have ae:=eC (ac.out.trans (ag.mono a8));clear ag af ac S;by_cases hE:E=0
  .subst hE;by_cases hT:T=s
   .subst hT;go_wp2_with fail;go_ret3;exact⟨.inl ⟨pa,c,rfl,av.out,rfl,rfl⟩,ae.out⟩
   .have az:=aIY hT;have HT:=eC hT;clear hT;go_wp2_with fail;go_ret3;exact⟨.inr ⟨rfl,λh=>HT.out h.2⟩,ae.out⟩
  .have az:((E:Int)==0)=false:=zT;have HE:=eC hE;clear hE;go_wp2_with fail;go_ret3;exact⟨.inr ⟨rfl,λh=>HE.out h.1⟩,ae.out⟩
end Go.Proofs.YtgmjilingndloaaGreatDoor
