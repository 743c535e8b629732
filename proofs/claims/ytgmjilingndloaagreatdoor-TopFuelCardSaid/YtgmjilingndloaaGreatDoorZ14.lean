/- Part 14 of the proof of TopFuel. No conditions. -/
import Derived.Test.YtgmjilingndloaaGreatDoorZ13
open Go renaming TypeId->aX,Value->aT,World->aS,maxLen->aZ
open Go.Ending renaming returned->aO
open Go.Instr renaming typeAssert->bN
open Go.IntKind renaming i64->aP
open Go.Obj renaming cells->aK,deferred->aM,loop->aN
open Go.RowKit renaming Below->aV,intOf->aW
open Go.Value renaming agg->aH,bool->aG,func->aD,int->aC,nilIface->aI,pointer->aE,slice->aA,string->aB,tuple->aF
namespace Go.Proofs.YtgmjilingndloaaGreatDoor
set_option linter.unusedVariables false
set_option linter.unusedSimpArgs false
set_option maxRecDepth 100000
set_option maxHeartbeats 20000000
open Go Go.RowKit Go.Proofs.Tryz
variable{w w' W:aS}{st e d i g n at' f b j co:Nat}{F v x k:Int}{s:ByteArray}{X:aS->Prop}{L:List jJ}{c:Cp}{h lv:aT}{P:Program}{ys:List aT}{a:Act}{Q:Exit->Act->aS->Prop}
def lN(w:aS)(e:Nat)(s:ByteArray)(d:aT)(f:List aT):Prop:=w.heap[e]?=some (aK (([aB s,d]++f).toArray) 102 (0,0))
theorem lN.lt{e:aT}{f:List aT}(h:lN w d s e f):d<w:=(fB.1 h).1
theorem lN.later{d:aT}{f:List aT}(h:lN w e s d f)(g:Bl w w'):lN w' e s d f:=(g.block _ h.lt).trans h
structure D0(w:aS)(rb:Nat)(pa:Option Addr)(L:List jJ):Prop where
 at':mP w pa L
 far:∀ad,pa=some ad->ad.block≠rb
theorem D0.only{j:Option Addr}(h:D0 w d j L)(e:eN d w w'):D0 w' d j L:=by
 refine⟨?_,h.far⟩;obtain h1|⟨b,off,rfl,hlt,h1⟩:=h.at'
 .exact .inl h1
 .have g:=e.block b hlt (h.far _ rfl);exact .inr ⟨b,off,rfl,gV hlt e.size,λi x f=>⟨(lA (w:=w) (a:=(qP b (off+i*2))) g).trans (h1 i x f).1,(lA (w:=w) (a:=(qP b (off+i*2+1))) g).trans (h1 i x f).2⟩⟩
theorem D0.later{e:Option Addr}(h:D0 w f e L)(d:Bl w w'):D0 w' f e L:=h.only ⟨d.os,d.tape,d.output,d.size,λk g _=>d.block k g⟩
theorem D0.cell{f:Option Addr}(h:D0 w g f L){x:jJ}(e:L[i]?=some x):∃b d,f=some ⟨b,d,none⟩/\w.cell? (qP b (d+i*2))=some (qI x.1)/\w.cell? (qP b (d+i*2+1))=some (aB x.2):=by
 obtain h1|⟨b,d,rfl,hlt,h1⟩:=h.at'
 .rw[h1]at e;simp at e
 .exact⟨b,d,rfl,(h1 i x e).1,(h1 i x e).2⟩
theorem yV(t:Int)(w:aS):qK 131 #[qI t,qI 0] w λe w'=>e=aO aI/\w=w':=by go_enter func131,ntmps131;go_wp2;go_ret;exact⟨rfl,rfl⟩
theorem aCj(w:aS):qK 130 #[qI 0] w λe w'=>e=aO aI/\w=w':=by have B:=eC (yV 0 w);go_enter func130,ntmps130;go_wp2_with(go_at_call 131;refine B.mono ?_;rintro e D⟨rfl,rfl⟩);go_ret;exact⟨rfl,rfl⟩
def pR(d e f g h i j k m:aT):List aT:=[d,e,f,g,h,i,j,k,m]
theorem BO{α:Type}{K:lL α}{E:aX}{v:aT}{L:List α}(h:eD K E n w v L)(hE:E≠102)(ht:∀t,K.tags t->t≠102)(hb:lN w d s lv ys)(i:Nat)(x:aT):eD K E n (qS w (d,i) x) v L:=fJ h hE ht hb (λk hk=>eF _ hk)
theorem aHT:∀t,kM.tags t->t≠102:=λt d=>by rw[show t=3 from d];decide
def aH1(d n:Nat)(c:Cp)(s:ByteArray)(r:aT)(h i j k m q:aT)(w:aS)(e:Ending)(w':aS):Prop:=e=aO aI/\∃f g,lN w' d s r (pR (aC aP c.p.pa) f g h i j k m q)/\eD kI 3 n w' f c.p.vs/\eD kP 54 n w' g c.p.bd/\eN d w w'
theorem aFh(B:Nat)(c:Cp)(s:ByteArray)(pa:Option Addr)(X:Nat)(a0 a1 x J M N O R U:aT)(w:aS)(hx:lN w B s (aA pa 4 X) (pR a0 a1 x J M N O R U))(hs:D0 w B pa (jS c))(ho:uV c):
  qK 55 #[qP B 0] w (aH1 B w c s (aA pa 4 X) J M N O R U w):=by
 obtain⟨b,f,rfl,_,ab⟩:=hs.cell (i:=0) rfl;have e1:w.cell? (b,f+1)=some (aB (eH (FE c.p))):=by simpa using ab
 have k1:=rI hx;have j:=eC (YQ c.p w ho.pg ho.ok.kc);have CI:=eC (λt W=>yV t W);obtain⟨Q,hQ⟩:=eR (aH1 B w c s (aA (some (b,f)) 4 X) J M N O R U w);rw[hQ];have HQ:=eC hQ;have HX:=eC hx;generalize eH (FE c.p)=S at e1 j;clear ab hx hs ho hQ;go_enter func55,ntmps55;go_wp2_with fail;refine j.mono ?_;rintro e w1⟨⟨v1,v2,rfl,o1,o2⟩,aa⟩;obtain⟨y,q1,rfl,_⟩:=eL o1;obtain⟨b2,q2,rfl,_⟩:=eL o2;obtain⟨W,hW,Y,ac,-⟩:=lB w1 (aK #[c.p.pa,aA y c.p.vs.length q1,aA b2 c.p.bd.length q2] 25);obtain⟨z0,z1,z2⟩:=pX ac;have Z:=(HX.later aa).later Y;obtain⟨-,-,y2,y3,y4⟩:=pQ5 Z;have f2:=tK Z;have u:=eC Z;have O1:=eC (o1.later Y);have O2:=eC (o2.later Y);have HB:=eC (fC aa Y);clear Z ac Y o1 o2 aa e1 k1 j;go_wp2_with(first|(rw[hW])|(go_at_call 131;refine(CI _ _).mono ?_;rintro e w9⟨rfl,ae⟩;rw[<-ae];clear ae));rw[<-HQ];have h1:lN (qS W (B,2) (qI c.p.pa)) B s (aA (some (b,f)) 4 X) (pR (qI c.p.pa) a1 x J M N O R U):=iB W B 2 _ _ _ u;have h2:lN (qS (qS W (B,2) (qI c.p.pa)) (B,3) (aA y c.p.vs.length q1)) B s (aA (some (b,f)) 4 X) (pR (qI c.p.pa) (aA y c.p.vs.length q1) x J M N O R U):=iB _ B 3 _ _ _ h1;exact⟨rfl,_,_,iB _ B 4 _ _ _ h2,BO (BO (BO O1 zD (λt D=>D.elim) u _ _) zD (λt D=>D.elim) h1 _ _) zD (λt D=>D.elim) h2 _ _,BO (BO (BO O2 zD (λt D=>D.elim) u _ _) zD (λt D=>D.elim) h1 _ _) zD (λt D=>D.elim) h2 _ _,(((Below.only HB).setCell _ _).setCell _ _).setCell _ _⟩
def aD6(d n:Nat)(c:Cp)(s:ByteArray)(r:aT)(g h i j k m q:aT)(w:aS)(e:Ending)(w':aS):Prop:=e=aO aI/\∃f u,lN w' d s r (pR g h i (aA f c.T.length u) (aC aP c.F) j k m q)/\fZ n w' f c.T/\eN d w w'
theorem SJ(d:uV c):∃f:Nat,c.F=f/\YN (eH (fP c.T c.F))=c.T/\rdF (eH (fP c.T c.F))=f/\BJ c.T c.F=eH (fP c.T c.F):=by
 obtain⟨f,hf⟩:=qJ (show 0<=c.F by have:=(IE d.ok.cf).2.2.2.1;omega);have h:BJ c.T c.F=eH (fP c.T c.F):=by unfold BJ;rw[eI d.te]
 have e:=aCs c.T f d.t64 (by have g:=d.te;rw[hf]at g;exact g);have i:BJ c.T (f:Nat)=eH (fP c.T c.F):=by rw[<-h,hf]
 rw[i]at e;exact⟨f,hf,e.1,e.2,h⟩
theorem aA3(B:Nat)(c:Cp)(s:ByteArray)(O:Option Addr)(cc:Nat)(X Y Z a3 a4 j u x y:aT)(w:aS)(hx:lN w B s (aA O 4 cc) (pR X Y Z a3 a4 j u x y))(hs:D0 w B O (jS c))(ho:uV c)(hz:(fP c.T c.F).length<=1048576):
  qK 56 #[qP B 0] w (aD6 B w c s (aA O 4 cc) X Y Z j u x y w):=by
 obtain⟨b,ab,rfl,_,af⟩:=hs.cell (i:=1) rfl;have e1:w.cell? (b,ab+2+1)=some (aB (eH (fP c.T c.F))):=by simpa using af
 have k1:=rI hx;obtain⟨f,hf,J,ac,ae⟩:=SJ ho;have U:=eC (aHS (eH (fP c.T c.F)) w (by show(fP c.T c.F).length<=aZ;unfold aZ;omega));rw[J,ac]at U;have HT:Hid (tE c.T (f:Nat)=0/\BJ c.T (f:Nat)=eH (fP c.T c.F)):=eC (by have D:=ho.te;have N:=ae;rw[hf]at D N;exact⟨D,by rw[hf];exact N⟩);have aj:=eC hf;have CI:=eC (λt W=>yV t W);have ak:=eC hx.lt;obtain⟨Q,hQ⟩:=eR (aD6 B w c s (aA (some (b,ab)) 4 cc) X Y Z j u x y w);rw[hQ];have HQ:=eC hQ;have HX:=eC hx;generalize eH (fP c.T c.F)=S at e1 U HT;clear af hx hs ho hQ hf J ac ae hz;go_enter func56,ntmps56;go_wp2_with fail;refine U.mono ?_;rintro e w1⟨hg,J⟩;obtain⟨M,R,rfl,ah,_⟩:∃M R,e=aO (aF #[aA M c.T.length R,qI (f:Nat),qI 0])/\fZ w w1 M c.T/\True:=by
  obtain⟨O,c',D,N,_⟩|⟨_,h⟩:=hg
  .exact⟨O,c',D,N,trivial⟩
  .exact absurd HT h
 have aa:=HX.later J;obtain⟨-,-,-,-,-,y2,y3⟩:=pQ7 aa;have f2:=tK aa;have am:=eC aa;have HB:=eC J;have al:=eC ah;clear aa hg J ah e1 k1 U;go_wp2_with(go_at_call 131;refine(CI _ _).mono ?_;rintro e w9⟨rfl,ai⟩;rw[<-ai];clear ai);rw[<-HQ];have D:lN (qS w1 (B,5) (aA M c.T.length R)) B s (aA (some (b,ab)) 4 cc) (pR X Y Z (aA M c.T.length R) a4 j u x y):=iB w1 B 5 _ _ _ am;refine⟨rfl,M,R,by rw[aj];exact iB _ B 6 _ _ _ D,al.on zS (λk D N=>?_),((Below.only HB).setCell _ _).setCell _ _⟩;have ag:k≠B:=by have:=ak.out;omega
 rw[eF _ ag,eF _ ag]
def aHP(d n:Nat)(c:Cp)(s:ByteArray)(r:aT)(f g h i j k m q:aT)(w:aS)(e:Ending)(w':aS):Prop:=e=aO aI/\∃v,lN w' d s r (pR f g h i j v k m q)/\eD kM 42 n w' v c.ms/\eN d w w'
theorem aDL(B:Nat)(c:Cp)(s:ByteArray)(pa:Option Addr)(f:Nat)(M N O R U a5 X Y Z:aT)(w:aS)(hx:lN w B s (aA pa 4 f) (pR M N O R U a5 X Y Z))(hs:D0 w B pa (jS c))(x:uV c)(hz:(MC c.ms).length<=100000):
  qK 57 #[qP B 0] w (aHP B w c s (aA pa 4 f) M N O R U X Y Z w):=by
 obtain⟨b,ae,rfl,_,ab⟩:=hs.cell (i:=2) rfl;have e1:w.cell? (b,ae+4+1)=some (aB (eH (MC c.ms))):=by simpa using ab
 have k1:=rI hx;have J:=eC (aEf c.ms w x.mt x.ok.ml hz);have CI:=eC (λt W=>yV t W);obtain⟨Q,j⟩:=eR (aHP B w c s (aA (some (b,ae)) 4 f) M N O R U X Y Z w);rw[j];have HQ:=eC j;have HX:=eC hx;generalize eH (MC c.ms)=S at e1 J;clear ab hx hs x j hz;go_enter func57,ntmps57;go_wp2_with fail;refine J.mono ?_;rintro e w1⟨v,rfl,y,u⟩;obtain⟨b1,q1,rfl,_⟩:=eL y;have D:=HX.later u;have y2:=LI D;have f2:=tK D;have aa:=eC D;have HB:=eC u;have af:=eC y;clear D u y e1 k1 J;go_wp2_with(go_at_call 131;refine(CI _ _).mono ?_;rintro e w9⟨rfl,ac⟩;rw[<-ac];clear ac);rw[<-HQ];exact⟨rfl,_,iB w1 B 7 _ _ _ aa,BO af zD aHT aa _ _,(Below.only HB).setCell _ _⟩
def ScP(d:Nat)(c:Cp)(s:ByteArray)(m:aT)(f g h i j k:aT)(w:aS)(e:Ending)(w':aS):Prop:=e=aO aI/\lN w' d s m (pR f g h i j k (aC aP c.sc.a) (aC aP c.sc.k) (aC aP c.sc.t))/\eN d w w'
theorem aAA(B:Nat)(c:Cp)(s:ByteArray)(pa:Option Addr)(U:Nat)(D J M N O R a6 a7 f:aT)(w:aS)(y:lN w B s (aA pa 4 U) (pR D J M N O R a6 a7 f))(hs:D0 w B pa (jS c))(ho:uV c):
  qK 58 #[qP B 0] w (ScP B c s (aA pa 4 U) D J M N O R w):=by
 obtain⟨b,Z,rfl,_,aa⟩:=hs.cell (i:=3) rfl;have e1:w.cell? (b,Z+6+1)=some (aB (eH (VP c.sc))):=by simpa using aa
 have k1:=rI y;have X:=eC (aCr c.sc w ho.sc);have CI:=eC (λt W=>yV t W);obtain⟨Q,j⟩:=eR (ScP B c s (aA (some (b,Z)) 4 U) D J M N O R w);rw[j];have HQ:=eC j;have HX:=eC y;generalize eH (VP c.sc)=S at e1 X;unfold scV at X;clear aa y hs ho j;go_enter func58,ntmps58;go_wp2_with fail;refine X.mono ?_;rintro e w1⟨rfl,u⟩;obtain⟨W,hW,x,ab,-⟩:=lB w1 (aK #[qI c.sc.a,qI c.sc.k,qI c.sc.t] 31);obtain⟨z0,z1,z2⟩:=pX ab;have Y:=(HX.later u).later x;obtain⟨-,-,-,-,-,-,-,-,y2,y3,y4⟩:=aI4 Y;have f2:=tK Y;have ae:=eC Y;have HB:=eC (fC u x);clear Y ab x u e1 k1 X;go_wp2_with(first|(rw[hW])|(go_at_call 131;refine(CI _ _).mono ?_;rintro e w9⟨rfl,ac⟩;rw[<-ac];clear ac));rw[<-HQ];have h1:lN (qS W (B,8) (qI c.sc.a)) B s (aA (some (b,Z)) 4 U) (pR D J M N O R (qI c.sc.a) a7 f):=iB W B 8 _ _ _ ae;have h2:lN (qS (qS W (B,8) (qI c.sc.a)) (B,9) (qI c.sc.k)) B s (aA (some (b,Z)) 4 U) (pR D J M N O R (qI c.sc.a) (qI c.sc.k) f):=iB _ B 9 _ _ _ h1;exact⟨rfl,iB _ B 10 _ _ _ h2,(((Below.only HB).setCell _ _).setCell _ _).setCell _ _⟩
theorem aKA(d:uV c):xJ (jS c)<=1048576:=by have e:=jK (jS c);have f:=vM (jS c);have g:=d.sz;omega
def z9:List aT:=pR (aC aP 0) (aA none 0 0) (aA none 0 0) (aA none 0 0) (aC aP 0) (aA none 0 0) (aC aP 0) (aC aP 0) (aC aP 0)
def OpP(d:Nat)(c:Cp)(w:aS)(e:Ending)(w':aS):Prop:=e=aO aI/\∃f g,lN w' d (gR c) (aA f 4 g) z9/\D0 w' d f (jS c)/\eN d w w'
theorem aGt{k:Nat}{t:ByteArray}(h:lN w e s qN z9)(f:0<k)(d:w.cell? (e,k)=some (aB t)):False:=by
 unfold World.cell? at d;rw[show w.heap[e]?=_ from h]at d;match k,f with
 |1,_=>cases d
 |2,_=>cases d
 |3,_=>cases d
 |4,_=>cases d
 |5,_=>cases d
 |6,_=>cases d
 |7,_=>cases d
 |8,_=>cases d
 |9,_=>cases d
 |10,_=>cases d
 |k+11,_=>cases d
theorem aEb(B:Nat)(c:Cp)(w:aS)(X:lN w B (gR c) qN z9)(O:uV c):qK 53 #[qP B 0] w (OpP B c w):=by
 have R:oX (gR c)=(jS c,0):=X4 (SQ c) (aKA O);have D:=eC (U6 (gR c) w (by show(p9 (jS c)).length<=1048576;exact O.sz) (by rw[R]));unfold aHF at D;rw[R]at D;have j:=nS X;have y:=eC (λW=>aCj W);obtain⟨Q,M⟩:=eR (OpP B c w);rw[M];have HQ:=eC M;have HX:=eC X;clear X O M R;generalize Y:gR c=S at j D;have HS:=eC Y;clear Y;go_enter func53,ntmps53;go_wp2_with fail;refine D.mono ?_;rintro e x⟨⟨u,cc,rfl,U⟩,N⟩;have J:=HX.later N;have y2:=rI J;have f2:=tK J;have aa:Hid (D0 x B u (jS c)):=eC ⟨U,λad ac e=>by
  obtain h|⟨b,off,rfl,_,h⟩:=U
  .cases h
  .cases ac
   subst e
   exact aGt J zO (h 0 _ rfl).2⟩;have ab:=eC J;have HB:=eC N;have Z:(jS c).length=4:=rfl;rw[Z];clear J U N j D Z;go_wp2_with(go_at_call 130;refine(y _).mono ?_;rintro e w9⟨rfl,f⟩;rw[<-f];clear f);rw[<-HQ];exact⟨rfl,u,cc,iB x B 1 _ _ _ ab,aa.only ((eN.refl _ _).setCell _ _),(Below.only HB).setCell _ _⟩
theorem aEl(O:Nat)(c:Cp)(s:ByteArray)(W:Option Addr)(X:Nat)(Y:List aT)(w:aS)(U:lN w O s (aA W 4 X) Y)(N:D0 w O W (jS c)):
  qK 54 #[qP O 0] w λe w'=>e=aO aI/\Bl w w':=by
 have f:=rI U;obtain⟨b,J,rfl,_⟩:=N.cell (i:=0) rfl;change Hid _ at N;clear U;go_enter func54,ntmps54;go_wp2_with fail;go_loopw [17] (λi wr=>∃k:Nat,k<=4/\i=qI k/\Hid (Bl w wr)) (λi _=>4-(aW i).toNat)
 case atStart=>exact⟨0,zO,rfl,eC (iL _ _)⟩
 case round=>
  obtain⟨k,Z,rfl,B⟩:=hrel;have D:=N.later B.out;obtain rfl|rfl|rfl|rfl|rfl:k=0\/k=1\/k=2\/k=3\/k=4:=zO
  .obtain⟨_,_,he,x0,x1⟩:=D.cell (i:=0) rfl;cases he;have R:wr.cell? (b,J)=some (qI 1):=by simpa using x0
   have M:wr.cell? (b,J+1)=some (aB (eH (FE c.p))):=by simpa using x1
   generalize eH (FE c.p)=S at M;clear x0 x1 D;go_wp2_with fail;go_roundw
   case rel=>exact⟨1,zO,rfl,eC (B.out.alloc B.out.size _)⟩
   case measure=>simp[aW]
  .obtain⟨_,_,he,x0,x1⟩:=D.cell (i:=1) rfl;cases he;have R:wr.cell? (b,J+2)=some (qI 2):=by simpa using x0
   have M:wr.cell? (b,J+2+1)=some (aB (eH (fP c.T c.F))):=by simpa using x1
   generalize eH (fP c.T c.F)=S at M;clear x0 x1 D;go_wp2_with fail;go_roundw
   case rel=>exact⟨2,zO,rfl,eC (B.out.alloc B.out.size _)⟩
   case measure=>simp[aW]
  .obtain⟨_,_,he,x0,x1⟩:=D.cell (i:=2) rfl;cases he;have R:wr.cell? (b,J+4)=some (qI 3):=by simpa using x0
   have M:wr.cell? (b,J+4+1)=some (aB (eH (MC c.ms))):=by simpa using x1
   generalize eH (MC c.ms)=S at M;clear x0 x1 D;go_wp2_with fail;go_roundw
   case rel=>exact⟨3,zO,rfl,eC (B.out.alloc B.out.size _)⟩
   case measure=>simp[aW]
  .obtain⟨_,_,he,x0,x1⟩:=D.cell (i:=3) rfl;cases he;have R:wr.cell? (b,J+6)=some (qI 4):=by simpa using x0
   have M:wr.cell? (b,J+6+1)=some (aB (eH (VP c.sc))):=by simpa using x1
   generalize eH (VP c.sc)=S at M;clear x0 x1 D;go_wp2_with fail;go_roundw
   case rel=>exact⟨4,zO,rfl,eC (B.out.alloc B.out.size _)⟩
   case measure=>simp[aW]
  .go_wp2_with fail;go_ret;exact⟨rfl,B.out⟩
theorem aAe(O:Nat)(A:CA)(c:Cp)(s:ByteArray)(U:aT)(w:aS)(N:lN w O s U (fU A c).toList)(J:kW w A c)(D:uV c):
  qK 59 #[qP O 0] w λe w'=>e=aO aI/\Bl w w':=by have B:=eC (uZ A c w J D.ok);rw[D.odd]at B;have R:=eC (λW=>aCj W);obtain⟨-,-,X,Y,Z,f,j,u,x,y,c8⟩:=aI4 N;unfold tR fU at B;clear N J D;go_enter func59,ntmps59;go_wp2_with fail;refine B.mono ?_;rintro e w1⟨rfl,S⟩;go_wp2_with(go_at_call 130;refine(R _).mono ?_;rintro e w9⟨rfl,M⟩;rw[<-M];clear M);go_ret;exact⟨rfl,S⟩
theorem aI3(x:aT)(w:aS):qK 60 #[aI,x] w λe w'=>e=aO (aG false)/\w=w':=by go_enter func60,ntmps60;go_wp2;go_ret;exact⟨rfl,rfl⟩
theorem sY{α:Type}{K:lL α}{E:aX}{v:aT}{L:List α}(h:eD K E n w v L)(hE:E≠102)(ht:∀t,K.tags t->t≠102)(hb:lN w i s lv ys)(ho:eN i w w'):eD K E n w' v L:=by
 have j:∀(k:Nat)(f:Array aT)(t:aX)(z:Nat×Nat),w.heap[k]?=some (aK f t z)->t≠102->w'.heap[k]?=w.heap[k]?:=λk f t z d g=>ho.block k (fB.1 d).1 λe=>by rw[e,show w.heap[i]?=_ from hb]at d;cases d;exact g rfl
 exact h.on (λk d=>by obtain⟨f,hc⟩:=h.tag k d;exact j k _ _ _ hc hE) λx _ vs hv=>K.on hv λk f t z d g=>j k f t z d (ht t g)
theorem MM{a:Option Addr}{L:List (List Int)}(h:fZ n w a L)(i:e<n)(d:eN e w w'):fZ n w' a L:=h.on d.size λk g f=>d.block k f zO
def DS(e n:Nat)(c:Cp)(k:Nat)(wr:aS):Prop:=match k with
 |0=>lN wr e (gR c) (aA none 0 0) z9
 |1=>∃d j,lN wr e (gR c) (aA d 4 j) (pR (aC aP 0) (aA none 0 0) (aA none 0 0) (aA none 0 0) (aC aP 0) (aA none 0 0) (aC aP 0) (aC aP 0) (aC aP 0))/\D0 wr e d (jS c)
 |2=>∃d j,lN wr e (gR c) (aA d 4 j) (pR (aC aP 0) (aA none 0 0) (aA none 0 0) (aA none 0 0) (aC aP 0) (aA none 0 0) (aC aP 0) (aC aP 0) (aC aP 0))/\D0 wr e d (jS c)
 |3=>∃d j f h g i,lN wr e (gR c) (aA d 4 j) (pR (aC aP c.p.pa) (aA f c.p.vs.length h) (aA g c.p.bd.length i) (aA none 0 0) (aC aP 0) (aA none 0 0) (aC aP 0) (aC aP 0) (aC aP 0))/\D0 wr e d (jS c)/\eD kI 3 n wr (aA f c.p.vs.length h) c.p.vs/\eD kP 54 n wr (aA g c.p.bd.length i) c.p.bd
 |4=>∃d j f h g i m s,lN wr e (gR c) (aA d 4 j) (pR (aC aP c.p.pa) (aA f c.p.vs.length h) (aA g c.p.bd.length i) (aA m c.T.length s) (aC aP c.F) (aA none 0 0) (aC aP 0) (aC aP 0) (aC aP 0))/\D0 wr e d (jS c)/\eD kI 3 n wr (aA f c.p.vs.length h) c.p.vs/\eD kP 54 n wr (aA g c.p.bd.length i) c.p.bd/\fZ n wr m c.T
 |5=>∃d j f h g i m s q r,lN wr e (gR c) (aA d 4 j) (pR (aC aP c.p.pa) (aA f c.p.vs.length h) (aA g c.p.bd.length i) (aA m c.T.length s) (aC aP c.F) (aA q c.ms.length r) (aC aP 0) (aC aP 0) (aC aP 0))/\D0 wr e d (jS c)/\eD kI 3 n wr (aA f c.p.vs.length h) c.p.vs/\eD kP 54 n wr (aA g c.p.bd.length i) c.p.bd/\fZ n wr m c.T/\eD kM 42 n wr (aA q c.ms.length r) c.ms
 |6=>∃d j f h g i m s q r,lN wr e (gR c) (aA d 4 j) (pR (aC aP c.p.pa) (aA f c.p.vs.length h) (aA g c.p.bd.length i) (aA m c.T.length s) (aC aP c.F) (aA q c.ms.length r) (aC aP c.sc.a) (aC aP c.sc.k) (aC aP c.sc.t))/\D0 wr e d (jS c)/\eD kI 3 n wr (aA f c.p.vs.length h) c.p.vs/\eD kP 54 n wr (aA g c.p.bd.length i) c.p.bd/\fZ n wr m c.T/\eD kM 42 n wr (aA q c.ms.length r) c.ms
 |_=>∃d j f h g i m s q r,lN wr e (gR c) (aA d 4 j) (pR (aC aP c.p.pa) (aA f c.p.vs.length h) (aA g c.p.bd.length i) (aA m c.T.length s) (aC aP c.F) (aA q c.ms.length r) (aC aP c.sc.a) (aC aP c.sc.k) (aC aP c.sc.t))/\D0 wr e d (jS c)/\eD kI 3 n wr (aA f c.p.vs.length h) c.p.vs/\eD kP 54 n wr (aA g c.p.bd.length i) c.p.bd/\fZ n wr m c.T/\eD kM 42 n wr (aA q c.ms.length r) c.ms
structure rG(n:Nat)(W:aS)(A:CA)(c:Cp):Prop where
 vs:eD kI 3 n W (aA A.va c.p.vs.length A.vc) c.p.vs
 bd:eD kP 54 n W (aA A.ba c.p.bd.length A.bc) c.p.bd
 rows:fZ n W A.ta c.T
 muts:eD kM 42 n W (aA A.ma c.ms.length A.mc) c.ms
theorem rG.at{n:Nat}{W:aS}{A:CA}{c:Cp}(h:rG n W A c):kW W A c:=by
 have f:eS kI W A.va c.p.vs:=by obtain⟨a,c,e,d⟩:=eL h.vs;cases e;exact d
 have g:eS kP W A.ba c.p.bd:=by obtain⟨a,c,e,d⟩:=eL h.bd;cases e;exact d
 have i:eS kM W A.ma c.ms:=by obtain⟨a,c,e,d⟩:=eL h.muts;cases e;exact d
 exact⟨⟨f,nG.2 g,(lR h.vs).1,(lR h.vs).2,(lR h.bd).1,(lR h.bd).2⟩,h.rows.at,i⟩
theorem rG.later{n:Nat}{W e:aS}{A:CA}{c:Cp}(h:rG n W A c)(d:Bl W e):rG n e A c:=⟨h.vs.later d,h.bd.later d,h.rows.later d,h.muts.later d⟩
theorem rG.mono{n m:Nat}{W:aS}{A:CA}{c:Cp}(h:rG n W A c)(hm:m<=n):rG m W A c:=⟨h.vs.mono hm,h.bd.mono hm,h.rows.mono hm,h.muts.mono hm⟩
theorem rG.box{e:aS}{A:CA}{i:Array aT}(h:rG n W A c)(f:qB W b i 33)(q:b<n)(j:W<=(e:Nat))(d:∀k,k≠b->e.heap[k]?=W.heap[k]?):rG n e A c:=
 ⟨fJ h.vs zD (λt g=>g.elim) f d,fJ h.bd zD (λt g=>g.elim) f d,h.rows.on j λk m _=>d k zO,fJ h.muts zD E8 f d⟩
def aIw(c:Cp)(w:aS)(e:Ending)(w':aS):Prop:=∃A:CA,e=aO (aF #[tR A c,aC aP 0])/\rG (w:Nat) w' A c/\aV (w:Nat) w w'
theorem F1(c:Cp)(w:aS)(ho:uV c)(al:(fP c.T c.F).length<=1048576)(am:(MC c.ms).length<=100000):qK 16 #[aB (gR c)] w (aIw c w):=by
 have ar:=IZ;obtain⟨W,hW⟩:=eR (((w.alloc (aK #[qI 0,qN,qN,qN,qI 0,qN,qI 0,qI 0,qI 0] 33)).alloc (aK #[aB (gR c),qN,qI 0,qN,qN,qN,qI 0,qN,qI 0,qI 0,qI 0] 102)).alloc (aK #[aD (.func 53) #[qP ((w:Nat)+1) 0] #[],aD (.func 54) #[qP ((w:Nat)+1) 0] #[],aD (.func 55) #[qP ((w:Nat)+1) 0] #[],aD (.func 56) #[qP ((w:Nat)+1) 0] #[],aD (.func 57) #[qP ((w:Nat)+1) 0] #[],aD (.func 58) #[qP ((w:Nat)+1) 0] #[],aD (.func 59) #[qP ((w:Nat)+1) 0] #[]] 103));obtain⟨r0,r1,r2,aj,ah⟩:=B0 hW;have ap:Hid (lN W ((w:Nat)+1) (gR c) qN z9):=eC r1;have af:=eC (λx U=>aI3 x U);obtain⟨Q,hQ⟩:=eR (aIw c w);rw[hQ];change Hid _ at r0 r2 aj ah ho al am hQ;clear r1;obtain⟨S,hS⟩:=eR (gR c);rw[hS]at hW|-;change Hid _ at hS hW;go_enter func16,ntmps16;go_wp2_with fail;(try rw[hW])
 have HF:Hid (∀wr,eN ((w:Nat)+1) W wr->wr.heap[(w:Nat)+1+1]?=W.heap[(w:Nat)+1+1]?/\wr.heap[(w:Nat)]?=W.heap[(w:Nat)]?):=eC (λwr h=>⟨h.block _ (by have:=ah.out;omega) zO,h.block _ (by have:=ah.out;omega) zO⟩);go_loopw [27] (λi wr=>∃k:Nat,k<=7/\i=qI k/\Hid (DS ((w:Nat)+1) W c k wr)/\Hid (eN ((w:Nat)+1) W wr)) (λi _=>7-(aW i).toNat)
 case atStart=>exact⟨0,zO,rfl,eC ap,eC (eN.refl _ W)⟩
 case round=>
  obtain⟨k,hk,rfl,HD,HN⟩:=hrel;have ak:Hid (w+1<(W:Nat)):=eC (by have:=ah.out;omega);have ai:=eC HN.out.size;obtain rfl|rfl|rfl|rfl|rfl|rfl|rfl|rfl:k=0\/k=1\/k=2\/k=3\/k=4\/k=5\/k=6\/k=7:=zO
  .have CE:=eC (λU(B:Bl wr U)=>show qK _ _ U (λe w'=>e=aO aI/\eN ((w:Nat)+1) U w'/\DS ((w:Nat)+1) W c 1 w')from(aEb ((w:Nat)+1) c U (lN.later (show lN wr ((w:Nat)+1) (gR c) qN z9 from HD.out) B) ho).mono (by rintro e w'⟨rfl,D,J,ae,aq,f⟩;exact⟨rfl,f,⟨D,J,ae,aq⟩⟩));have hf:=kG wr _ 0 _ _ _ ((HF wr HN.out).1.trans r2);go_wp2_with fail;refine(CE _ zH).mono ?_;rintro e w3⟨rfl,y,u⟩;have ab:=eC u;have ac:Hid (eN ((w:Nat)+1) W w3):=eC (HN.out.trans ((Below.only zH).trans y));clear y u hf;go_wp2_with(go_at_call 60;refine(af _ _).mono ?_;rintro e w9⟨rfl,aa⟩;rw[<-aa];clear aa);go_roundw
   case rel=>exact⟨1,zO,rfl,ab,ac⟩
   case measure=>simp[aW]
  .obtain⟨D,J,X,Z⟩:∃D J,lN wr ((w:Nat)+1) (gR c) (aA D 4 J) (pR (qI 0) qN qN qN (qI 0) qN (qI 0) (qI 0) (qI 0))/\D0 wr ((w:Nat)+1) D (jS c):=HD.out;have CE:=eC (λU(B:Bl wr U)=>show qK _ _ U (λe w'=>e=aO aI/\eN ((w:Nat)+1) U w'/\DS ((w:Nat)+1) W c 2 w')from(aEl ((w:Nat)+1) c (gR c) D J _ U (X.later B) (Z.later B)).mono (by rintro e w'⟨rfl,hb⟩;exact⟨rfl,Below.only hb,⟨D,J,(X.later B).later hb,(Z.later B).later hb⟩⟩));have hf:=kG wr _ 1 _ _ _ ((HF wr HN.out).1.trans r2);clear X Z;go_wp2_with fail;refine(CE _ zH).mono ?_;rintro e w3⟨rfl,y,u⟩;have ab:=eC u;have ac:Hid (eN ((w:Nat)+1) W w3):=eC (HN.out.trans ((Below.only zH).trans y));clear y u hf;go_wp2_with(go_at_call 60;refine(af _ _).mono ?_;rintro e w9⟨rfl,aa⟩;rw[<-aa];clear aa);go_roundw
   case rel=>exact⟨2,zO,rfl,ab,ac⟩
   case measure=>simp[aW]
  .obtain⟨D,J,X,Z⟩:∃D J,lN wr ((w:Nat)+1) (gR c) (aA D 4 J) (pR (qI 0) qN qN qN (qI 0) qN (qI 0) (qI 0) (qI 0))/\D0 wr ((w:Nat)+1) D (jS c):=HD.out;have CE:=eC (λU(B:Bl wr U)=>show qK _ _ U (λe w'=>e=aO aI/\eN ((w:Nat)+1) U w'/\DS ((w:Nat)+1) W c 3 w')from(aFh ((w:Nat)+1) c (gR c) D J _ _ _ _ _ _ _ _ _ U (X.later B) (Z.later B) ho).mono (by rintro e w'⟨rfl,v1,v2,ae,p1,p2,f⟩;obtain⟨M,O,rfl,_⟩:=eL p1;obtain⟨N,R,rfl,_⟩:=eL p2;exact⟨rfl,f,⟨D,J,M,O,N,R,ae,(Z.later B).only f,p1.mono (fA ai B.size),p2.mono (fA ai B.size)⟩⟩));have hf:=kG wr _ 2 _ _ _ ((HF wr HN.out).1.trans r2);clear X Z;go_wp2_with fail;refine(CE _ zH).mono ?_;rintro e w3⟨rfl,y,u⟩;have ab:=eC u;have ac:Hid (eN ((w:Nat)+1) W w3):=eC (HN.out.trans ((Below.only zH).trans y));clear y u hf;go_wp2_with(go_at_call 60;refine(af _ _).mono ?_;rintro e w9⟨rfl,aa⟩;rw[<-aa];clear aa);go_roundw
   case rel=>exact⟨3,zO,rfl,ab,ac⟩
   case measure=>simp[aW]
  .obtain⟨D,J,M,O,N,R,X,Z,o1,o2⟩:∃D J M O N R,lN wr ((w:Nat)+1) (gR c) (aA D 4 J) (pR (qI c.p.pa) (aA M c.p.vs.length O) (aA N c.p.bd.length R) qN (qI 0) qN (qI 0) (qI 0) (qI 0))/\D0 wr ((w:Nat)+1) D (jS c)/\eD kI 3 W wr (aA M c.p.vs.length O) c.p.vs/\eD kP 54 W wr (aA N c.p.bd.length R) c.p.bd:=HD.out;have CE:=eC (λU(B:Bl wr U)=>show qK _ _ U (λe w'=>e=aO aI/\eN ((w:Nat)+1) U w'/\DS ((w:Nat)+1) W c 4 w')from(aA3 ((w:Nat)+1) c (gR c) D J _ _ _ _ _ _ _ _ _ U (X.later B) (Z.later B) ho al).mono (by rintro e w'⟨rfl,Y,j,ae,p3,f⟩;exact⟨rfl,f,⟨D,J,M,O,N,R,Y,j,ae,(Z.later B).only f,(sY (o1.later B) zD (λt ht=>ht.elim) (X.later B) f),(sY (o2.later B) zD (λt ht=>ht.elim) (X.later B) f),p3.mono (fA ai B.size)⟩⟩));have hf:=kG wr _ 3 _ _ _ ((HF wr HN.out).1.trans r2);clear X Z o1 o2;go_wp2_with fail;refine(CE _ zH).mono ?_;rintro e w3⟨rfl,y,u⟩;have ab:=eC u;have ac:Hid (eN ((w:Nat)+1) W w3):=eC (HN.out.trans ((Below.only zH).trans y));clear y u hf;go_wp2_with(go_at_call 60;refine(af _ _).mono ?_;rintro e w9⟨rfl,aa⟩;rw[<-aa];clear aa);go_roundw
   case rel=>exact⟨4,zO,rfl,ab,ac⟩
   case measure=>simp[aW]
  .obtain⟨D,J,M,O,N,R,Y,j,X,Z,o1,o2,o3⟩:∃D J M O N R Y j,lN wr ((w:Nat)+1) (gR c) (aA D 4 J) (pR (qI c.p.pa) (aA M c.p.vs.length O) (aA N c.p.bd.length R) (aA Y c.T.length j) (qI c.F) qN (qI 0) (qI 0) (qI 0))/\D0 wr ((w:Nat)+1) D (jS c)/\eD kI 3 W wr (aA M c.p.vs.length O) c.p.vs/\eD kP 54 W wr (aA N c.p.bd.length R) c.p.bd/\fZ W wr Y c.T:=HD.out;have CE:=eC (λU(B:Bl wr U)=>show qK _ _ U (λe w'=>e=aO aI/\eN ((w:Nat)+1) U w'/\DS ((w:Nat)+1) W c 5 w')from(aDL ((w:Nat)+1) c (gR c) D J _ _ _ _ _ _ _ _ _ U (X.later B) (Z.later B) ho am).mono (by rintro e w'⟨rfl,v,ae,p4,f⟩;obtain⟨ma,mc,rfl,_⟩:=eL p4;exact⟨rfl,f,⟨D,J,M,O,N,R,Y,j,ma,mc,ae,(Z.later B).only f,(sY (o1.later B) zD (λt ht=>ht.elim) (X.later B) f),(sY (o2.later B) zD (λt ht=>ht.elim) (X.later B) f),(MM (o3.later B) ak f),p4.mono (fA ai B.size)⟩⟩));have hf:=kG wr _ 4 _ _ _ ((HF wr HN.out).1.trans r2);clear X Z o1 o2 o3;go_wp2_with fail;refine(CE _ zH).mono ?_;rintro e w3⟨rfl,y,u⟩;have ab:=eC u;have ac:Hid (eN ((w:Nat)+1) W w3):=eC (HN.out.trans ((Below.only zH).trans y));clear y u hf;go_wp2_with(go_at_call 60;refine(af _ _).mono ?_;rintro e w9⟨rfl,aa⟩;rw[<-aa];clear aa);go_roundw
   case rel=>exact⟨5,zO,rfl,ab,ac⟩
   case measure=>simp[aW]
  .obtain⟨D,J,M,O,N,R,Y,j,ma,mc,X,Z,o1,o2,o3,o4⟩:∃D J M O N R Y j ma mc,lN wr ((w:Nat)+1) (gR c) (aA D 4 J) (pR (qI c.p.pa) (aA M c.p.vs.length O) (aA N c.p.bd.length R) (aA Y c.T.length j) (qI c.F) (aA ma c.ms.length mc) (qI 0) (qI 0) (qI 0))/\D0 wr ((w:Nat)+1) D (jS c)/\eD kI 3 W wr (aA M c.p.vs.length O) c.p.vs/\eD kP 54 W wr (aA N c.p.bd.length R) c.p.bd/\fZ W wr Y c.T/\eD kM 42 W wr (aA ma c.ms.length mc) c.ms:=HD.out;have CE:=eC (λU(B:Bl wr U)=>show qK _ _ U (λe w'=>e=aO aI/\eN ((w:Nat)+1) U w'/\DS ((w:Nat)+1) W c 6 w')from(aAA ((w:Nat)+1) c (gR c) D J _ _ _ _ _ _ _ _ _ U (X.later B) (Z.later B) ho).mono (by rintro e w'⟨rfl,ae,f⟩;exact⟨rfl,f,⟨D,J,M,O,N,R,Y,j,ma,mc,ae,(Z.later B).only f,(sY (o1.later B) zD (λt ht=>ht.elim) (X.later B) f),(sY (o2.later B) zD (λt ht=>ht.elim) (X.later B) f),(MM (o3.later B) ak f),(sY (o4.later B) zD aHT (X.later B) f)⟩⟩));have hf:=kG wr _ 5 _ _ _ ((HF wr HN.out).1.trans r2);clear X Z o1 o2 o3 o4;go_wp2_with fail;refine(CE _ zH).mono ?_;rintro e w3⟨rfl,y,u⟩;have ab:=eC u;have ac:Hid (eN ((w:Nat)+1) W w3):=eC (HN.out.trans ((Below.only zH).trans y));clear y u hf;go_wp2_with(go_at_call 60;refine(af _ _).mono ?_;rintro e w9⟨rfl,aa⟩;rw[<-aa];clear aa);go_roundw
   case rel=>exact⟨6,zO,rfl,ab,ac⟩
   case measure=>simp[aW]
  .obtain⟨D,J,M,O,N,R,Y,j,ma,mc,X,Z,o1,o2,o3,o4⟩:∃D J M O N R Y j ma mc,lN wr ((w:Nat)+1) (gR c) (aA D 4 J) (pR (qI c.p.pa) (aA M c.p.vs.length O) (aA N c.p.bd.length R) (aA Y c.T.length j) (qI c.F) (aA ma c.ms.length mc) (qI c.sc.a) (qI c.sc.k) (qI c.sc.t))/\D0 wr ((w:Nat)+1) D (jS c)/\eD kI 3 W wr (aA M c.p.vs.length O) c.p.vs/\eD kP 54 W wr (aA N c.p.bd.length R) c.p.bd/\fZ W wr Y c.T/\eD kM 42 W wr (aA ma c.ms.length mc) c.ms:=HD.out;have CE:=eC (λU(B:Bl wr U)=>show qK _ _ U (λe w'=>e=aO aI/\eN ((w:Nat)+1) U w'/\DS ((w:Nat)+1) W c 7 w')from(aAe ((w:Nat)+1) ⟨M,O,N,R,Y,j,ma,mc⟩ c (gR c) (aA D 4 J) U (X.later B) (rG.at (n:=(W:Nat)) (A:=⟨M,O,N,R,Y,j,ma,mc⟩) ⟨o1.later B,o2.later B,o3.later B,o4.later B⟩) ho).mono (by rintro e w'⟨rfl,hb⟩;exact⟨rfl,Below.only hb,⟨D,J,M,O,N,R,Y,j,ma,mc,(X.later B).later hb,(Z.later B).later hb,(o1.later B).later hb,(o2.later B).later hb,(o3.later B).later hb,(o4.later B).later hb⟩⟩));have hf:=kG wr _ 6 _ _ _ ((HF wr HN.out).1.trans r2);clear X Z o1 o2 o3 o4;go_wp2_with fail;refine(CE _ zH).mono ?_;rintro e w3⟨rfl,y,u⟩;have ab:=eC u;have ac:Hid (eN ((w:Nat)+1) W w3):=eC (HN.out.trans ((Below.only zH).trans y));clear y u hf;go_wp2_with(go_at_call 60;refine(af _ _).mono ?_;rintro e w9⟨rfl,aa⟩;rw[<-aa];clear aa);go_roundw
   case rel=>exact⟨7,zO,rfl,ab,ac⟩
   case measure=>simp[aW]
  .obtain⟨D,J,M,O,N,R,Y,j,ma,mc,X,Z,o1,o2,o3,o4⟩:∃D J M O N R Y j ma mc,lN wr ((w:Nat)+1) (gR c) (aA D 4 J) (pR (qI c.p.pa) (aA M c.p.vs.length O) (aA N c.p.bd.length R) (aA Y c.T.length j) (qI c.F) (aA ma c.ms.length mc) (qI c.sc.a) (qI c.sc.k) (qI c.sc.t))/\D0 wr ((w:Nat)+1) D (jS c)/\eD kI 3 W wr (aA M c.p.vs.length O) c.p.vs/\eD kP 54 W wr (aA N c.p.bd.length R) c.p.bd/\fZ W wr Y c.T/\eD kM 42 W wr (aA ma c.ms.length mc) c.ms:=HD.out;obtain⟨-,-,y0,y1,y2,y3,y4,y5,y6,y7,y8⟩:=aI4 X;have ag:=(HF wr HN.out).2.trans r0;obtain⟨x0,x1,x2,x3,x4,x5,x6,x7,x8⟩:=pQ9 ag;have f0:=tK ag;have h9:=WY _ _ _ _ _ _ _ _ _ (qI c.p.pa) (aA M c.p.vs.length O) (aA N c.p.bd.length R) (aA Y c.T.length j) (qI c.F) (aA ma c.ms.length mc) (qI c.sc.a) (qI c.sc.k) (qI c.sc.t) ag (aj.trans (HN.out.below (n:=(w:Nat)) zO aj.size)) (eX w);have ao:=eC (rG.box (A:=⟨M,O,N,R,Y,j,ma,mc⟩) ⟨o1,o2,o3,o4⟩ ag (by have:=ah.out;omega) (uU h9.2.2.2.symm) h9.2.2.1);change Hid _ at h9;clear ag X Z o1 o2 o3 o4;go_wp2_with fail;rw[<-hQ];exact gO (eQ rfl _ _ w 33 _ (0,0) _ (qI 0) rfl h9.1 underlying33 rfl zK rfl) rfl ⟨⟨M,O,N,R,Y,j,ma,mc⟩,rfl,ao.mono aj.size,h9.2.1⟩
def l6(w:aS)(h:Nat)(d:Option Addr)(f e:Nat)(g:aT)(F:Int)(st:Nat):Prop:=w.heap[h]?=some (aK #[aA d f e,g,aC aP F,aC aP 0,aC aP 0,aC aP st,aA none 0 0] 338 (0,0))
theorem l6.later{d:Option Addr}{g:aT}(h:l6 w i d f e g F st)(j:Bl w w'):l6 w' i d f e g F st:=(j.block _ (fB.1 h).1).trans h
def L6(f:Nat)(w:aS)(d:Option Addr)(e:List Nd):Prop:=∀w',eN f w w'->eP w' d e
theorem L6.go{e:Option Addr}{f:List Nd}(h:L6 d w e f)(i:eN d w w'):L6 d w' e f:=λU g=>h U (i.trans g)
def tM(d:Nat)(f:Option Addr)(h g:Nat)(i:aT)(F:Int)(st:Nat)(E:Ending)(w:aS)(e:Ending)(w':aS):Prop:=e=E/\l6 w' d f h g i F st/\eN d w w'
def vV(d:Nat)(e:Option Addr)(f:List Nd)(g:Nat)(h:aT)(F:Int)(i:Int)(st j:Nat)(E:Ending)(X:aS->Prop):Prop:=∀U:aS,l6 U d e f.length g h F st->L6 d U e f->X U->Calls prog 278 #[aE (some ⟨d,0,none⟩),aC aP i] U (tM d e f.length g h F j E U)
def wW(d:Nat)(X:aS->Prop):Prop:=∀w w',X w->eN d w w'->X w'
theorem aB8(B:Nat)(D:Option Addr)(J:List Nd)(N:Nat)(O:aT)(F:Int)(R:Int)(st S:Nat)(k v:Int)(X:aS->Prop)(w:aS)(j:l6 w B D J.length N O F st)(f:L6 B w D J)(Z:X w)(Y:vV B D J N O F R st S (mX k v) X):
  qK 319 #[qP B 0,qI R,qI 1] w (tM B D J.length N O F S (mX k v) w):=by
 have U:=eC (Y w j f Z);clear j f Z Y;obtain⟨Q,M⟩:=eR (tM B D J.length N O F S (mX k v) w);rw[M];rw[M]at U;change Hid _ at M;go_enter func319,ntmps319;go_wp2;go_loopw [1,7,9] (λa l i wr=>a=qI R/\l=aA none 0 0/\i=qI 0/\wr=w) (λ_ _ _ _=>0)
 case atStart=>exact⟨rfl,rfl,rfl,rfl⟩
 case round=>obtain⟨rfl,rfl,rfl,rfl⟩:=hrel;go_wp2_with fail;refine U.mono ?_;rintro e y W;rw[<-M]at W;obtain⟨rfl,u,x⟩:=W;unfold mX;go_wp2_with fail;rw[<-M];exact⟨rfl,rfl,u,x⟩
theorem aBr(B:Nat)(J:Option Addr)(M:List Nd)(N:Nat)(O:aT)(F:Int)(D:Int)(st S:Nat)(k v:Int)(X:aS->Prop)(w:aS)(u:l6 w B J M.length N O F st)(j:L6 B w J M)(f:X w)(Z:wW B X)(Y:vV B J M N O F (D+1) st S (mX k v) X)(ht:D+1<=1000000)(aa:0<=D):
  qK 321 #[qP B 0,aH #[qI 20,qI 1],qI D] w (tM B J M.length N O F S (mX k v) w):=by
 have ab:aP.wrap (D+1)=D+1:=by rw[iA];omega
 obtain⟨W,hW,R,-⟩:=lB w (aK #[qI 20,qI 1] 54);have c0:W.cell? (w,0)=some (qI 20):=by rw[<-hW];exact kG _ _ 0 _ _ _ (fG w _)
 have c1:W.cell? (w,1)=some (qI 1):=by rw[<-hW];exact kG _ _ 1 _ _ _ (fG w _)
 have x:=eC (aB8 B J M N O F (D+1) st S k v X W (u.later R) (j.go (Below.only R)) (Z _ _ f (Below.only R)) Y);obtain⟨Q,U⟩:=eR (tM B J M.length N O F S (mX k v) w);rw[U];change Hid _ at R U;clear u j f Z Y;go_enter func321,ntmps321;go_wp2_with(first|(rw[hW])|(go_at_call 319;refine x.mono ?_;rintro e w1⟨rfl,y,h3⟩;unfold mX));rw[<-U];exact⟨rfl,rfl,y,(Below.only R).trans h3⟩
theorem aID(B:Nat)(J:Option Addr)(M:List Nd)(O:Nat)(R:aT)(F:Int)(D n:Int)(st Y:Nat)(v:Int)(X:aS->Prop)(w:aS)(y:l6 w B J M.length O R F st)(u:L6 B w J M)(j:X w)(f:wW B X)(Z:vV B J M O R F (D+1) st Y (aO (qI v)) X)(ht:D+1<=1000000)(aa:0<=D):
  qK 321 #[qP B 0,aH #[qI 25,qI n],qI D] w (tM B J M.length O R F Y (mX 0 v) w):=by
 have ab:aP.wrap (D+1)=D+1:=by rw[iA];omega
 obtain⟨W,hW,N,-⟩:=lB w (aK #[qI 25,qI n] 54);have c0:W.cell? (w,0)=some (qI 25):=by rw[<-hW];exact kG _ _ 0 _ _ _ (fG w _)
 have CK:=eC (Z W (y.later N) (u.go (Below.only N)) (f _ _ j (Below.only N)));have CE:=eC (λU=>aE7 0 v U);obtain⟨Q,S⟩:=eR (tM B J M.length O R F Y (mX 0 v) w);rw[S];change Hid _ at N S;clear y u j f Z;go_enter func321,ntmps321;go_wp2_with(first|(rw[hW])|(go_at_call 278;refine CK.mono ?_;rintro e w1⟨rfl,h2,h3⟩)|(go_at_call 315;refine(CE _).mono ?_;rintro e w9⟨rfl,x⟩;rw[<-x];clear x;unfold mX));rw[<-S];exact⟨rfl,rfl,h2,(Below.only N).trans h3⟩
theorem AC{g:Option Addr}{r:aT}{q n:Int}{e:List Nd}(s:l6 w d g e.length j r F st)(A:L6 d w g e)(k:e[f]?=some (q,n))(hf:(st:Int)<F):∃b m W i,g=some ⟨b,m,none⟩/\qS w.drew (d,5) (qI ((st:Int)+1))=W/\W.alloc (aK #[qI q,qI n] 54)=i/\w.drew.cell? (d,2)=some (qI F)/\w.drew.cell? (d,5)=some (qI st)/\w.drew.frozen? (d,5)=false/\decide ((st:Int)>=F)=false/\W.cell? (d,0)=some (aA g e.length j)/\W.cell? (qP b (m+f*2))=some (qI q)/\W.cell? (qP b (m+f*2+1))=some (qI n)/\(0:Int)<=(f:Int)/\(f:Int)<(e.length:Int)/\i.cell? (qP W 0)=some (qI q)/\i.cell? (qP W 1)=some (qI n)/\Hid (l6 W d g e.length j r F (st+1))/\Hid (eN d w W)/\Hid (l6 i d g e.length j r F (st+1))/\Hid (eN d w i):=by
 have x:l6 (qS w.drew (d,5) (qI ((st:Int)+1))) d g e.length j r F (st+1):=iB w.drew d 5 _ _ _ s;have u:eN d w (qS w.drew (d,5) (qI ((st:Int)+1))):=(eN.refl d w).drew.setCell _ _;generalize hW:qS w.drew (d,5) (qI ((st:Int)+1))=W at*;have B:f<e.length:=(gX.1 k).1;obtain h|⟨b,m,rfl,_,h⟩:=A W u
 .rw[h]at k;simp at k
 .have y:Bl W (W.alloc (aK #[qI q,qI n] 54)):=fL W _;exact⟨b,m,W,_,rfl,rfl,rfl,uI s,F7 s,g8 w _ 5 _ _ s,zT,nS x,(h f _ k).1,(h f _ k).2,zO,zO,kG _ _ 0 _ _ _ (fG W _),kG _ _ 1 _ _ _ (fG W _),x,u,x.later y,u.trans (Below.only y)⟩
theorem aGy(B:Nat)(M:Option Addr)(N:Nat)(O:aT)(F:Int)(st J:Nat)(D:List Nd)(n:Int)(w:aS)(Z:l6 w B M D.length N O F st)(Y:L6 B w M D)(X:D[J]?=some (1,n))(hf:(st:Int)<F)(hs:st<100000)(ha:J<=100000):
  qK 278 #[qP B 0,qI J] w (tM B M D.length N O F (st+1) (aO (qI n)) w):=by obtain⟨b,y,W,W5,rfl,hW,S,u,x,f5,d1,g0,n1,n2,i1,i2,p0,p1,ab,aa,j,f⟩:=AC Z Y X hf;obtain⟨Q,R⟩:=eR (tM B (some (b,y)) D.length N O F (st+1) (aO (qI n)) w);rw[R];change Hid _ at S R;clear Z Y X;go_enter func278,ntmps278;go_wp2_with fail;go_region_held3(λU=>qC U B 2 (qI F)/\qC U B 5 (qI st)) (first|(with_reducible assumption)|exact⟨u,x⟩) (fail);go_wp2_with(rw[S]);rw[<-R];exact⟨rfl,j.out,f.out⟩
theorem aGK(B:Nat)(O:Option Addr)(M:Nat)(N:aT)(F:Int)(st J:Nat)(D:List Nd)(n:Int)(w:aS)(hx:l6 w B O D.length M N F st)(f:L6 B w O D)(y:D[J]?=some (25,n))(hf:(st:Int)<F)(hs:st<100000)(ha:J<=100000)(R:Nat)(v:Int)(X:aS->Prop)(x:X w)(Z:wW B X)(j:vV B O D M N F ((J:Int)+1) (st+1) R (aO (qI v)) X):
  qK 278 #[qP B 0,qI J] w (tM B O D.length M N F R (mX 0 v) w):=by obtain⟨b,aa,W,W5,rfl,hW,u,e2,e5,f5,d1,g0,n1,n2,i1,i2,p0,p1,ae,ac,ab,S⟩:=AC hx f y hf;have CD:=eC (aID B (some (b,aa)) D M N F J n (st+1) R v X W5 ab.out (f.go S.out) (Z _ _ x S.out) Z j zO zO);obtain⟨Q,Y⟩:=eR (tM B (some (b,aa)) D.length M N F R (mX 0 v) w);rw[Y];change Hid _ at u Y;clear hx f y x Z j;go_enter func278,ntmps278;go_wp2_with fail;go_region_held3(λU=>qC U B 2 (qI F)/\qC U B 5 (qI st)) (first|(with_reducible assumption)|exact⟨e2,e5⟩) (fail);go_wp2_with(first|(rw[u])|(go_at_call 321;refine CD.mono ?_;rintro e w1⟨rfl,h2,h3⟩;unfold mX));rw[<-Y];exact⟨rfl,rfl,h2,S.out.trans h3⟩
theorem aDT(B:Nat)(O:Option Addr)(M:Nat)(N:aT)(F:Int)(st J:Nat)(D:List Nd)(w:aS)(hx:l6 w B O D.length M N F st)(f:L6 B w O D)(y:D[J]?=some (20,1))(hf:(st:Int)<F)(hs:st<100000)(ha:J<=100000)(R:Nat)(k v:Int)(X:aS->Prop)(x:X w)(Z:wW B X)(j:vV B O D M N F ((J:Int)+1) (st+1) R (mX k v) X):
  qK 278 #[qP B 0,qI J] w (tM B O D.length M N F R (mX k v) w):=by obtain⟨b,aa,W,W5,rfl,hW,u,e2,e5,f5,d1,g0,n1,n2,i1,i2,p0,p1,ae,ac,ab,S⟩:=AC hx f y hf;have CD:=eC (aBr B (some (b,aa)) D M N F J (st+1) R k v X W5 ab.out (f.go S.out) (Z _ _ x S.out) Z j zO zO);obtain⟨Q,Y⟩:=eR (tM B (some (b,aa)) D.length M N F R (mX k v) w);rw[Y];change Hid _ at u Y;clear hx f y x Z j;go_enter func278,ntmps278;go_wp2_with fail;go_region_held3(λU=>qC U B 2 (qI F)/\qC U B 5 (qI st)) (first|(with_reducible assumption)|exact⟨e2,e5⟩) (fail);go_wp2_with(first|(rw[u])|(go_at_call 321;refine CD.mono ?_;rintro e w1⟨rfl,h2,h3⟩;unfold mX));rw[<-Y];exact⟨rfl,rfl,h2,S.out.trans h3⟩
def XV(d co g:Nat)(x:Int)(U:aS):Prop:=U.cell? ⟨d,co,none⟩=some (.iface 343 (aH #[aE (some ⟨g,0,none⟩)]))/\U.cell? ⟨g,0,none⟩=some (aC aP x)
theorem XV.stays(i:d≠e)(j:g≠e):wW e (XV d co g x):=λw w' h f=>
 ⟨(lA (w:=w) (a:=(d,co)) (f.block d (oF w _ h.1) i)).trans h.1,(lA (w:=w) (a:=(g,0)) (f.block g (oF w _ h.2) j)).trans h.2⟩
theorem aBA(M D co U g:Nat)(x:Int)(O:Option Addr)(S R:Nat)(F:Int)(st:Nat)(w:aS)(J:l6 w M O S R (aA (some (D,co)) 1 U) F st)(B:XV D co g x w):
  qK 316 #[qP M 0,qI 0,qI 0] w (Rt (qI x) w):=by have X:=rI J;have Y:=B.1;have N:=eC (aDD g 0 x w B.2);clear J B;go_enter func316,ntmps316;go_wp2_with fail;refine N.mono ?_;rintro e Z⟨rfl,W⟩;go_wp2_with fail;go_ret;exact⟨rfl,W⟩
theorem aF0(B J co N g:Nat)(R:Option Addr)(M:Nat)(F:Int)(st O:Nat)(D:List Nd)(w:aS)(hx:l6 w B R D.length M (aA (some (J,co)) 1 N) F st)(hn:L6 B w R D)(y:D[O]?=some (3,0))(hf:(st:Int)<F)(hs:st<100000)(ha:O<=100000)(x:Int)(hv:XV J co g x w)(n1:J≠B)(n2:g≠B):
  qK 278 #[qP B 0,qI O] w (tM B R D.length M (aA (some (J,co)) 1 N) F (st+1) (aO (qI x)) w):=by obtain⟨b,X,W,W5,rfl,hW,j,e2,e5,f5,d1,g0,m1,m2,i1,i2,p0,p1,ab,aa,f,Z⟩:=AC hx hn y hf;have CD:=eC (aBA B J co N g x (some (b,X)) D.length M F (st+1) W5 f.out (XV.stays n1 n2 _ _ hv Z.out));obtain⟨Q,S⟩:=eR (tM B (some (b,X)) D.length M (aA (some (J,co)) 1 N) F (st+1) (aO (qI x)) w);rw[S];change Hid _ at j S;clear hx hn y hv;go_enter func278,ntmps278;go_wp2_with fail;go_region_held3(λU=>qC U B 2 (qI F)/\qC U B 5 (qI st)) (first|(with_reducible assumption)|exact⟨e2,e5⟩) (fail);go_wp2_with(first|(rw[j])|(go_at_call 316;refine CD.mono ?_;rintro e w1⟨rfl,u⟩));have Y:=eC (show l6 w1 B (some (b,X)) D.length M (aA (some (J,co)) 1 N) F (st+1)/\eN B w w1 from⟨f.out.later u,Z.out.trans (Below.only u)⟩);rw[<-S];exact⟨rfl,Y.1,Y.2⟩
theorem Q9(k v:Int)(w:aS):(bN (RA k v) 20 414 true).run prog w=.ok (aF #[aH #[qI k,qI v],aG true]) w:=by unfold RA;simp[bN,go_sem]
theorem aA6:(prog.info? 414).map (·.zero)=some (some (aH #[qI 0,qI 0])):=zK
theorem TU(w:aS):(bN .nilIface 20 414 true).run prog w=.ok (aF #[aH #[qI 0,qI 0],aG false]) w:=by have B:=aA6;simp[bN,go_sem]
theorem F0(b:Nat)(k v:Int)(N D:aT)(S:List PanicEntry)(w:aS)(J:qB w b #[N,D] 40):
  CallsD prog 277 #[qP b 0] (.panicking ({v:=RA k v,recovered:=false}::S)) w λe X w'=>
   e=aO (aF #[])/\X=.panicking ({v:=RA k v,recovered:=true}::S)/\w'=qS (qS (w.alloc (aK #[qI k,qI v] 414)) (b,0) (qI k)) (b,1) (qI v):=by
 have O:=(fB.1 J).1
 obtain⟨W,hW⟩:=eR (w.alloc (aK #[qI k,qI v] 414))
 have B:W.heap[b]?=some (aK #[N,D] 40 (0,0)):=by rw[<-hW];exact(iI w _ b O).trans J
 have R:=aGW hW
 have Y:=nS B
 have x0:=tK B
 have M:=iB W b 0 _ _ (qI k) B
 have Z:qC (qS W (b,0) (qI k)) b 1 D:=rI M
 have x1:qF (qS W (b,0) (qI k)) b 1:=g8 _ _ 1 _ _ M
 obtain⟨f,j⟩:=pQ2 R
 clear J B R M O
 refine callsD_of_wpS func277 rfl λx u U=>?_
 simp only[ntmps277,pN,Nat.reduceAdd,Nat.reduceSub]
 apply wpS_seq
 apply wpS_region
 simp[wpOpsS,go_sem,recoverD,U,Exit.thenS,Q9,hW]
 apply wpS_seq
 apply wpS_region
 simp[wpOpsS,go_sem,Exit.thenS]
 refine wpS_cond (t:=true) (by simp[Act.eval]) ?_
 simp only[if_true]
 apply wpS_region
 simp[wpOpsS,go_sem,Y,x0,Z,x1,f,j,bodyPostS,results,results277]
theorem JU(b:Nat)(w:aS):
  CallsD prog 277 #[qP b 0] .returning w λe J w'=>e=aO (aF #[])/\J=.returning/\w'=w.alloc (aK #[qI 0,qI 0] 414):=by refine callsD_of_wpS func277 rfl λB M D=>?_;simp only[ntmps277,pN,Nat.reduceAdd,Nat.reduceSub];apply wpS_seq;apply wpS_region;simp[wpOpsS,go_sem,recoverD,D,Exit.thenS,TU];apply wpS_seq;apply wpS_region;simp[wpOpsS,go_sem,Exit.thenS];refine wpS_cond (t:=false) (by simp[Act.eval]) ?_;simp only[Bool.false_eq_true,if_false];refine wpS_of_wp (wp_skip ?_);cases B;simp_all[bodyPostS,results,results277]
def YW(d:Nat)(f:Option Addr)(h g:Nat)(i:aT)(F:Int)(st:Nat)(k v:Int)(w:aS)(e:Ending)(w':aS):Prop:=e=aO (aH #[aC aP k,aC aP v])/\l6 w' d f h g i F st/\eN d w w'
theorem eN.new{q:Nat}{u:aS}(h:eN b u w)(hq:u<=q)(o:Nat)(v:aT):eN b u (qS w (q,o) v):=⟨h.os,h.tape,h.output,by rw[aBg];exact h.size,λk d e=>by rw[eF _ zO];exact h.block k d e⟩
theorem MQ(B:Nat)(D:Option Addr)(J:List Nd)(O:Nat)(R:aT)(F:Int)(st u:Nat)(k v:Int)(X:aS->Prop)(w:aS)(j:l6 w B D J.length O R F st)(hn:L6 B w D J)(hX:X w)(hS:wW B X)(hE:vV B D J O R F 0 st u (mX k v) X):
  qK 223 #[qP B 0] w (YW B D J.length O R F u k v w):=by
 have aj:=IZ;have aa:=(fB.1 j).1;obtain⟨V,hV,M,hr,-⟩:=lB w (aK #[qI 0,qI 0] 40);have CE:=eC (hE V (j.later M) (hn.go (Below.only M)) (hS _ _ hX (Below.only M)));have x:=eC hr;have HB:=eC M;have U:=eC aa;clear j hn hX hS hE M hr aa;go_enter_defers func223,ntmps223;go_wp2_with(rw[hV]);refine CE.mono ?_;rintro e w1⟨rfl,y,Y⟩;unfold mX;have ab:=(Y.block _ (fB.1 x).1 (by have:=U.out;omega)).trans x;have W:=eC ab;have H2:=eC y;have H3:=eC Y;clear ab y Y hV;go_wp2_with fail;refine P7 (f:=277) (args:=#[qP w 0]) zS (by simp[go_sem]) ?_;refine(F0 w k v _ _ [] w1 W).mono ?_;rintro e u' ag⟨rfl,rfl,N⟩;obtain⟨W2,Z⟩:=eR (w1.alloc (aK #[qI k,qI v] 414));rw[Z]at N;have S:=DX Z;have ac:=(S.block _ (fB.1 W).1).trans W;have ae:=iB W2 w 0 _ _ (qI k) ac;have af:=iB _ w 1 _ _ (qI v) ae;rw[<-N]at af;have ai:l6 ag B D J.length O R F u:=by rw[N];unfold l6;rw[eF _ (by have:=U.out;omega),eF _ (by have:=U.out;omega)];exact H2.later S
 have ah:eN B w ag:=by rw[N];exact(((Below.only HB).trans (H3.trans (Below.only S))).new (eX _) _ _).new (eX _) _ _
 clear N Z S ac ae;obtain⟨c0,c1⟩:=pQ2 af;simp[Leaves,settle,results,results223,go_sem,c0,c1];exact⟨rfl,ai,ah⟩
theorem aEC(B:Nat)(D:Option Addr)(J:List Nd)(O:Nat)(R:aT)(F:Int)(st aa:Nat)(v:Int)(X:aS->Prop)(w:aS)(y:l6 w B D J.length O R F st)(hn:L6 B w D J)(hX:X w)(hS:wW B X)(hE:vV B D J O R F 0 st aa (aO (qI v)) X):
  qK 223 #[qP B 0] w (YW B D J.length O R F aa 3 0 w):=by
 have ag:=IZ;have S:=(fB.1 y).1;obtain⟨V,hV,M,u,-⟩:=lB w (aK #[qI 0,qI 0] 40);have CE:=eC (hE V (y.later M) (hn.go (Below.only M)) (hS _ _ hX (Below.only M)));change Hid _ at u M S;clear y hn hX hS hE;go_enter_defers func223,ntmps223;go_wp2_with(rw[hV]);refine CE.mono ?_;rintro e w1⟨rfl,h2,Z⟩;have N:=(Z.block _ (fB.1 u).1 (by have:=S.out;omega)).trans u;have W:=iB w1 w 0 _ _ (qI 3) N;obtain⟨y0,y1⟩:=pQ2 N;have x0:=tK N;change Hid _ at N h2 Z;clear hV W;go_wp2_with fail;refine P7 (f:=277) (args:=#[qP w 0]) zS (by simp[go_sem]) ?_;refine(JU w _).mono ?_;rintro e u' ac⟨rfl,rfl,Y⟩;have W:=iB w1 w 0 _ _ (qI 3) N;have x:=iB _ w 1 _ _ (qI 0) W;have j:∀U:aS,Bl U (U.alloc (aK #[qI 0,qI 0] 414)):=λU=>fL U _;have ab:=((j _).block _ (fB.1 x).1).trans x;rw[<-Y]at ab;have af:l6 ac B D J.length O R F aa:=by rw[Y];refine l6.later ?_ (j _);unfold l6;rw[eF _ (by have:=S.out;omega),eF _ (by have:=S.out;omega)];exact h2
 have ae:eN B w ac:=by rw[Y];exact((((Below.only M).trans Z).new (eX _) _ _).new (eX _) _ _).trans (Below.only (j _))
 clear Y W x;obtain⟨c0,c1⟩:=pQ2 ab;simp[Leaves,settle,results,results223,go_sem,c0,c1];exact⟨rfl,af,ae⟩
def kCl:lL aT where
 k:=1
 R:=λ_ v e=>e=[v]/\v.oneCell'=true
 len:=λh=>by rw[h.1];rfl
 one:=fun{w x e}h u d=>by
  obtain⟨rfl,f⟩:=h
  simp at d
  rw[d];exact f
 tags:=λ_=>False
 on:=λh _=>h
theorem aI1:gY prog 336 341 1 16:=gY.of underlying336 zK zO zO
def NQ(k v:Int)(st:Nat)(w:aS)(e:Ending)(w':aS):Prop:=e=aO (aF #[aH #[aC aP k,aC aP v,aC aP st,aA none 0 0],aC aP 0])/\aV (w:Nat) w w'
theorem aDz(va N aa:Option Addr)(vc O ac:Nat)(D:List Nd)(x F:Int)(av:Nat)(k v:Int)(w:aS)(hp:iE w va N vc O ⟨1,[0],D⟩)(ha:eS kI w aa [x])(hm:lV ⟨1,[0],D⟩ 1 F=0)(ae:D.length<=100000)
  (hE:∀(wb J co S g:Nat) (U:aS),J≠wb->g≠wb->l6 U wb N D.length O (aA (some ⟨J,co,none⟩) 1 S) F 0->L6 wb U N D->XV J co g x U->qK 223 #[qP wb 0] U (YW wb N D.length O (aA (some ⟨J,co,none⟩) 1 S) F av k v U)):
  qK 169 #[kE va N vc O ⟨1,[0],D⟩,aA aa 1 ac,qI F] w (NQ k v av w):=by
 obtain⟨V,hV⟩:=eR ((w.alloc (aK #[qI 1,aA va 1 vc,aA N D.length O] 25)).alloc (aK #[qI 0,qI 0,qI 0,qN] 243));obtain⟨r0,r1,a3,cf⟩:=iY hV;have u:=eC (KN va N aa vc O ac 1 ⟨1,[0],D⟩ F V (hp.later a3) (by show 1<=1000000;decide) ae);rw[hm]at u;unfold aJO at u;have CS:=eC (λU=>EB 0 U);rw[show jF 0=0 from rfl]at CS;obtain⟨y0,y1,y2⟩:=pX r0;have HP:=eC hp;have HA:=eC ha;have HE:=eC hE;have bf:=eC r0;have bg:=eC r1;have ch:=eC a3;have bk:=eC cf;obtain⟨Q,hQ⟩:=eR (NQ k v av w);rw[hQ];have HQ:=eC hQ;clear r0 r1 a3 cf hp ha hE hm hQ;unfold kE at u|-;show qK 169 #[aH #[qI 1,aA va 1 vc,aA N D.length O],aA aa 1 ac,qI F] w Q;have u:Hid (qK 207 #[aH #[qI 1,aA va 1 vc,aA N D.length O],aA aa 1 ac,qI F] V (Rt (qI 0) V)):=u;go_enter func169,ntmps169;go_wp2_with(rw[hV]);refine u.mono ?_;rintro e B⟨rfl,al⟩;have ax:=eC ((al.block _ (fB.1 bf).1).trans bf);obtain⟨y0,y1,y2⟩:=pX ax;have aw:=eC al;have be:=mG ch al;clear hV u al;obtain⟨W,hW,ao,-⟩:=lB B (aK #[aA N D.length O,qN,qI F,qI 0,qI 0,qI 0,qN] 338);have ak:Hid (l6 W B N D.length O qN F 0):=eC (by rw[<-hW];exact fG B _);have cn:=eC ((ao.block _ (fB.1 ax).1).trans ax);obtain⟨z0,z1⟩:=pQ2 cn;have aj:=mG be ao;have HW:=eC hW;have bi:=eC (λb hb=>ao.block b hb);clear hW ao;go_wp2_with(rw[HW]);clear y0 y1 y2;go_loopw [29] (λi wr=>∃n:Nat,n<=1/\i=qI n/\Hid (n=0->wr=W)/\Hid (n=1->∃J S g,l6 wr B N D.length O (aA (some ⟨J,0,none⟩) 1 S) F 0/\XV J 0 g x wr/\(W:Nat)<=J/\(W:Nat)<=g/\eN B W wr)) (λi _=>1-(aW i).toNat)
 case atStart=>exact⟨0,zO,rfl,eC λ_=>rfl,eC λh=>zO⟩
 case round=>
  obtain⟨n,hn,rfl,H0,H1⟩:=hrel;obtain rfl|rfl:n=0\/n=1:=zO
  .obtain rfl:=H0.out rfl;have b0:=(HP.later aj).1;obtain⟨vb,cL,rfl,_,b3⟩:=mD b0 (i:=0) (x:=0) rfl;obtain⟨ab,af,rfl,_,bm⟩:=mD (HA.later aj) (i:=0) (x:=x) rfl;have v0:wr.cell? ⟨vb,cL,none⟩=some (qI 0):=by simpa using b3
   have a0:wr.cell? ⟨ab,af,none⟩=some (qI x):=by simpa using bm
   clear b0 b3 bm;obtain⟨i0,bx,b9,ca,cd⟩:=info_parts (show(prog.info? 3).map (λi=>(i.zero,i.size,i.bytes))=some (some (qI 0),1,8)from zK);have cV:∀W:aS,(Instr.makeSlice 22 (qI 0) (qI 0)).run prog W=.ok (aA (some ⟨W,0,none⟩) 0 0) (W.alloc (aK (madeCells #[qI 0] 0) 3)):=λW=>by have hr:=run_make (P:=prog) W 22 3 i0 (qI 0) underlying22 bx b9 aP aP 0 0 zO zO (by rw[cd];omega) zO;simp only[Int.toNat_zero,ca,Nat.mul_one]at hr;exact hr
   clear bx b9 ca cd;obtain⟨X,aL⟩:=eR ((wr.alloc (aK (madeCells #[qI 0] 0) 3)).alloc (aK #[qI 0] 3));obtain⟨_,au,am,ce⟩:=iY aL;have g6:=nS au;have f6:=g8 X _ 0 _ _ au;have CT:=eC (aCY ((wr:Nat)+1) 0 x 0 X.drew g6 f6);have w0:=(am.cell (p:=⟨w,0,none⟩) (oF wr _ z0)).trans z0;have a6:=(am.cell (p:=⟨ab,af,none⟩) (oF wr _ a0)).trans a0;have bb:=eC am;have bh:=eC au;have cu:=eC ce;have cr:=eC aL;have cS:=IZ;have cW:∀U:aS,(nilAhead 631 343 (aH #[qP ((wr:Nat)+1) 0]) "offshoot/direct.set").run prog U=.ok (some false) U:=λU=>by kernel_rfl
   clear am au ce aL;go_wp2_with(first|(rw[cr])|(go_at_call 175;refine(CS _).mono ?_;rintro e R⟨rfl,b7⟩;rw[<-b7];clear b7));have cq:Hid (∀M,M=(X.drew.alloc (aK #[qP ((wr:Nat)+1) 0] 343)).setCell ⟨(wr:Nat)+1,0,none⟩ (qI x)->l6 M B N D.length O qN F 0/\M.cell? ⟨(wr:Nat)+1,0,none⟩=some (qI x)/\eN B wr M/\(wr:Nat)+1<M.heap.size/\M.cell? ⟨ab,af,none⟩=some (qI x)):=eC (λM h7=>by
    have ag:=(fB.1 ak).1
    have cx:Bl wr (X.drew.alloc (aK #[qP ((wr:Nat)+1) 0] 343)):=bb.trans (((jX _):Bl X X.drew).trans ((iL _ X.drew).alloc (eX _) _)|>.mono bb.size)
    have a2:Bl wr M:=by rw[h7];exact cx.setCell (by show wr<=(wr:Nat)+1;omega) _
    have cw:=oF wr _ a0
    refine⟨ak.later a2,?_,Below.only a2,?_,(a2.cell (p:=⟨ab,af,none⟩) cw).trans a0⟩
    .rw[h7]
     exact kG _ _ 0 _ _ _ (iB _ _ 0 _ _ (qI x) ((iI X.drew _ ((wr:Nat)+1) (fB.1 bh).1).trans bh))
    .rw[h7,aBg,fO]
     have:=cu.out
     show wr+1<(X:Nat)+1
     omega);go_region_held3(λU=>U.cell? ⟨ab,af,none⟩=some (qI x)) (first|(with_reducible assumption)|exact a6|exact b2) ((go_at_call 433;refine CT.mono ?_;rintro e M⟨rfl,b6⟩;obtain⟨a8,bt,bO,ar,b2⟩:=cq M b6;clear b6));have k1:=rI a8;have cP:M<=M.heap.size:=eX _;obtain⟨W8,a1,bn,-⟩:=lB M (aK #[.iface 343 (aH #[qP ((wr:Nat)+1) 0])] 341);have ci:Hid (eG W8 M.heap.size 0 [.iface 343 (aH #[qP ((wr:Nat)+1) 0])]):=eC (by rw[<-a1];exact eG.new _ _ _);have cs:=eC a1;have ai:=eC bn;have ct:=eC a8;have ck:=eC bt;have cm:=eC bO;have bj:=eC ar;clear a1 bn a8 bt bO ar b2 g6 f6 w0 a6;go_wp2_with(first|(rw[cs])|(at_builtin;(refine kN (K:=kCl) aI1 rfl (.tmp 61) (.tmp 63) rfl M.heap.size qN [] rfl (eD.nil _ _ _ _) M.heap.size (.iface 343 (aH #[qP ((wr:Nat)+1) 0])) [.iface 343 (aH #[qP ((wr:Nat)+1) 0])] ⟨rfl,rfl⟩ rfl ci zD ai.size (λh=>h) ?_;intro v9 R bV cy ae;obtain⟨J,S,cX,rfl,cA,cz,cE,bq,_⟩:=eD.at bV (i:=0) (x:=.iface 343 (aH #[qP ((wr:Nat)+1) 0])) rfl;obtain⟨rfl,_⟩:=cE;have ag:=(fB.1 ak).1;have ar:=bj.out;have bs:J≠B:=zO;have bw:wr+1≠(B:Nat):=zO;have br:wr<=J:=zO;have bv:wr<=(wr:Nat)+1:=sA _;have bl:wr<=M.heap.size:=zO;have bo:aV wr M R:=(ai.trans ae).mono bl;have aq:l6 R B N D.length O qN F 0:=(bo.block _ ag).trans ct;have bu:R.cell? ⟨(wr:Nat)+1,0,none⟩=some (qI x):=((ai.trans ae).cell (p:=⟨(wr:Nat)+1,0,none⟩) bj).trans ck;have y9:=rI aq;have x9:R.frozen? ⟨B,1,none⟩=false:=g8 R _ 1 _ _ aq;have bp:R.cell? ⟨J,0,none⟩=some (.iface 343 (aH #[qP ((wr:Nat)+1) 0])):=(by simpa using bq 0 _ rfl);have cj:Hid (∃ay cv g,l6 (R.setCell ⟨B,1,none⟩ (aA (some ⟨J,0,none⟩) 1 S)) B N D.length O (aA (some ⟨ay,0,none⟩) 1 cv) F 0/\XV ay 0 g x (R.setCell ⟨B,1,none⟩ (aA (some ⟨J,0,none⟩) 1 S))/\(wr:Nat)<=ay/\(wr:Nat)<=g/\eN B wr (R.setCell ⟨B,1,none⟩ (aA (some ⟨J,0,none⟩) 1 S))):=eC ⟨J,S,(wr:Nat)+1,iB R _ 1 _ _ _ aq,⟨(lA (w:=R) (a:=⟨J,0,none⟩) (eF _ bs)).trans bp,(lA (w:=R) (a:=⟨(wr:Nat)+1,0,none⟩) (eF _ bw)).trans bu⟩,br,bv,(cm.trans (Below.only ((ai.trans ae).mono (eX _)))).setCell _ _⟩;clear bV cy ae cA cz bq bo aq bu bp ag ar bs bw br bv bl)));go_roundw
   case rel=>exact⟨1,zO,rfl,eC (λh=>zO),eC (λ_=>cj)⟩
   case measure=>simp[aW]
  .obtain⟨J,S,g,b8,b4,cR,hg,a5⟩:=H1.out rfl;have ag:=(fB.1 ak).1;have bA:L6 (B:Nat) wr N D:=λU hU=>by
    have cB:eP B N D:=(HP.later be).2.1;have bz:=a5.trans hU;obtain h|⟨b,off,rfl,hlt,h⟩:=cB
    .exact .inl h
    .have hk:U.heap[b]?=B.heap[b]?:=by rw[bz.block b zO zO];exact bi b hlt
     exact .inr ⟨b,off,rfl,gV (Nat.lt_trans hlt ag) bz.size,λj y hj=>⟨(lA (w:=B) (a:=⟨b,off+j*2,none⟩) hk).trans (h j y hj).1,(lA (w:=B) (a:=⟨b,off+j*2+1,none⟩) hk).trans (h j y hj).2⟩⟩
   have CW:=eC (HE (B:Nat) J 0 S g wr zO zO b8 bA b4);have cl:=eC a5;clear b8 b4 bA a5;go_wp2_with fail;refine CW.mono ?_;rintro e f⟨rfl,ah,bL⟩;have a4:W.heap[(w:Nat)+1]?=some (aK #[qI 0,qI 0,qI 0,qN] 243 (0,0)):=by have h1:=(aw.block _ (fB.1 bg).1).trans bg;exact(bi _ (fB.1 h1).1).trans h1
   have ap:w+1≠(B:Nat):=by have h1:=aw.size;have:=bk.out;omega
   have az:=cl.trans bL;have b1:=(az.block _ (fB.1 a4).1 ap).trans a4;have x3:f.frozen? ⟨B,3,none⟩=false:=g8 f _ 3 _ _ ah;have x4:f.frozen? ⟨B,4,none⟩=false:=g8 f _ 4 _ _ ah;obtain⟨-,-,-,y3,y4⟩:=pQ5 ah;have q4:=iB f (B:Nat) 3 _ _ (qI k) ah;have q5:=iB _ (B:Nat) 4 _ _ (qI v) q4;have Z:=((eF (w:=f.setCell ⟨B,3,none⟩ (qI k)) (i:=4) (qI v) ap).trans (eF (w:=f) (i:=3) (qI k) ap)).trans b1;have a7:=(az.setCell 3 (qI k)).setCell 4 (qI v);obtain⟨Y,b5⟩:=eR ((f.setCell ⟨B,3,none⟩ (qI k)).setCell ⟨B,4,none⟩ (qI v));rw[b5]at q5 Z a7;obtain⟨-,-,-,u3,u4,u5,u6⟩:=pQ7 q5;obtain⟨t0,t1,t2,t3⟩:=pQ4 Z;have s0:Y.frozen? ⟨(w:Nat)+1,0,none⟩=false:=g8 Y _ 0 _ _ Z;have s1:Y.frozen? ⟨(w:Nat)+1,1,none⟩=false:=g8 Y _ 1 _ _ Z;have s2:Y.frozen? ⟨(w:Nat)+1,2,none⟩=false:=g8 Y _ 2 _ _ Z;have s3:Y.frozen? ⟨(w:Nat)+1,3,none⟩=false:=g8 Y _ 3 _ _ Z;have cp:=eC (iB _ _ 3 _ _ qN (iB _ _ 2 _ _ (qI av) (iB _ _ 1 _ _ (qI v) (iB _ _ 0 _ _ (qI k) Z))));have cg:Hid (Bl w Y):=eC (aj.trans (a7.below (by have h1:=aw.size;have:=bk.out;omega) aj.size));clear a4 az b1 q4 q5 Z a7 ah bL ap z0 z1;go_wp2_with(rw[b5]);rw[<-HQ];exact gO (eQ rfl _ _ ((w:Nat)+1) 243 _ (0,0) _ (qI 0) rfl cp underlying243 rfl zK rfl) rfl ⟨rfl,(((cg.setCell (sA _) _).setCell (sA _) _).setCell (sA _) _).setCell (sA _) _⟩
theorem aEP(M B O:Option Addr)(N D R:Nat)(J:List Nd)(F:Int)(x:Nat)(k v:Int)(w:aS)
  (hR:∀U,aV w w U->qK 169 #[kE M B N D ⟨1,[0],J⟩,aA O 1 R,qI F] U (NQ k v x U)):
  qK 222 #[kE M B N D ⟨1,[0],J⟩,aA O 1 R,qI F] w λe w'=>e=aO (aH #[qI k,qI v])/\aV w w w':=by obtain⟨V,f⟩:=eR ((w.alloc (aK #[qI 1,aA M 1 N,aA B J.length D] 25)).alloc (aK #[qI 0,qI 0] 40));obtain⟨r0,r1,j,af⟩:=iY f;have y:Hid (qK 169 #[aH #[qI 1,aA M 1 N,aA B J.length D],aA O 1 R,qI F] V (NQ k v x V)):=eC (hR V j);obtain⟨y0,y1,y2⟩:=pX r0;have Y:=eC r1;have ab:=eC j;have ah:=eC af;obtain⟨Q,Z⟩:∃Q:Ending->aS->Prop,(λe w'=>e=aO (aH #[qI k,qI v])/\aV w w w')=Q:=⟨_,rfl⟩;rw[Z];have HQ:=eC Z;show qK 222 #[aH #[qI 1,aA M 1 N,aA B J.length D],aA O 1 R,qI F] w Q;clear r0 r1 j af Z hR;go_enter func222,ntmps222;go_wp2_with(rw[f]);refine y.out.mono ?_;rintro e w1⟨rfl,S⟩;clear f y0 y1 y2 y;obtain⟨W,hW,u,ae,-⟩:=lB w1 (aK #[qI k,qI v,qI x,qN] 243);obtain⟨z0,z1⟩:=pQ2 ae;have X:=(u.block _ (gV (fB.1 Y.out).1 S.size)).trans ((S.block _ (fB.1 Y.out).1).trans Y.out);obtain⟨t0,t1⟩:=pQ2 X;have s0:=tK X;have ag:=eC (iB _ _ 1 _ _ (qI v) (iB _ _ 0 _ _ (qI k) X));have HB:=eC (ab.out.trans ((fC S u).mono ab.out.size));have HW:=eC hW;clear S u ae X hW;go_wp2_with(rw[HW.out]);rw[<-HQ.out];exact gO (EP rfl _ _ ((w:Nat)+1) 40 _ (0,0) _ rfl ag.out underlying40 rfl zK) rfl ⟨rfl,(HB.out.setCell (sA _) _).setCell (sA _) _⟩
theorem aEB{h:Nat}{e:Option Addr}{d:List Nd}{g:aT}{n:Int}(j:d[at']?=some (1,n))(hf:(st:Int)<F)(m:st<100000)(i:at'<=100000):vV h e d f g F at' st (st+1) (aO (qI n)) X:=
 λU q k _=>aGy h e f g F st at' d n U q k j hf m i
theorem TC{f:Option Addr}{d:List Nd}{n:Int}(k:wW e X)(r:d[at']?=some (25,n))(hf:(st:Int)<F)(u:st<100000)(q:at'<=100000)(j:vV e f d g h F ((at':Int)+1) (st+1) i (aO (qI v)) X):vV e f d g h F at' st i (mX 0 v) X:=
 λU x s m=>aGK e f g h F st at' d n U x s r hf u q i v X m k j
theorem OL{f:Option Addr}{d:List Nd}(m:wW e X)(r:d[at']?=some (20,1))(hf:(st:Int)<F)(u:st<100000)(q:at'<=100000)(j:vV e f d g h F ((at':Int)+1) (st+1) i (mX k v) X):vV e f d g h F at' st i (mX k v) X:=
 λU x s n=>aDT e f g h F st at' d U x s r hf u q i k v X n m j
theorem aCb{h:Option Addr}{f:List Nd}(r:f[at']?=some (3,0))(hf:(st:Int)<F)(u:st<100000)(q:at'<=100000)(k:d≠e)(m:g≠e):vV e h f i (aA (some (d,co)) 1 j) F at' st (st+1) (aO (qI x)) (XV d co g x):=
 λU y s n=>aF0 e d co j g h i F st at' f U y s r hf u q x n k m
theorem aIT(J:Nat)(D n:Int)(w:aS):qK 321 #[qP J 0,aH #[qI 26,qI n],qI D] w (Rt (aF #[]) w):=by have B:Hid (Bl w (w.alloc (aK #[qI 26,qI n] 54))):=eC (fL w _);go_enter func321,ntmps321;go_wp2_with fail;go_end0;exact⟨rfl,B⟩
theorem aGj(B:Nat)(O:Option Addr)(M:Nat)(N:aT)(F:Int)(st J:Nat)(D:List Nd)(n:Int)(w:aS)(j:l6 w B O D.length M N F st)(f:L6 B w O D)(Z:D[J]?=some (26,n))(hf:(st:Int)<F)(hs:st<100000)(ha:J<=100000):
  qK 278 #[qP B 0,qI J] w (tM B O D.length M N F (st+1) (aO (qI 0)) w):=by obtain⟨b,u,W,W5,rfl,hW,X,e2,e5,f5,d1,g0,n1,n2,i1,i2,p0,p1,ae,ac,ab,aa⟩:=AC j f Z hf;have y:=eC (aIT B J n W5);obtain⟨Q,R⟩:=eR (tM B (some (b,u)) D.length M N F (st+1) (aO (qI 0)) w);rw[R];change Hid _ at X R;clear j f Z;go_enter func278,ntmps278;go_wp2_with fail;go_region_held3(λU=>qC U B 2 (qI F)/\qC U B 5 (qI st)) (first|(with_reducible assumption)|exact⟨e2,e5⟩) (fail);go_wp2_with(first|(rw[X])|(go_at_call 321;refine y.mono ?_;rintro e x⟨rfl,Y⟩));have S:=eC (show l6 x B (some (b,u)) D.length M N F (st+1)/\eN B w x from⟨ab.out.later Y,aa.out.trans (Below.only Y)⟩);rw[<-R];exact⟨rfl,S.1,S.2⟩
def aIk(d:Nat)(f:Option Addr)(h g:Nat)(i:aT)(F:Int)(st:Nat)(w:aS)(e:Ending)(w':aS):Prop:=(∃v,e=aO v)/\l6 w' d f h g i F st/\eN d w w'
theorem aAM(J:Nat)(D:Option Addr)(B:List Nd)(M:Nat)(N:aT)(F:Int)(S:Nat)(st W:Nat)(v:Int)(X:aS->Prop)(w:aS)(hx:l6 w J D B.length M N F st)(x:L6 J w D B)(hX:X w)(hE:vV J D B M N F S st W (aO (qI v)) X)(al:B.length<=100000):
  qK 319 #[qP J 0,qI S,qI 1] w (aIk J D B.length M N F W w):=by
 have CE:=eC (hE w hx x hX);change Hid _ at x;clear hx hX hE;obtain⟨Q,Z⟩:=eR (aIk J D B.length M N F W w);rw[Z];change Hid _ at Z;go_enter func319,ntmps319;go_wp2;go_loopw [1,7,9] (λa l i wr=>(a=qI S/\l=aA none 0 0/\i=qI 0/\wr=w)\/(i=qI 1/\Hid (aIk J D B.length M N F W w (aO l) wr))) (λ_ _ i _=>1-(aW i).toNat)
 case atStart=>exact .inl ⟨rfl,rfl,rfl,rfl⟩
 case round=>
  obtain⟨rfl,rfl,rfl,rfl⟩|⟨rfl,HK⟩:=hrel
  .go_wp2_with fail;refine CE.mono ?_;rintro e R⟨rfl,h2,h3⟩;obtain⟨Y,f,U,-⟩:=lB R (aK #[qI v] 3);have ag:Hid (eG Y R 0 [qI v]):=eC (by rw[<-f];exact eG.new _ _ _);have aj:=eC (h2.later U);have ah:=eC (h3.trans (Below.only U));have af:R<=(Y:Nat):=U.size;change Hid _ at f;clear h2 h3 U;go_wp2_with(first|rw[f]|(at_builtin;(refine kN (K:=kI) (E:=3) rV rfl (.tmp 11) (.tmp 15) rfl R qN [] rfl (eD.nil _ _ _ _) R v [qI v] rfl rfl ag zD af (λh=>h) ?_;intro v6 y ae ac O;obtain⟨ca,cc,rfl,_⟩:=eL ae;have u:Bl Y y:=⟨O.os,O.tape,O.output,O.size,λk hk=>ac.block k hk (by simp[Value.ownBlock])⟩;have ab:=eC (aj.later u);have aa:=eC (ah.trans (Below.only u));have k0:=nS ab;have CN:=eC (nQ D M B S y (x y aa) al);clear ae ac O u af))|(go_at_call 173;refine CN.mono ?_;rintro e w7⟨rfl,j⟩;have ak:=eC (ab.later j);have ai:=eC (aa.trans (Below.only j));clear j));go_roundw
   case rel=>exact .inr ⟨rfl,eC ⟨⟨_,rfl⟩,ak,ai⟩⟩
   case measure=>simp[aW]
  .go_wp2_with fail;rw[<-Z];exact⟨⟨_,rfl⟩,HK.out.2.1,HK.out.2.2⟩
theorem aHd(B:Nat)(M:Option Addr)(J:List Nd)(N:Nat)(O:aT)(F:Int)(D:Nat)(st S:Nat)(v:Int)(X:aS->Prop)(w:aS)(hx:l6 w B M J.length N O F st)(y:L6 B w M J)(x:X w)(u:wW B X)(j:vV B M J N O F ((D+1:Nat):Int) st S (aO (qI v)) X)(aa:J.length<=100000)(ha:D<=100000):
  qK 321 #[qP B 0,aH #[qI 20,qI 1],qI D] w (tM B M J.length N O F S (aO (aF #[])) w):=by
 have ab:aP.wrap ((D:Int)+1)=((D+1:Nat):Int):=by rw[iA];omega
 have Y:(D:Int)+1=((D+1:Nat):Int):=zO;obtain⟨W,hW,R,-⟩:=lB w (aK #[qI 20,qI 1] 54);have c0:W.cell? (w,0)=some (qI 20):=by rw[<-hW];exact kG _ _ 0 _ _ _ (fG w _)
 have c1:W.cell? (w,1)=some (qI 1):=by rw[<-hW];exact kG _ _ 1 _ _ _ (fG w _)
 have Z:=eC (aAM B M J N O F (D+1) st S v X W (hx.later R) (y.go (Below.only R)) (u _ _ x (Below.only R)) j aa);rw[<-Y]at Z;obtain⟨Q,U⟩:=eR (tM B M J.length N O F S (aO (aF #[])) w);rw[U];rw[<-Y]at ab;change Hid _ at R U;clear hx y x u j Y;go_enter func321,ntmps321;go_wp2_with(first|(rw[hW])|(go_at_call 319;refine Z.mono ?_;rintro e w1⟨⟨vv,rfl⟩,h2,h3⟩));have f:Hid (tM B M J.length N O F S (aO (aF #[])) w (aO (aF #[])) w1):=eC ⟨rfl,h2,(Below.only R).trans h3⟩;rw[U]at f;go_end0;exact f
theorem aCX(B:Nat)(R:Option Addr)(J:Nat)(M:aT)(F:Int)(st N:Nat)(D:List Nd)(w:aS)(hx:l6 w B R D.length J M F st)(f:L6 B w R D)(hi:D[N]?=some (20,1))(hf:(st:Int)<F)(hs:st<100000)(ha:N<=100000)(O:Nat)(v:Int)(X:aS->Prop)(hX:X w)(Z:wW B X)(x:vV B R D J M F ((N+1:Nat):Int) (st+1) O (aO (qI v)) X)(ab:D.length<=100000):
  qK 278 #[qP B 0,qI N] w (tM B R D.length J M F O (aO (qI 0)) w):=by obtain⟨b,j,W,W5,rfl,hW,y,e2,e5,f5,d1,g0,n1,n2,i1,i2,p0,p1,ae,ac,aa,S⟩:=AC hx f hi hf;have CD:=eC (aHd B (some (b,j)) D J M F N (st+1) O v X W5 aa.out (f.go S.out) (Z _ _ hX S.out) Z x ab ha);obtain⟨Q,Y⟩:=eR (tM B (some (b,j)) D.length J M F O (aO (qI 0)) w);rw[Y];change Hid _ at y Y;clear hx f hi hX Z x;go_enter func278,ntmps278;go_wp2_with fail;go_region_held3(λU=>qC U B 2 (qI F)/\qC U B 5 (qI st)) (first|(with_reducible assumption)|exact⟨e2,e5⟩) (fail);go_wp2_with(first|(rw[y])|(go_at_call 321;refine CD.mono ?_;rintro e w1⟨rfl,h2,h3⟩));have u:=eC (show l6 w1 B (some (b,j)) D.length J M F O/\eN B w w1 from⟨h2,S.out.trans h3⟩);rw[<-Y];exact⟨rfl,u.1,u.2⟩
theorem aDq{h:Nat}{e:Option Addr}{d:List Nd}{g:aT}{n:Int}(j:d[at']?=some (26,n))(hf:(st:Int)<F)(m:st<100000)(i:at'<=100000):vV h e d f g F at' st (st+1) (aO (qI 0)) X:=
 λU q k _=>aGj h e f g F st at' d n U q k j hf m i
theorem aAf{f:Option Addr}{d:List Nd}(k:wW e X)(r:d[at']?=some (20,1))(hf:(st:Int)<F)(u:st<100000)(n:at'<=100000)(j:vV e f d g h F ((at'+1:Nat):Int) (st+1) i (aO (qI v)) X)(q:d.length<=100000):vV e f d g h F at' st i (aO (qI 0)) X:=
 λU x s m=>aCX e f g h F st at' d U x s r hf u n i v X m k j q
def al0:List Nd:=[(20,1),(25,0),(3,0)]
def al1:List Nd:=[(20,1),(26,0)]
def Y9(c:Int):List Nd:=[(20,1),(25,0),(1,c)]
abbrev Wk(ba:Option Addr)(bd:List Nd)(bc:Nat)(x:Int)(st':Nat)(k v:Int):Prop:=∀(wb cb co cc g:Nat)(U:aS),cb≠wb->g≠wb->l6 U wb ba bd.length bc (aA (some ⟨cb,co,none⟩) 1 cc) 9 0->L6 wb U ba bd->XV cb co g x U->Calls prog 223 #[aE (some ⟨wb,0,none⟩)] U (YW wb ba bd.length bc (aA (some ⟨cb,co,none⟩) 1 cc) 9 st' k v U)
theorem wk0(f:Option Addr)(h:Nat)(x:Int):Wk f al0 h x 3 0 x:=λq i co r g U d e m j k=>
 MQ q f al0 h _ 9 0 3 0 x (XV i co g x) U m j k (XV.stays d e) (OL (at':=0) (XV.stays d e) rfl zD zD zD (TC (at':=1) (n:=0) (XV.stays d e) rfl zD zD zD (aCb (at':=2) (st:=2) rfl zD zD zD d e)))
theorem wk1(d:Option Addr)(e:Nat)(x:Int):Wk d al1 e x 2 3 0:=λq i co r g U f h m j k=>
 aEC q d al1 e _ 9 0 2 0 (XV i co g x) U m j k (XV.stays f h) (aAf (at':=0) (v:=0) (XV.stays f h) rfl zD zD zD (aDq (at':=1) (st:=1) (n:=0) rfl zD zD zD) zD)
theorem wk2(f:Option Addr)(h:Nat)(x c:Int):Wk f (Y9 c) h x 3 0 c:=λq i co r g U d e m j k=>
 MQ q f (Y9 c) h _ 9 0 3 0 c (XV i co g x) U m j k (XV.stays d e) (OL (at':=0) (XV.stays d e) rfl zD zD zD (TC (at':=1) (n:=0) (XV.stays d e) rfl zD zD zD (aEB (at':=2) (st:=2) rfl zD zD zD)))
theorem mc0:lV ⟨1,[0],al0⟩ 1 9=0:=zK
theorem mc1:lV ⟨1,[0],al1⟩ 1 9=0:=zK
theorem aKB:lV ⟨1,[0],Y9 0⟩ 1 9=0:=zK
theorem aKJ:lV ⟨1,[0],Y9 1⟩ 1 9=0:=zK
structure wV(bd:List Nd)(x:Int)(st:Nat)(k v:Int):Prop where
 mc:lV ⟨1,[0],bd⟩ 1 9=0
 bl:bd.length<=100000
 wk:∀ba bc,Wk ba bd bc x st k v
theorem aKr(x:Int):wV al0 x 3 0 x:=⟨mc0,zD,λd e=>wk0 d e x⟩
theorem aJH(x:Int):wV al1 x 2 3 0:=⟨mc1,zD,λd e=>wk1 d e x⟩
theorem aCF(x:Int):wV (Y9 0) x 3 0 0:=⟨aKB,zD,λd e=>wk2 d e x 0⟩
theorem aHR(x:Int):wV (Y9 1) x 3 0 1:=⟨aKJ,zD,λd e=>wk2 d e x 1⟩
theorem Y4{f:List Nd}(h:wV f x st k v)(i d g:Option Addr)(j e m:Nat)(w:aS)(q:iE w i d j e ⟨1,[0],f⟩)(n:eS kI w g [x]):
 qK 169 #[kE i d j e ⟨1,[0],f⟩,aA g 1 m,qI 9] w (NQ k v st w):=aDz i d g j e m f x 9 st k v w q n h.mc h.bl (h.wk d e)
theorem Z8{g:List Nd}(h:wV g x st k v)(i e d:Option Addr)(j f m:Nat)(w:aS)(r:iE w i e j f ⟨1,[0],g⟩)(q:eS kI w d [x]):
 qK 222 #[kE i e j f ⟨1,[0],g⟩,aA d 1 m,qI 9] w (Rt (aH #[qI k,qI v]) w):=aEP i e d j f m g 9 st k v w λU n=>Y4 h i e d j f m U (r.later n) (q.later n)
theorem NO(w:aS):qK 49 #[qI 0] w λe w'=>e=aO (aF #[])/\w=w':=by go_enter func49,ntmps49;go_wp2;go_end0;exact⟨rfl,rfl⟩
theorem aH4(t:Int)(w:aS):qK 50 #[qI t,qI 0] w λe w'=>e=aO (qI 0)/\w=w':=by go_enter func50,ntmps50;go_wp2;go_ret;exact⟨rfl,rfl⟩
theorem G3(p q:Addr)(w:aS):
  CallsD prog 122 #[aE (some p),aE (some q)] .returning w λe J w'=>e=aO (aF #[])/\J=.returning/\w'=w:=by refine callsD_of_wpS func122 rfl λB M D=>?_;simp only[ntmps122,pN,Nat.reduceAdd,Nat.reduceSub];apply wpS_seq;apply wpS_region;simp[wpOpsS,go_sem,recoverD,D,Exit.thenS,CY];apply wpS_seq;apply wpS_region;simp[wpOpsS,go_sem,Exit.thenS];refine wpS_cond (t:=false) (by simp[Act.eval]) ?_;simp only[Bool.false_eq_true,if_false];refine wpS_of_wp (wp_skip ?_);cases B;simp_all[bodyPostS,results,results122]
theorem J4(A:CA)(c:Cp)(w:aS)(N:kW w A c)(O:uV c):qK 52 #[tR A c,qI 0] w (Rt (aB (gR c)) w):=by
 obtain⟨V,J,M,-⟩:=lB w (aK (fU A c) 33);have B:rJ V w A c:=by rw[<-J];exact fG w _
 have D:=eC (NU A c V (N.later M) O);have W:=eC (λU=>NO U);have Y:qC V w 0 c.p.pa:=B.c 0 rfl;have Z:qC V w 1 (aA A.va c.p.vs.length A.vc):=B.c 1 rfl;have f:qC V w 2 (aA A.ba c.p.bd.length A.bc):=B.c 2 rfl;have j:qC V w 3 (aA A.ta c.T.length A.tc):=B.c 3 rfl;have u:qC V w 4 c.F:=B.c 4 rfl;have x:qC V w 5 (aA A.ma c.ms.length A.mc):=B.c 5 rfl;have y:qC V w 6 (qI c.sc.a):=B.c 6 rfl;have c7:qC V w 7 (qI c.sc.k):=B.c 7 rfl;have c8:qC V w 8 (qI c.sc.t):=B.c 8 rfl;unfold tR at D|-;unfold fU at J D|-;generalize gR c=S at D|-;change Hid _ at M;clear N O B;go_enter func52,ntmps52;go_wp2_with(first|(rw[J])|(go_at_call 11;refine UL M D λw1 X=>?_)|(go_at_call 49;refine(W _).mono ?_;rintro e w9⟨rfl,R⟩;rw[<-R];clear R));go_ret;exact⟨rfl,X⟩
theorem aEF(a b:Nat)(p:Pg)(T:List (List Int))(F:Int)(w:aS)(hA:qC w a 0 (aB (eH (FE p))))(N:qC w b 0 (aB (eH (fP T F))))(hr:KU p T F)(R:uV (UO p T F))(hz:(fP T F).length<=1048576):
  qK 47 #[qP a 0,qP b 0] w (Rt (aB (gR (UO p T F))) w):=by
 have CG:=eC (YQ p w R.pg hr.kc);obtain⟨f,hf,y,J,O⟩:=SJ R;have y:YN (eH (fP T F))=T:=y;have J:rdF (eH (fP T F))=f:=J;have hf:F=f:=hf;have Z:=eC (λU=>aHS (eH (fP T F)) U (by show(fP T F).length<=aZ;unfold aZ;omega));simp only[y,J]at Z;have HT:Hid (tE T (f:Nat)=0/\BJ T (f:Nat)=eH (fP T F)):=eC (by have D:=R.te;have x:BJ T F=eH (fP T F):=O;have D:tE T F=0:=D;rw[hf]at D x;exact⟨D,by rw[hf];exact x⟩);have CR:=eC (λva ba M vc bc Y U hp ht=>aEu p va ba M vc bc Y T F U hp ht hr);have CE:=eC (λA U hc=>J4 A (UO p T F) U hc R);have CI:=eC (λt U=>aH4 t U);have CM:=eC (λU=>NO U);have ag:=oF w _ N;generalize eH (FE p)=S1 at hA CG;generalize eH (fP T F)=S2 at N Z HT N;change Hid _ at ag hf;clear hr R hz y J O;go_enter func47,ntmps47;go_wp2_with fail;refine CG.mono ?_;rintro e w1⟨⟨v1,v2,rfl,S,X⟩,D⟩;obtain⟨j,c1,rfl,_⟩:=eL S;obtain⟨u,c2,rfl,_⟩:=eL X;obtain⟨W,hW,ab,ae,-⟩:=lB w1 (aK #[p.pa,aA j p.vs.length c1,aA u p.bd.length c2] 25);have hS:Bl w W:=fC D ab;have e2:qC W b 0 (aB S2):=(hS.cell (p:=⟨b,0,none⟩) ag).trans N;have ak:Hid (iE W j u c1 c2 p):=eC (by
  have l1:eS kI w1 j p.vs:=by obtain⟨a,c,e,hl⟩:=eL S;cases e;exact hl
  have l2:eS kP w1 u p.bd:=by obtain⟨a,c,e,hl⟩:=eL X;cases e;exact hl
  exact iE.later ⟨l1,nG.2 l2,(lR S).1,(lR S).2,(lR X).1,(lR X).2⟩ ab);have af:=eC (Z W);change Hid _ at N hS ae hW;clear S X D ab CG hA Z;go_wp2_with(first|(rw[hW])|(go_at_call 50;refine(CI _ _).mono ?_;rintro e w9⟨rfl,B⟩;rw[<-B];clear B)|(go_at_call 49;refine(CM _).mono ?_;rintro e w9⟨rfl,B⟩;rw[<-B];clear B));refine af.mono ?_;rintro e w2⟨hg,J⟩;obtain⟨M,Y,rfl,ai,_⟩:∃M Y,e=aO (aF #[aA M T.length Y,qI (f:Nat),qI 0])/\fZ W w2 M T/\True:=by
  obtain⟨pa,c',D,x,_⟩|⟨_,h⟩:=hg
  .exact⟨pa,c',D,x,trivial⟩
  .exact absurd HT h
 have ah:=(J.block _ (fB.1 ae).1).trans ae;obtain⟨z0,z1,z2⟩:=pX ah;have aa:=eC (CR j u M c1 c2 Y w2 (ak.later J) ai.at);rw[hf]at aa;unfold kE at aa;have al:=mG hS J;clear hg J ai ah af CR e2;go_wp2_with(first|(go_at_call 50;refine(CI _ _).mono ?_;rintro e w9⟨rfl,B⟩;rw[<-B];clear B)|(go_at_call 49;refine(CM _).mono ?_;rintro e w9⟨rfl,B⟩;rw[<-B];clear B));refine aa.mono ?_;rintro e w3⟨A,rfl,ac,O⟩;rw[<-hf]at ac|-;have aj:=eC (CE A w3 ac.at);have am:=mG al O;clear ac O CE;go_wp2_with fail;refine UL am aj λw4 HF=>?_;go_wp2_with fail;go_ret;exact⟨rfl,HF⟩
theorem F6(f:FuncId)(eg:∀j w,(callFunc f j).run prog w=.ok (.enter f j) w)(a b:Nat)(S:ByteArray)(w:aS)(u:∀U,aV w w U->qK f #[qP a 0,qP b 0] U λe w'=>e=aO (aB S)/\aV U U w'):
  qK 46 #[aD (.func f) #[] #[qP a 0,qP b 0]] w λe w'=>e=aO (aF #[aB S,qI 0])/\aV w w w':=by have ac:=IZ;obtain⟨V,N⟩:=eR ((w.alloc (aK #[aB ⟨#[]⟩] 9)).alloc (aK #[qI 0] 34));obtain⟨r0,r1,O,ab⟩:=iY N;have CD:=eC (u V O);have Y:=eC r0;have Z:=eC r1;have aa:=eC O;clear u r0 r1 O ab;go_enter_defers func46,ntmps46;go_wp2_with(rw[N]);refine CD.out.mono ?_;rintro e D⟨rfl,J⟩;have M:=(J.block _ (fB.1 Y.out).1).trans Y.out;have y:=(J.block _ (fB.1 Z.out).1).trans Z.out;have y0:=nS M;have x0:=tK M;have x:w+1≠w.heap.size:=zO;have W:=iB D w 0 _ _ (aB S) M;have B:=(eF (w:=D) (i:=0) (aB S) x).trans y;have y1:qC (qS D (w,0) (aB S)) (w.heap.size+1) 0 (qI 0):=nS B;have x1:qF (qS D (w,0) (aB S)) (w.heap.size+1) 0:=g8 _ _ 0 _ _ B;obtain⟨X,R⟩:=eR (qS D (w,0) (aB S));rw[R]at W B y1 x1;have q4:=iB X (w.heap.size+1) 0 _ _ (qI 0) B;have q5:=(eF (w:=X) (b:=w.heap.size+1) (i:=0) (qI 0) x.symm).trans W;have c4:=nS q5;have c5:=nS q4;have HF:Hid (aV w w (qS X (w.heap.size+1,0) (qI 0))):=eC (by rw[<-R];exact((fC aa J).setCell (p:=(w,0)) (eX _) _).setCell (p:=(w.heap.size+1,0)) (sA _) _);clear N J M y W B q4 q5;go_wp2_with(rw[R]);refine P7 (f:=122) (args:=#[qP w 0,qP (w.heap.size+1) 0]) zS (by simp[go_sem]) ?_;refine(G3 _ _ _).mono ?_;rintro e u' ae⟨rfl,rfl,rfl⟩;simp[Leaves,settle,results,results46,go_sem,c4,c5];exact HF.out
theorem aHy(p:Pg)(T:List (List Int))(F:Int)(w:aS)(W:KU p T F)(R:uV (UO p T F))(X:(fP T F).length<=1048576):
  qK 15 #[aB (eH (FE p)),aB (eH (fP T F))] w (Rt (aF #[aB (gR (UO p T F)),qI 0]) w):=by have f:=IZ;obtain⟨V,B⟩:=eR ((w.alloc (aK #[aB (eH (FE p))] 9)).alloc (aK #[aB (eH (fP T F))] 9));obtain⟨D,J,O,Z⟩:=iY B;have M:=eC (F6 _ (l8 func47 zK rfl) w ((w:Nat)+1) (gR (UO p T F)) V (λU N=>aEF w ((w:Nat)+1) p T F U (kG U _ 0 _ _ _ ((N.block _ (fB.1 D).1).trans D)) (kG U _ 0 _ _ _ ((N.block _ (fB.1 J).1).trans J)) W R X));generalize eH (FE p)=S1 at B|-;generalize eH (fP T F)=S2 at B|-;generalize gR (UO p T F)=S at M|-;change Hid _ at O B;clear D J Z W R X;go_enter func15,ntmps15;go_wp2_with(first|(rw[B])|(go_at_call 46;refine UL O M λj Y=>?_));go_ret2;exact⟨rfl,Y⟩
def AW(p:Pg)(T:List (List Int))(F:Int):Nat:=if gH p≠0 then gH p else pW p.pa T F
theorem aHx(p:Pg)(O J Z:Option Addr)(R M tc:Nat)(T:List (List Int))(F:Int)(w:aS)(hp:iE w O J R M p)(ht:gG w Z T)(hv:p.vs.length<=1000000)(ac:p.bd.length<=100000)(af:T.length<=1000000)(N:AW p T F≠0):
  qK 21 #[kE O J R M p,aA Z T.length tc,qI F] w (Rt (aF #[aE none,qI (AW p T F:Nat)]) w):=by
 obtain⟨V,x,Y,y,-⟩:=lB w (aK #[p.pa,aA O p.vs.length R,aA J p.bd.length M] 25);have B:=eC (qO O J R M p V (hp.later Y) hv ac);obtain⟨y0,y1,y2⟩:=pX y;have j:=eC Y;have u:=eC y;have f:=eC (λU(h:Bl V U)=>sI p.pa Z tc T F U (ht.later (fC Y h)) (by unfold aZ;omega));unfold kE at B|-;by_cases hk:gH p=0
 .have X:AW p T F=pW p.pa T F:=by unfold AW;rw[eE (by simp[hk])]
  rw[X]at N|-;rw[hk]at B;generalize pW p.pa T F=E at N f|-;generalize T.length=tl at*;have ae:((E:Int) !=0)=true:=zT;go_enter func21,ntmps21;go_wp2_with(rw[x]);refine B.mono ?_;rintro e S⟨rfl,D⟩;have aa:=eC (f S D);have z0:qC S w 0 p.pa:=kG S _ 0 _ _ _ ((D.block _ (fB.1 u).1).trans u);have ab:=mG j D;go_wp2_with fail;refine UL ab aa λw2 W=>?_;go_wp2_with fail;go_ret2;exact⟨rfl,W⟩
 .have X:AW p T F=gH p:=by unfold AW;rw[eI hk]
  rw[X]at N|-;generalize gH p=E at N B|-;generalize T.length=tl at*;have ae:((E:Int) !=0)=true:=zT;go_enter func21,ntmps21;go_wp2_with(rw[x]);refine B.mono ?_;rintro e S⟨rfl,D⟩;have W:=mG j D;go_wp2_with fail;go_ret2;exact⟨rfl,W⟩
theorem aCu(p:Pg)(J B S:Option Addr)(M D j:Nat)(T:List (List Int))(F:Int)(w:aS)(hp:iE w J B M D p)(ht:gG w S T)(hv:p.vs.length<=1000000)(aa:p.bd.length<=100000)(ab:T.length<=1000000)(X:AW p T F≠0):
  qK 7 #[kE J B M D p,aA S T.length j,qI F] w λe w'=>e=aO (aF #[aH #[qI 0,qN,qN,qN,qI 0,qN,qI 0,qI 0,qI 0],qI (AW p T F:Nat)])/\aV w w w':=by obtain⟨V,Z⟩:=eR ((w.alloc (aK #[p.pa,aA J p.vs.length M,aA B p.bd.length D] 25)).alloc (aK #[qI 0,qN,qN,qN,qI 0,qN,qI 0,qI 0,qI 0] 33));obtain⟨r0,r1,O,ae⟩:=iY Z;have N:=eC (aHx p J B S M D j T F V (hp.later O) (ht.later O) hv aa ab X);obtain⟨y0,y1,y2⟩:=pX r0;have W:=eC r1;have u:=eC O;generalize AW p T F=E at X N|-;generalize T.length=tl at*;have ac:((E:Int) !=0)=true:=zT;obtain⟨Q,Y⟩:∃Q:Ending->aS->Prop,(λe w'=>e=aO (aF #[aH #[qI 0,qN,qN,qN,qI 0,qN,qI 0,qI 0,qI 0],qI (E:Nat)])/\aV w w w')=Q:=⟨_,rfl⟩;rw[Y];have x:=eC Y;unfold kE at N|-;go_enter func7,ntmps7;go_wp2_with(rw[Z]);refine N.out.mono ?_;rintro e w1⟨rfl,f⟩;have R:=(f.block _ (fB.1 W.out).1).trans W.out;obtain⟨t0,t1,t2,t3,t4,t5,t6,t7,t8⟩:=pQ9 R;have x0:=tK R;have y:=WY _ _ _ _ _ _ _ _ _ (qI 0) qN qN qN (qI 0) qN (qI 0) (qI 0) (qI 0) R (fC u f) (sA w);have U:=eC y;go_wp2_with fail;rw[<-x.out];exact gO (eQ rfl _ _ ((w:Nat)+1) 33 _ (0,0) _ (qI (E:Nat)) rfl U.out.1 underlying33 rfl zK rfl) rfl ⟨rfl,U.out.2.1⟩
def aHQ(w:aS)(f m:Nat)(j d g:Option Addr)(k e i h:Nat)(p:Pg)(F:Int):Prop:=w.heap[f]?=some (aK #[aC aP p.pa,aA j p.vs.length k,aA d p.bd.length e,aA g i h,aC aP F,.map (some m)] 261 (0,0))
def aHv(k f h:Option Addr)(n g j i:Nat)(p:Pg)(F:Int)(w:aS)(e:Ending)(w':aS):Prop:=∃d m,e=aO (aE (some ⟨d,0,none⟩))/\aHQ w' d m k f h n g j i p F/\kK w' m []/\d≠m/\(w:Nat)<=d/\(w:Nat)<=m/\aV (w:Nat) w w'
theorem aIh(J B O:Option Addr)(M D S R:Nat)(p:Pg)(F:Int)(w:aS):
  qK 104 #[kE J B M D p,aA O S R,qI F] w (aHv J B O M D S R p F w):=by
 have aa:∀U:aS,(Instr.makeMap 259 none).run prog U=.ok (.map (some U)) (U.alloc (.map #[] 0)):=λ_=>rfl;obtain⟨W,hW⟩:=eR (((w.alloc (aK #[p.pa,aA J p.vs.length M,aA B p.bd.length D] 25)).alloc (.map #[] 0)).alloc (aK #[p.pa,aA J p.vs.length M,aA B p.bd.length D,aA O S R,qI F,.map (some ((w:Nat)+1))] 261));obtain⟨y,f,Y,-,u⟩:=lB w (aK #[p.pa,aA J p.vs.length M,aA B p.bd.length D] 25);obtain⟨X,N⟩:=eR (y.alloc (.map #[] 0));have z2:X=(w:Nat)+1+1:=by rw[<-N,fO,u]
 have b2:=DX N;have j:kK X ((w:Nat)+1) []:=by rw[<-N,<-u];exact kK.new y
 rw[f,N]at hW;have Z:=DX hW;have x:Hid (aHv J B O M D S R p F w (aO (qP ((w:Nat)+1+1) 0)) W):=eC ⟨(w:Nat)+1+1,(w:Nat)+1,rfl,by rw[<-z2,<-hW];exact fG X _,j.on (Z.block _ j.lt),zO,zO,zO,Y.trans ((fC b2 Z).mono Y.size)⟩;obtain⟨Q,hQ⟩:=eR (aHv J B O M D S R p F w);rw[hQ]at x|-;rw[<-N,<-f]at hW;change Hid _ at hW;clear hQ f N u z2 Y b2 j Z;unfold kE;go_enter func104,ntmps104;go_wp2_with fail;(try rw[hW])
 (try simp only[fO])
 exact x
theorem NF(c:Cp)(n:Int)(w:aS)(Y:uV c)(Z:(fP c.T c.F).length<=1048576)(f:(MC c.ms).length<=100000)
  (N:∀(A:CA) (U:aS),kW U A c->qK 36 #[tR A c] U (Rt (aF #[qI 0,qI n]) U)):
  qK 12 #[aB (gR c)] w (Rt (aF #[qI 0,qI n]) w):=by
 have M:=eC (F1 c w Y Z f);generalize gR c=S at M|-;change Hid _ at N;clear Y Z f;go_enter func12,ntmps12;go_wp2_with fail;refine M.mono ?_;rintro e B⟨A,rfl,X,R⟩;obtain⟨W,hW,O,-⟩:=lB B (aK (fU A c) 33);have D:rJ W B A c:=by rw[<-hW];exact fG B _
 have J:=eC (N A W (X.at.later O));have j:=eC (fC R O);have x:qC W B 0 c.p.pa:=D.c 0 rfl;have y:qC W B 1 (aA A.va c.p.vs.length A.vc):=D.c 1 rfl;have c2:qC W B 2 (aA A.ba c.p.bd.length A.bc):=D.c 2 rfl;have c3:qC W B 3 (aA A.ta c.T.length A.tc):=D.c 3 rfl;have c4:qC W B 4 c.F:=D.c 4 rfl;have c5:qC W B 5 (aA A.ma c.ms.length A.mc):=D.c 5 rfl;have c6:qC W B 6 (qI c.sc.a):=D.c 6 rfl;have c7:qC W B 7 (qI c.sc.k):=D.c 7 rfl;have c8:qC W B 8 (qI c.sc.t):=D.c 8 rfl;unfold tR at J|-;unfold fU at hW J|-;change Hid _ at hW;clear X R O D M N;go_wp2_with(first|(rw[hW])|(go_at_call 36;refine UL j J λw2 u=>?_));go_ret2;exact⟨rfl,u⟩
theorem MJ(w:aS):qK 144 #[aE none] w λe w'=>e=aO (qI (-1))/\w=w':=by go_enter func144,ntmps144;go_wp2;go_ret;exact⟨rfl,rfl⟩
theorem AO(b o:Nat)(v:Int)(w:aS)(h:w.cell? (b,o+3)=some (qI v)):qK 144 #[qP b o] w λe w'=>e=aO (qI v)/\w=w':=by go_enter func144,ntmps144;go_wp2;go_ret;exact⟨rfl,rfl⟩
theorem aCt(D J:Option Addr)(N O:Nat)(x y:Mt)(w:aS)(X:eS kI w D x.d.path)(Y:eS kI w J y.d.path)(U:x.d.path.length<=1000000)(W:y.d.path.length<=1000000):
  qK 142 #[E1 D N x,E1 J O y] w (Rt (qI (jD x.d y.d)) w):=by unfold E1;obtain⟨V,S⟩:=eR ((w.alloc (aK #[aA D x.d.path.length N,x.d.op,x.d.n,x.v,x.test,x.out.1,x.out.2,x.dig] 42)).alloc (aK #[aA J y.d.path.length O,y.d.op,y.d.n,y.v,y.test,y.out.1,y.out.2,y.dig] 42));obtain⟨Z,f,B,u⟩:=iY S;have M:=eC (EW D J N O x.d y.d V (X.later B) (Y.later B) U W);unfold GL at M;obtain⟨x0,x1,x2⟩:=pX Z;obtain⟨y0,y1,y2⟩:=pX f;generalize jD x.d y.d=R at M|-;change Hid _ at B S;clear Z f u X Y U W;go_enter func142,ntmps142;go_wp2_with(first|(rw[S])|(go_at_call 24;refine UL B M λw1 j=>?_));go_ret;exact⟨rfl,j⟩
theorem KE(U:Option Addr)(c:Nat)(m:Mt)(w:aS)(hp:eS kI w U m.d.path)(hl:m.d.path.length<=1000000):
  qK 143 #[E1 U c m] w λe w'=>(∃v,e=aO (aH #[v,qI m.d.op,qI m.d.n,qI m.v,qI m.test,qI m.out.1,qI m.out.2,aB m.dig])/\eD kI 3 w w' v m.d.path)/\Bl w w':=by unfold E1;obtain⟨V,Z⟩:=eR ((w.alloc (aK #[aA U m.d.path.length c,m.d.op,m.d.n,m.v,m.test,m.out.1,m.out.2,m.dig] 42)).alloc (aK #[qN,qI 0,qI 0,qI 0,qI 0,qI 0,qI 0,aB ⟨#[]⟩] 42));obtain⟨W,x,O,ag⟩:=iY Z;have x0:=nS W;have HP:=eC (hp.later O);obtain⟨Q,Y⟩:∃Q:Ending->aS->Prop,(λe w'=>(∃v,e=aO (aH #[v,m.d.op,m.d.n,m.v,m.test,m.out.1,m.out.2,m.dig])/\eD kI 3 w w' v m.d.path)/\Bl w w')=Q:=⟨_,rfl⟩;rw[Y];change Hid _ at W x O Z hl ag Y;clear hp;go_enter func143,ntmps143;go_wp2_with(first|(rw[Z])|(at_builtin;refine B8 (K:=kI) (E:=3) rV (λh=>h) rfl (.const qN) (.tmp 5) rfl V qN [] rfl (eD.nil _ _ _ _) U c m.d.path rfl HP (by have:=hl.out;simp;omega) (eX _) ?_;intro v6 N f af R;obtain⟨D,J,rfl,_⟩:=eL f;have M:=(R.block _ (fB.1 W).1).trans W;have ai:=nS M;have aj:=tK M;have j:=iB N w 0 _ _ (aA D m.d.path.length J) M;have S:=(eF (w:=N) (b:=(w:Nat)) (i:=0) (k:=(w:Nat)+1) (aA D m.d.path.length J) zO).trans ((R.block _ (fB.1 x).1).trans x);have ab:eD kI 3 V N (aA D m.d.path.length J) m.d.path:=(by simpa using f);have X:=eC ((fJ ab zD (λt u=>u.elim) M (λk B=>eF (w:=N) (i:=0) (aA D m.d.path.length J) B)).mono O.size);obtain⟨W7,aa⟩:=eR (qS N (w,0) (aA D m.d.path.length J));have ac:Hid (Bl w W7):=eC (by rw[<-aa];exact(fC O R).setCell (eX _) _);rw[aa]at j S X;obtain⟨a0,a1,a2,a3,a4,a5,a6,a7⟩:=pQ8 j;obtain⟨b0,b1,b2,b3,b4,b5,b6,b7⟩:=pQ8 S;have f0:=tK S;have y:=eC S;clear f af R M j ab));have ae:=eC (iB _ _ 7 _ _ (aB m.dig) (iB _ _ 6 _ _ (qI m.out.2) (iB _ _ 5 _ _ (qI m.out.1) (iB _ _ 4 _ _ (qI m.test) (iB _ _ 3 _ _ (qI m.v) (iB _ _ 2 _ _ (qI m.d.n) (iB _ _ 1 _ _ (qI m.d.op) (iB _ _ 0 _ _ (aA D m.d.path.length J) y))))))));have ah:=eC X;rw[<-Y];exact gO (EP rfl _ _ ((w:Nat)+1) 42 _ (0,0) _ rfl ae underlying42 rfl zK) rfl ⟨⟨_,rfl,fJ X zD (λt u=>u.elim) y (λk B=>((eF _ B).trans ((eF _ B).trans ((eF _ B).trans ((eF _ B).trans ((eF _ B).trans ((eF _ B).trans ((eF _ B).trans (eF _ B)))))))))⟩,(Below.setCell (Below.setCell (Below.setCell (Below.setCell (Below.setCell (Below.setCell (Below.setCell (Below.setCell ac (sA _) _) (sA _) _) (sA _) _) (sA _) _) (sA _) _) (sA _) _) (sA _) _) (sA _) _)⟩
structure sQ where
 fn:FuncId
 tmps:Array aT
 ps:Array Tmp
 assign:Code
 body:Code
 D:Nat
 l:Nat
def sQ.lrec(B:sQ)(st:LoopState)(d:Option Code):Loop:={state:=st,pending:=d,fn:=B.fn,tmps:=B.tmps,params:=B.ps,assign:=B.assign,body:=B.body,defers:=B.D}
structure iP(B:sQ)(st:LoopState)(pe:Option Code)(W:aS):Prop where
 lp:W.heap[B.l]?=some (aN (B.lrec st pe))
 df:W.heap[B.D]?=some (aM (some []))
theorem iP.lt{B:sQ}{st:LoopState}{d:Option Code}(h:iP B st d W):B.l<W/\B.D<W:=⟨(fB.1 h.lp).1,(fB.1 h.df).1⟩
theorem iP.later{B:sQ}{st:LoopState}{f:Option Code}{d:aS}(h:iP B st f W)(e:Bl W d):iP B st f d:=⟨(e.block _ h.lt.1).trans h.lp,(e.block _ h.lt.2).trans h.df⟩
theorem iP.chg{B:sQ}{st:LoopState}{f:Option Code}{M:Nat->Prop}{d:aS}(h:iP B st f W)(e:eZ M W d)(g:¬M B.l)(i:¬M B.D):iP B st f d:=⟨(e.block _ h.lt.1 g).trans h.lp,(e.block _ h.lt.2 i).trans h.df⟩
theorem iP.put{B:sQ}{st g:LoopState}{i f:Option Code}(h:iP B st i W):iP B g f (W.putObj B.l (aN (B.lrec g f))):=
 ⟨G1 h.lt.1,(jY (by intro e;have d:=h.lp;rw[<-e,h.df]at d;cases d)).trans h.df⟩
def sO(B:sQ)(R:Ending->aS->Prop):Exit->Act->aS->Prop
 |.normal,_,W3=>iP B .busy none W3/\R (aO (aG true)) (W3.putObj B.l (aN (B.lrec .ready none)))
 |.ret,_,W3=>iP B .busy none W3/\R (aO (aG false)) (W3.putObj B.l (aN (B.lrec .done (some .ret))))
 |.exit id,_,W3=>iP B .busy none W3/\R (aO (aG false)) (W3.putObj B.l (aN (B.lrec .done (some (.exit id)))))
 |_,_,_=>False
theorem O9{B:sQ}{D:Array aT}{R:Ending->aS->Prop}(M:Act)(J:iP B .ready none W)(S:Fence.wide.fn B.fn)(U:D.size=B.ps.size)
  (N:∀K:Act->aS->Prop,K M W->B.assign.wpIn (Fence.wide.inRound B.l) n P (Exit.then K (λ_ _ _=>False)) {tmps:=(B.ps.zip D).foldl (λt (p,v)=>t.setIfInBounds p v) B.tmps,defers:=[]} W)
  (O:iP B .busy none (W.putObj B.l (aN (B.lrec .busy none)))->B.body.wpIn (Fence.wide.inRound B.l) n P (sO B R) M (W.putObj B.l (aN (B.lrec .busy none)))):
  YieldAt Fence.wide 0 P B.l D W R:=by
 refine YieldAt.any (n:=n) ?_;have X:=run_yield (P:=P) (args:=D) J.lp (by exact U);refine⟨B.fn,_,B.assign,B.body,X,roundIn_of_wpIn S (N _ ⟨_,run_beginRound J.lp rfl,wpIn_mono (O J.put) ?_⟩)⟩;rintro e Z Y hq;cases e with
 |normal=>exact⟨_,_,run_endRound (P:=P) none hq.1.lp,hq.2⟩
 |ret=>exact⟨_,_,run_endRound (P:=P) (some .ret) hq.1.lp,hq.2⟩
 |exit id=>exact⟨_,_,run_endRound (P:=P) (some (.exit id)) hq.1.lp,hq.2⟩
 |goto t=>exact hq.elim
 |panic ch=>exact hq.elim
 |outgrown=>exact hq.elim
theorem AU{F:Fence}{m:Nat}{ops:Array Oper}{J:List Oper}{o:Oper}(U:o.guard=none)(D x v:Operand)(t:aX)(B:o.op=Op.mapUpdate t D x v)(M O N:aT)
  (hm:a.eval D=M)(Y:a.eval x=O)(X:a.eval v=N){w':aS}(W:(Instr.mapUpdate t M O N).run P w=.ok () w')(h:wpListIn F m P ops Q J (a.put o.dst undef) w'):wpListIn F m P ops Q (o::J) a w:=by
 refine wpListIn_plain U λZ R=>?_;unfold Oper.wpIn;refine⟨?_,?_⟩
 .simp[Oper.about,B]
 .rw[Oper.semAt_plain F _ _ (by rw[B];intro c S;cases S)];simp[execOp,B,hm,Y,X,W,Result.andThen];exact R _ _ h
theorem VV{g:Operand}{U:Array Tmp}{O R:Code}{gf:Nat}{lb:Array aT}
  (x:a.eval g=aD (.func gf) #[] lb)(Y:∀W w,(callFunc gf W).run P w=.ok (.enter gf W) w)
  (f:∀(B:sQ) (V:aS),B.tmps=a.tmps->B.ps=U->B.assign=O->B.body=R->B.D=w->B.l=w+1->Fence.wide.fn B.fn->iP B .ready none V->Bl w V->V=w.heap.size+1+1->
   CallsIn Fence.wide 1 P gf (#[aD (.yield B.l) #[] #[]]++lb) V λe N=>(∃v,e=aO v)/\
    ((iP B .ready none N/\∀o,Q .normal {a with defers:={target:=.collected B.D,args:=#[]}::a.defers} (N.putObj B.l o))\/
     ∃c,iP B .done (some c) N/\∀o,c.wpIn Fence.wide (n+2) P Q {a with defers:={target:=.collected B.D,args:=#[]}::a.defers} (N.putObj B.l o))):
  (Code.rangeFunc g U O R).wpIn Fence.wide (n+2) P Q a w:=by
 refine wpIn_rangeFunc λfn u=>?_;obtain⟨B,D⟩:∃B:sQ,B=⟨fn,a.tmps,U,O,R,w,w.heap.size+1⟩:=⟨_,rfl⟩;obtain⟨V,J⟩:=eR ((w.alloc (aM (some []))).alloc (aN (B.lrec .ready none)));have aa:V=w.heap.size+1+1:=by rw[<-J,fO,fO]
 have y:V.heap[w.heap.size+1]?=some (aN (B.lrec .ready none)):=by have:=E9 (w.alloc (aM (some []))) (aN (B.lrec .ready none));rw[fO,J]at this;exact this
 have j:V.heap[w.heap.size]?=some (aM (some [])):=by rw[<-J];exact(iI _ _ _ zS).trans (E9 w _)
 have Z:Bl w V:=by rw[<-J];exact(fL w _).alloc zS _
 have X:=f B V (by rw[D]) (by rw[D]) (by rw[D]) (by rw[D]) (by rw[D]) (by rw[D]) (by rw[D];exact u) ⟨by rw[show B.l=w.heap.size+1 by rw[D]];exact y,by rw[show B.D=w.heap.size by rw[D]];exact j⟩ Z aa;refine⟨w.heap.size+1,[{target:=.collected w,args:=#[]}],V,{target:=.fn (.func gf) lb,args:=#[aD (.yield (w.heap.size+1)) #[] #[]]},V,gf,
  #[aD (.yield (w.heap.size+1)) #[] #[]]++lb,V,?_,?_,(λ_ _=>trivial),?_,(λh=>by cases h),?_⟩
 .rw[<-J,D];exact run_enterLoop_outer _ _ _ _ _
 .simp only[resolve,x];simp[go_sem]
 .simp[invoke,go_sem,Y]
 .rw[show B.l=w.heap.size+1 by rw[D]]at X;refine(hH.2 ((hH (n:=1)).1 X)).mono ?_;rintro e W2⟨⟨v,rfl⟩,(⟨S,hq⟩|⟨c,S,hq⟩)⟩
  .have M:=S.lp;rw[show B.l=w.heap.size+1 by rw[D]]at M;refine⟨none,_,run_endLoop (P:=P) M (by simp[sQ.lrec]),?_⟩;have:=hq (aN {B.lrec .ready none with state:=.exhausted});rw[show B.D=w.heap.size by rw[D]]at this;exact this
  .have M:=S.lp;rw[show B.l=w.heap.size+1 by rw[D]]at M;refine⟨some c,_,run_endLoop (P:=P) M (by simp[sQ.lrec]),?_⟩;have:=hq (aN {B.lrec .done (some c)with state:=.exhausted});rw[show B.D=w.heap.size by rw[D]]at this;exact this
end Go.Proofs.YtgmjilingndloaaGreatDoor
