/- Part 11 of the proof of TopFuel. No conditions. -/
import Derived.Test.YtgmjilingndloaaGreatDoorZ10
open Array renaming getElem?_eq_some_iff->bD
open Go renaming TypeId->aX,Value->aT,World->aS,cell_of_row->aU,frozen_of_row->bE,maxLen->aZ
open Go.Ending renaming returned->aO
open Go.IntKind renaming i64->aP,u64->bK,wrap_u8->cK
open Go.Lib renaming hid->eB
open Go.Obj renaming cells->aK
open Go.RowKit renaming Below->aV,intOf->aW
open Go.Value renaming agg->aH,bool->aG,func->aD,int->aC,nilFunc->aJ,pointer->aE,slice->aA,string->aB,tuple->aF
open List renaming getElem?_eq_getElem->dU,length_take_le->dK,mem_of_mem_take->bW
open Nat renaming le_refl->bF
open UInt8 renaming ofNat->bI
namespace Go.Proofs.YtgmjilingndloaaGreatDoor
set_option linter.unusedVariables false
set_option linter.unusedSimpArgs false
set_option maxRecDepth 100000
set_option maxHeartbeats 20000000
open Go Go.RowKit Go.Proofs.Tryz
variable{w w' U:aS}{r a n a' j i b d:Nat}{S:ByteArray}{m:Mt}{p:Pg}{M:Int}{f:Array aT}{v:aT}{g:Dl}{L:List (List Int)}{x:Nd}
structure RB where
 p:Pg
 T:List (List Int)
 F:Int
 n:Nat
 rb:Nat
 va:Option Addr
 vc:Nat
 ba:Option Addr
 bc:Nat
 ta:Option Addr
 tc:Nat
 da:Option Addr
 dc:Nat
def PR(B:RB)(d x7 x8:Int)(e f:aT):List aT:=
 [aC aP B.p.pa,aA B.va B.p.vs.length B.vc,aA B.ba B.p.bd.length B.bc,aA B.ta B.T.length B.tc,aC aP B.F,aA B.da (fH B.p).length B.dc,aC aP d,aC .u32 x7,aC .i32 x8,aC .u32 0,e,f]
def aHN(B:RB)(U:aS):Prop:=iE U B.va B.ba B.vc B.bc B.p/\gG U B.ta B.T/\eS kD U B.da (fH B.p)
structure vD(B:RB)(w:aS):Prop where
 rb:B.rb<B.n
 nw:B.n<=(w:Nat)
 data:∀U:aS,B.n<=(U:Nat)->(∀k,k<B.n->k≠B.rb->U.heap[k]?=w.heap[k]?)->aHN B U
def aBp(B:RB)(k:Nat):Prop:=k=B.rb\/B.n<=k
theorem vD.chg{B:RB}(h:vD B w)(f:eZ (aBp B) w w'):vD B w':=
 ⟨h.rb,fA h.nw f.size,λU g i=>h.data U g λk d e=>(i k d e).trans (f.block k (gV d h.nw) (λhm=>by obtain hm|hm:=hm;exact e hm;omega))⟩
theorem vD.now{B:RB}(h:vD B w):aHN B w:=h.data w h.nw λ_ _ _=>rfl
theorem vD.set{B:RB}{w:aS}(h:vD B w)(i:Nat)(v:aT):vD B (qS w (B.rb,i) v):=h.chg ((eZ.refl _ w).set (.inl (.inl rfl)) _)
structure aCv(B:RB):Prop where
 fit:Fit B.p B.T
 kc:gH B.p=0
 cf:pW B.p.pa B.T B.F=0
def aJ3(B:RB)(w:aS)(e:Ending)(w':aS):Prop:=
 e=aO (aF #[])/\∃d f,w'=d.setCell ⟨B.rb,10,none⟩ f/\aV (w:Nat) w d/\eD kO 40 (w:Nat) d f (rW B.p B.T B.F)
theorem aGD(B:RB)(d x7 x8:Int)(bv mv:aT)(w:aS)(hf:aCv B)(X:vD B w)(J:w.heap[B.rb]?=some (aK (PR B d x7 x8 bv mv).toArray 142 (0,0))):
  qK 153 #[aE (some ⟨B.rb,0,none⟩)] w (aJ3 B w):=by obtain⟨y,ht,hd⟩:=(X.data w.drew X.nw (λ_ _ _=>rfl));have R:=aD8 B.p B.va B.ba B.ta B.vc B.bc B.tc B.T B.F w.drew y ht hf.fit hf.kc hf.cf;have x:=(fB.1 J).1;obtain⟨Z,f,j,e3,u⟩:=pQ5 J;have HB:=eC J;have N:=eC x;unfold kE at R;have ab:=eC R;obtain⟨Q,S⟩:=eR (aJ3 B w);rw[S];have HQ:=eC S;clear R J x y ht hd X hf S;generalize aa:B.rb=rb at*;have ac:=eC aa;clear aa;go_enter func153,ntmps153;go_wp2;go_region_held3(λU=>U.cell? ⟨rb,0,none⟩=some (aC aP B.p.pa)/\U.cell? ⟨rb,1,none⟩=some (aA B.va B.p.vs.length B.vc)/\U.cell? ⟨rb,2,none⟩=some (aA B.ba B.p.bd.length B.bc)/\U.cell? ⟨rb,3,none⟩=some (aA B.ta B.T.length B.tc)/\U.cell? ⟨rb,4,none⟩=some (aC aP B.F)) (first|(with_reducible assumption)|exact⟨Z,f,j,e3,u⟩|exact HK _) ((go_at_call 205;refine ab.mono ?_;rintro e D⟨⟨ae,rfl,W⟩,M⟩;obtain⟨ga,gc,rfl,_⟩:=fV W;have O:D.cell? ⟨rb,0,none⟩=some (aC aP B.p.pa)/\D.cell? ⟨rb,1,none⟩=some (aA B.va B.p.vs.length B.vc)/\D.cell? ⟨rb,2,none⟩=some (aA B.ba B.p.bd.length B.bc)/\D.cell? ⟨rb,3,none⟩=some (aA B.ta B.T.length B.tc)/\D.cell? ⟨rb,4,none⟩=some (aC aP B.F):=⟨fX M N Z,fX M N f,fX M N j,fX M N e3,fX M N u⟩;have HK:=eC (λv=>show(D.setCell ⟨rb,10,none⟩ v).cell? ⟨rb,0,none⟩=some (aC aP B.p.pa)/\(D.setCell ⟨rb,10,none⟩ v).cell? ⟨rb,1,none⟩=some (aA B.va B.p.vs.length B.vc)/\(D.setCell ⟨rb,10,none⟩ v).cell? ⟨rb,2,none⟩=some (aA B.ba B.p.bd.length B.bc)/\(D.setCell ⟨rb,10,none⟩ v).cell? ⟨rb,3,none⟩=some (aA B.ta B.T.length B.tc)/\(D.setCell ⟨rb,10,none⟩ v).cell? ⟨rb,4,none⟩=some (aC aP B.F)from⟨(q9 _ ⟨rb,10,none⟩ ⟨rb,0,none⟩ _ (by simp)).trans O.1,(q9 _ ⟨rb,10,none⟩ ⟨rb,1,none⟩ _ (by simp)).trans O.2.1,(q9 _ ⟨rb,10,none⟩ ⟨rb,2,none⟩ _ (by simp)).trans O.2.2.1,(q9 _ ⟨rb,10,none⟩ ⟨rb,3,none⟩ _ (by simp)).trans O.2.2.2.1,(q9 _ ⟨rb,10,none⟩ ⟨rb,4,none⟩ _ (by simp)).trans O.2.2.2.2⟩);have Y:=(M.block rb N).trans HB;have ag:=aDU Y;have af:=tK Y;change Hid _ at W M;clear Y));go_wp2;rw[<-HQ];go_end0;have J:=M.out;exact⟨rfl,D,_,by rw[ac],⟨J.os,J.tape,J.output,J.size,J.block⟩,W⟩
structure G6(B:RB)(w:aS)(d:Nat)(x7:Int)(bv mv:aT)(outs:List (Int×Int))(ms:List Mt):Prop where
 good:vD B w
 box:w.heap[B.rb]?=some (aK (PR B d x7 0 bv mv).toArray 142 (0,0))
 base:eD kO 40 B.n w bv outs
 muts:eD kM 42 B.n w mv ms
 ask:x7=0\/x7=1/\outs=rW B.p B.T B.F
theorem uX{B:RB}{e:aT}{d:List Mt}(h:eD kM 42 B.n w e d)(g:qB w B.rb f 142)(i:Nat)(v:aT):eD kM 42 B.n (qS w (B.rb,i) v) e d:=
 fJ h zD (λt m=>by rw[show t=3 from m];decide) g λk j=>eF _ j
theorem vG{B:RB}{d:aT}{e:List (Int×Int)}(h:eD kO 40 n w d e)(g:qB w B.rb f 142)(i:Nat)(v:aT):eD kO 40 n (qS w (B.rb,i) v) d e:=
 fJ h zD (λt m=>m.elim) g λk j=>eF _ j
theorem EU{α:Type}{K:lL α}{E:aX}{L:List α}(h:eD K E n w v L):eD K E n w.drew v L:=h.on (λ_ _=>rfl) λx _ vs hv=>K.on hv λ_ _ _ _ _ _=>rfl
def aJA(B:RB)(w:aS)(d:Nat)(h:aT)(g:List Mt)(e:Ending)(w':aS):Prop:=e=aO (aF #[])/\∃f,G6 B w' d 1 f h (rW B.p B.T B.F) g/\eZ (λq=>q=B.rb) w w'
theorem aA0(B:RB)(d:Nat)(x7:Int)(u s:aT)(X:List (Int×Int))(F:List Mt)(w:aS)(hf:aCv B)(h:G6 B w d x7 u s X F):
  qK 152 #[qP B.rb 7,aD (.func 153) #[qP B.rb 0] #[]] w (aJA B w d s F):=by
 obtain h0|⟨h1,h2⟩:=h.ask
 .subst h0;obtain⟨-,-,-,-,-,-,-,x,L⟩:=pQ9 h.box;have G:=(fB.1 h.box).1;obtain⟨i,j⟩:=eR (qS w (B.rb,8) (aC .i32 1));have A:i.heap[B.rb]?=some (aK (PR B d 0 1 u s).toArray 142 (0,0)):=by rw[<-j];exact iB w B.rb 8 _ _ (aC .i32 1) h.box
  have K:vD B i:=by rw[<-j];exact h.good.set _ _
  have S:eD kM 42 B.n i s F:=by rw[<-j];exact uX h.muts h.box _ _
  have O:eZ (λq=>q=B.rb) w i:=by rw[<-j];exact eZ.set (M:=λq=>q=B.rb) (eZ.refl _ w) (.inl rfl) _
  have E:=aGD B d 0 1 u s i hf K A;refine(T3 B.rb 7 153 #[qP B.rb 0] (λW=>∃f g,W=qS f (B.rb,10) g/\Bl i f/\eD kO 40 i f g (rW B.p B.T B.F)) w (l8 func153 zK rfl) x L (g8 w _ 7 _ _ h.box) (g8 w _ 8 _ _ h.box) ?_).mono ?_
  .rw[j];refine E.mono ?_;rintro e W⟨rfl,f,g,rfl,m,D⟩;have r:=(m.block _ (by rw[<-j];simpa using G)).trans A;have n:=iB f B.rb 10 _ _ g r;exact⟨⟨_,rfl⟩,⟨LI n,pE8 n,g8 _ _ 7 _ _ n,g8 _ _ 8 _ _ n⟩,f,g,rfl,m,D⟩
  .rintro e w'⟨rfl,W,⟨f,g,rfl,m,D⟩,rfl⟩;have R:B.rb<i:=by rw[<-j];simpa using G
   have r:=(m.block _ R).trans A;have n:=iB f B.rb 10 _ _ g r;have C:(qS f (B.rb,10) g).drew.heap[B.rb]?=_:=n;have y:=iB _ B.rb 7 _ _ (aC .u32 1) C;have N:=iB _ B.rb 8 _ _ (aC .i32 0) y;have J:eZ (λq=>q=B.rb) w (DY B.rb 7 (qS f (B.rb,10) g)):=by unfold DY;exact eZ.set (M:=λq=>q=B.rb) (eZ.set (M:=λq=>q=B.rb) (eZ.set (M:=λq=>q=B.rb) (O.then m) (.inl rfl) _).drew (.inl rfl) _) (.inl rfl) _
   refine⟨rfl,g,⟨h.good.chg (J.mono λk _ E=>.inl E),N,?_,?_,.inr ⟨rfl,rfl⟩⟩,J⟩
   .have U:B.n<=i:=K.nw;unfold DY;exact vG (B:=B) (vG (B:=B) (EU (vG (B:=B) (D.mono U) r _ _)) C _ _) y _ _
   .unfold DY;exact uX (uX (EU (uX (S.later m) r _ _)) C _ _) y _ _
 .subst h1 h2;have x:=LI h.box;refine(aE8 B.rb 7 153 #[qP B.rb 0] w x).mono ?_;rintro e w'⟨rfl,rfl⟩;exact⟨rfl,u,h,eZ.refl _ _⟩
structure aEN(q:Pg):Prop where
 p64:P64 q
 vl:q.vs.length<=1000000
 bl:q.bd.length<=100000
def wF(e:Option Addr)(f:Nat)(d:Dl)(b:Mt):Array aT:=#[aA e d.path.length f,aC aP d.op,aC aP d.n,aC aP b.v,aC aP b.test,aC aP b.out.1,aC aP b.out.2,aB b.dig]
structure JSt(pa:Option Addr)(pc:Nat)(dl:Dl)(w1 W4:aS)(best:Mt)(wr:aS):Prop where
 bel:aV w1 w1 wr
 keep:∀k,(w1:Nat)+1<=k->k<(W4:Nat)->wr.heap[k]?=W4.heap[k]?
 sz:(W4:Nat)<=(wr:Nat)
 bd:best.d=dl
 bx:wr.heap[(w1:Nat)]?=some (aK (wF pa pc dl best) 42 (0,0))
theorem JSt.later{i:Option Addr}{m e wr:aS}{f:Mt}(h:JSt i j g m e f wr)(d:Bl wr U):JSt i j g m e f U:=
 ⟨h.bel.trans (d.mono h.bel.size),λk n q=>(d.block k (by have:=h.sz;omega)).trans (h.keep k n q),fA h.sz d.size,h.bd,(d.block _ (fB.1 h.bx).1).trans h.bx⟩
def UV(B:RB)(w:aS)(d:Nat)(i:aT)(h:List Mt)(j:aT)(f:Dl)(e:Ending)(w':aS):Prop:=
 ∃m:Mt,m=fQ iC B.p B.T B.F f/\e=aO (aH #[j,aC aP f.op,aC aP f.n,aC aP m.v,aC aP m.test,aC aP m.out.1,aC aP m.out.2,aB m.dig])/\m.d=f/\(∃g,G6 B w' d 1 g i (rW B.p B.T B.F) h)/\eZ (λq=>q=B.rb) w w'
theorem G6.later{B:RB}{w w':aS}{d:Nat}{x7:Int}{f i:aT}{j:List (Int×Int)}{g:List Mt}(h:G6 B w d x7 f i j g)(e:Bl w w'):G6 B w' d x7 f i j g:=
 ⟨h.good.chg (eZ.of e),(e.block _ (fB.1 h.box).1).trans h.box,h.base.later e,h.muts.later e,h.ask⟩
theorem JX{W:aS}{M:Nat->Prop}(x0 x1 x2 x3 x4 x5 x6 x7:aT)(e:Option Addr)(f:Nat)(d:Dl)(m:Mt)(h:qB W b #[x0,x1,x2,x3,x4,x5,x6,x7] 42)(J:eZ M U W)(g:M b\/U<=b):
  (qS (qS (qS (qS (qS (qS (qS (qS W (b,0) (aA e d.path.length f)) (b,1) (qI d.op)) (b,2) (qI d.n)) (b,3) (qI m.v)) (b,4) (qI m.test)) (b,5) (qI m.out.1)) (b,6) (qI m.out.2)) (b,7) (aB m.dig)).heap[b]?=some (aK (wF e f d m) 42 (0,0))/\eZ M U (qS (qS (qS (qS (qS (qS (qS (qS W (b,0) (aA e d.path.length f)) (b,1) (qI d.op)) (b,2) (qI d.n)) (b,3) (qI m.v)) (b,4) (qI m.test)) (b,5) (qI m.out.1)) (b,6) (qI m.out.2)) (b,7) (aB m.dig)):=by have G:=J;have x:qB (qS W (b,0) (aA e d.path.length f)) b #[aA e d.path.length f,x1,x2,x3,x4,x5,x6,x7] 42:=iB _ b 0 _ _ _ h;have i:eZ M U (qS W (b,0) (aA e d.path.length f)):=G.set g _;generalize qS W (b,0) (aA e d.path.length f)=W1 at x i|-;have y:qB (qS W1 (b,1) (qI d.op)) b #[aA e d.path.length f,d.op,x2,x3,x4,x5,x6,x7] 42:=iB _ b 1 _ _ _ x;have j:eZ M U (qS W1 (b,1) (qI d.op)):=i.set g _;generalize qS W1 (b,1) (qI d.op)=W2 at y j|-;have A:qB (qS W2 (b,2) (qI d.n)) b #[aA e d.path.length f,d.op,qI d.n,x3,x4,x5,x6,x7] 42:=iB _ b 2 _ _ _ y;have k:eZ M U (qS W2 (b,2) (qI d.n)):=j.set g _;generalize qS W2 (b,2) (qI d.n)=W3 at A k|-;have B:qB (qS W3 (b,3) (qI m.v)) b #[aA e d.path.length f,d.op,qI d.n,m.v,x4,x5,x6,x7] 42:=iB _ b 3 _ _ _ A;have n:eZ M U (qS W3 (b,3) (qI m.v)):=k.set g _;generalize qS W3 (b,3) (qI m.v)=W4 at B n|-;have C:qB (qS W4 (b,4) (qI m.test)) b #[aA e d.path.length f,d.op,qI d.n,m.v,m.test,x5,x6,x7] 42:=iB _ b 4 _ _ _ B;have q:eZ M U (qS W4 (b,4) (qI m.test)):=n.set g _;generalize qS W4 (b,4) (qI m.test)=W5 at C q|-;have D:qB (qS W5 (b,5) (qI m.out.1)) b #[aA e d.path.length f,d.op,qI d.n,m.v,m.test,m.out.1,x6,x7] 42:=iB _ b 5 _ _ _ C;have r:eZ M U (qS W5 (b,5) (qI m.out.1)):=q.set g _;generalize qS W5 (b,5) (qI m.out.1)=W6 at D r|-;have E:qB (qS W6 (b,6) (qI m.out.2)) b #[aA e d.path.length f,d.op,qI d.n,m.v,m.test,m.out.1,m.out.2,x7] 42:=iB _ b 6 _ _ _ D;have s:eZ M U (qS W6 (b,6) (qI m.out.2)):=r.set g _;generalize qS W6 (b,6) (qI m.out.2)=W7 at E s|-;have F:qB (qS W7 (b,7) (aB m.dig)) b #[aA e d.path.length f,d.op,qI d.n,m.v,m.test,m.out.1,m.out.2,m.dig] 42:=iB _ b 7 _ _ _ E;have u:eZ M U (qS W7 (b,7) (aB m.dig)):=s.set g _;generalize qS W7 (b,7) (aB m.dig)=W8 at F u|-;exact⟨F,u⟩
theorem G6.mut_box{B:RB}{m:aS}{z:Nat}{x7:Int}{n j:aT}{y:List (Int×Int)}{u:List Mt}{A:Array aT}(h:G6 B U d x7 n j y u)(g:eZ (λq=>q=z) U m)(s:qB U z A 42)(D:B.n<=z)(hm:∀k,j.ownBlock=some k->k≠z):G6 B m d x7 n j y u:=
 ⟨h.good.chg (g.mono λk _ f=>.inr (by rw[f];exact D)),(g.block _ (fB.1 h.box).1 (λe=>by have:=h.good.rb;omega)).trans h.box,
  h.base.on (λk f=>g.block k (h.base.lt k f).2 (λe=>by obtain⟨C,r⟩:=h.base.tag k f;rw[e,s]at r;cases r)) (λx _ F i=>i),
  h.muts.on (λk f=>g.block k (h.muts.lt k f).2 (hm k f)) (λx _ F i=>kM.on i λk C t G f E=>g.block k (fB.1 f).1 (λe=>by rw[e,s]at f;cases f;exact absurd (show(42:aX)=3 from E) zD)),h.ask⟩
theorem EJ{α:Type}{K:lL α}{E:aX}{m c:Nat}{a:Option Addr}{L:List α}(h:eD K E n w (aA a m c) L):eS K w a L:=by obtain⟨a',c',e,hl⟩:=eL h;cases e;exact hl
theorem aBS{a:Option Addr}(h:gG w a L)(f:0<L.length):∃b d,a=some ⟨b,d,none⟩:=by
 obtain h|⟨b,d,e,_⟩:=h
 .rw[h]at f;simp at f
 .exact⟨b,d,e⟩
theorem aGa{g:Nat}(h:gG w (some (b,g)) L){k:Nat}{l:List Int}(f:L[k]?=some l):∃d c,w.cell? (b,g+k)=some (aA d l.length c)/\eS kI w d l:=by
 obtain h|⟨b',off',e,_,h⟩:=h
 .rw[h]at f;simp at f
 .cases e;obtain⟨d,c,i,j⟩:=h k l f;exact⟨d,c,i,uD j⟩
theorem aF4{g d:Option Addr}{q:Nat}(h:iE w g d q i p)(u:∀ad,g=some ad->p.vs≠[]->n<=ad.block)(r:∀ad,d=some ad->p.bd≠[]->n<=ad.block)(m:w<=(w':Nat))(j:∀k,n<=k->k<(w:Nat)->w'.heap[k]?=w.heap[k]?):iE w' g d q i p:=
 ⟨lH h.1 m λad e s f=>j _ (u ad e s) f,by
  by_cases he:p.bd=[]
  .exact .inl he
  .exact h.2.1.kept m λad e f=>j _ (r ad e he) f,h.2.2⟩
theorem jU(W:aS)(b:Nat)(x0 x1 x2 x3 x4 x5 x6 x7:aT)(h:i≠b):(qS (qS (qS (qS (qS (qS (qS (qS W (b,0) x0) (b,1) x1) (b,2) x2) (b,3) x3) (b,4) x4) (b,5) x5) (b,6) x6) (b,7) x7).cell? (i,j)=W.cell? (i,j):=by have d:∀(U:aS)(k:Nat)(x:aT),(qS U (b,k) x).cell? (i,j)=U.cell? (i,j):=λU k x=>q9 _ _ _ _ (λe=>h (congrArg Addr.block e).symm);rw[d,d,d,d,d,d,d,d]
theorem JSt.set{i:Option Addr}{f:Dl}{d n wr U:aS}{u:Mt}(h:JSt i j f d n u wr)(hd:m.d=f)(x:d<(n:Nat)):JSt i j f d n m (qS (qS (qS (qS (qS (qS (qS (qS wr (d,0) (aA i f.path.length j)) (d,1) (qI f.op)) (d,2) (qI f.n)) (d,3) (qI m.v)) (d,4) (qI m.test)) (d,5) (qI m.out.1)) (d,6) (qI m.out.2)) (d,7) (aB m.dig)):=by obtain⟨r,g⟩:=JX (M:=λq=>q=(d:Nat)) (U:=wr) _ _ _ _ _ _ _ _ i j f m h.bx (eZ.refl _ wr) (.inl rfl);generalize(qS (qS (qS (qS (qS (qS (qS (qS wr (d,0) (aA i f.path.length j)) (d,1) (qI f.op)) (d,2) (qI f.n)) (d,3) (qI m.v)) (d,4) (qI m.test)) (d,5) (qI m.out.1)) (d,6) (qI m.out.2)) (d,7) (aB m.dig))=W at r g|-;exact⟨⟨g.os.trans h.bel.os,g.tape.trans h.bel.tape,g.output.trans h.bel.output,fA h.bel.size g.size,λk s=>(g.block k (gV s h.bel.size) (λe=>zO)).trans (h.bel.block k s)⟩,λk a b=>(g.block k (gV b h.sz) (λe=>zO)).trans (h.keep k a b),fA h.sz g.size,hd,r⟩
theorem MY{B:RB}{n E j:aS}{u s:aT}{D:List Mt}{h:Option Addr}{f:Mt}(m:JSt h i g n E f j)(J:f=fQ iC B.p B.T B.F g)(F:G6 B n d 1 u s (rW B.p B.T B.F) D)(K:eZ (λq=>q=B.rb) w n)(C:qB n ((w:Nat)+1) #[qN,qI 0,qI 0,qI 0,qI 0,qI 0,qI 0,aB ⟨#[]⟩] 42)(N:B.n<=w)(hm:∀k,s.ownBlock=some k->k<(w:Nat)):
  (qS (qS (qS (qS (qS (qS (qS (qS j ((w:Nat)+1,0) (aA h g.path.length i)) ((w:Nat)+1,1) (qI g.op)) ((w:Nat)+1,2) (qI g.n)) ((w:Nat)+1,3) (qI f.v)) ((w:Nat)+1,4) (qI f.test)) ((w:Nat)+1,5) (qI f.out.1)) ((w:Nat)+1,6) (qI f.out.2)) ((w:Nat)+1,7) (aB f.dig)).heap[(w:Nat)+1]?=some (aK (wF h i g f) 42 (0,0))/\UV B w d s D (aA h g.path.length i) g (aO (aH (wF h i g f))) (qS (qS (qS (qS (qS (qS (qS (qS j ((w:Nat)+1,0) (aA h g.path.length i)) ((w:Nat)+1,1) (qI g.op)) ((w:Nat)+1,2) (qI g.n)) ((w:Nat)+1,3) (qI f.v)) ((w:Nat)+1,4) (qI f.test)) ((w:Nat)+1,5) (qI f.out.1)) ((w:Nat)+1,6) (qI f.out.2)) ((w:Nat)+1,7) (aB f.dig)):=by have r:=(m.bel.block _ (fB.1 C).1).trans C;obtain⟨x,y⟩:=JX (M:=λq=>q=(w:Nat)+1) (U:=j) _ _ _ _ _ _ _ _ h i g f r (eZ.refl _ j) (.inl rfl);obtain⟨_,A⟩:=JX (M:=λq=>q=B.rb) (U:=w) _ _ _ _ _ _ _ _ h i g f r (K.then m.bel) (.inr (sA _));have G:=F.later m.bel;generalize(qS (qS (qS (qS (qS (qS (qS (qS j ((w:Nat)+1,0) (aA h g.path.length i)) ((w:Nat)+1,1) (qI g.op)) ((w:Nat)+1,2) (qI g.n)) ((w:Nat)+1,3) (qI f.v)) ((w:Nat)+1,4) (qI f.test)) ((w:Nat)+1,5) (qI f.out.1)) ((w:Nat)+1,6) (qI f.out.2)) ((w:Nat)+1,7) (aB f.dig))=W at x y A|-;exact⟨x,f,J,rfl,m.bd,⟨u,G.mut_box y r zO (λk L e=>by have:=hm k L;omega)⟩,A⟩
def yT(t:Int):Bool:=t==2||t==3||t==4||t==20||t==21||t==22
def QC(x:Nd):List UInt8:=if x.1=1 then eK (iT x.2)else if yT x.1=true then eK x.2.toNat else []
def ndL(x:Nd):List UInt8:=bI x.1.toNat::QC x
def vB:List Int->List UInt8
 |[]=>[]
 |t::r=>bI t.toNat::vB r
def iK:List Nd->List UInt8
 |[]=>[]
 |x::r=>ndL x++iK r
def yW(p:Pg):List UInt8:=[]++eK p.pa.toNat++eK p.vs.length
def GC(p:Pg):List UInt8:=yW p++vB p.vs++eK p.bd.length
def FE(p:Pg):List UInt8:=GC p++iK p.bd
theorem ZF(a b:List Int):vB (a++b)=vB a++vB b:=by
 induction a with
 |nil=>rfl
 |cons t r ih=>rw[rO,vB,vB,ih];rfl
theorem RY(a:List Int)(t:Int):vB (a++[t])=vB a++[bI t.toNat]:=by rw[ZF];rfl
theorem QK(a:List Int):(vB a).length=a.length:=by
 induction a with
 |nil=>rfl
 |cons t r ih=>rw[vB,iW,iW,ih]
theorem RM(a b:List Nd):iK (a++b)=iK a++iK b:=by
 induction a with
 |nil=>rfl
 |cons x r ih=>rw[rO,iK,iK,ih,jH]
theorem FR(a:List Nd)(x:Nd):iK (a++[x])=iK a++ndL x:=by rw[RM,iK,iK,EL]
structure X9(p:Pg):Prop where
 pa:0<=p.pa/\p.pa<=12
 vl:p.vs.length<=12
 bl:p.bd.length<=200
 vs:∀t∈p.vs,0<=t/\t<=255
 bd:∀x∈p.bd,0<=x.1/\x.1<=255/\rH x.2/\(yT x.1=true->0<=x.2/\x.2<=200)
 no:∀x∈p.bd,x.1≠1->yT x.1=false->x.2=0
theorem J9{t:Int}:yT t=true↔t=2\/t=3\/t=4\/t=20\/t=21\/t=22:=by simp[yT,or_assoc]
theorem aHu(h:rH x.2)(d:yT x.1=true->0<=x.2/\x.2<=200):(QC x).length<=10:=by
 unfold QC;split
 .exact eU (lW h)
 .split
  .rename_i e;have:=d e;exact eU (by unfold jG;omega)
  .simp
theorem aGe(h:rH x.2)(d:yT x.1=true->0<=x.2/\x.2<=200):(ndL x).length<=11:=by have:=aHu h d;simp only[ndL,iW];omega
theorem IK:∀{l:List Nd},(∀x∈l,0<=x.1/\x.1<=255/\rH x.2/\(yT x.1=true->0<=x.2/\x.2<=200))->(iK l).length<=11*l.length
 |[],h=>by simp[iK]
 |x::r,h=>by
  have d:=h x (DZ ..)
  have f:=aGe d.2.2.1 d.2.2.2
  have g:=IK (l:=r) λy e=>h y (BP _ e)
  simp only[iK,iR,iW]
  omega
theorem LE(h:X9 p):(yW p).length<=20:=by have d:=eU (m:=p.pa.toNat) (by have:=h.pa;unfold jG;omega);have e:=eU (m:=p.vs.length) (by have:=h.vl;unfold jG;omega);simp only[yW,iR,rP];omega
theorem OM(h:X9 p):(GC p).length<=42:=by have d:=LE h;have e:=eU (m:=p.bd.length) (by have:=h.bl;unfold jG;omega);have f:=QK p.vs;have g:=h.vl;simp only[GC,iR];omega
theorem aGX(h:X9 p):(FE p).length<=2242:=by have d:=OM h;have e:=IK h.bd;have f:=h.bl;simp only[FE,iR];omega
def eY:List Int->List UInt8
 |[]=>[]
 |n::r=>eK n.toNat++eY r
theorem NW(a b:List Int):eY (a++b)=eY a++eY b:=by
 induction a with
 |nil=>rfl
 |cons t r ih=>rw[rO,eY,eY,ih,jH]
theorem qQ(a:List Int)(n:Int):eY (a++[n])=eY a++eK n.toNat:=by rw[NW,eY,eY,EL]
def sZ(d:Dl):List UInt8:=[]++eK d.path.length
def QT(d:Dl):List UInt8:=sZ d++eY d.path++[bI d.op.toNat]++eK (iT d.n)
structure aAS(d:Dl):Prop where
 pl:d.path.length<=30
 path:∀n∈d.path,0<=n/\n<200
 op:1<=d.op/\d.op<=7
 n:rH d.n
theorem AK:∀{l:List Int},(∀n∈l,0<=n/\n<200)->(eY l).length<=10*l.length
 |[],h=>by simp[eY]
 |n::r,h=>by
  have e:=eU (m:=n.toNat) (by have:=h n (DZ ..);unfold jG;omega)
  have f:=AK (l:=r) λy d=>h y (BP _ d)
  simp only[eY,iR,iW]
  omega
theorem KW{d:Dl}(h:aAS d):(sZ d).length<=10:=by have e:=eU (m:=d.path.length) (by have:=h.pl;unfold jG;omega);simpa[sZ]using e
theorem IC{d:Dl}(h:aAS d):(QT d).length<=321:=by have e:=KW h;have f:=AK h.path;have g:=eU (lW h.n);have i:=h.pl;simp only[QT,iR,iW,rP];omega
def qG(m:Mt):Bool:=
 if m.v=0 then m.test==-1&&(m.out.1==0&&m.out.2==0)&&m.dig.toList.isEmpty
 else if m.v=1 then(decide (0<=m.test)&&decide (m.test<20)&&m.dig.size==32)&&(decide (0<=m.out.1)&&decide (m.out.1<=3)&&(m.out.1==0||m.out.2==0))
 else if m.v=2 then(decide (0<=m.test)&&decide (m.test<20)&&m.dig.size==32)&&(m.out.1==4&&m.out.2==0)
 else false
def pZ(m:Mt):List UInt8:=if m.v=0 then []else eK m.test.toNat++[bI m.out.1.toNat]++eK (iT m.out.2)++m.dig.data.toList
def oC(m:Mt):List UInt8:=(eK (QT m.d).length++QT m.d)++[bI m.v.toNat]
def PD(m:Mt):List UInt8:=oC m++pZ m
def lZ:List Mt->List UInt8
 |[]=>[]
 |m::r=>PD m++lZ r
theorem UD(a b:List Mt):lZ (a++b)=lZ a++lZ b:=by
 induction a with
 |nil=>rfl
 |cons t r ih=>rw[rO,lZ,lZ,ih,jH]
theorem MP(a:List Mt)(m:Mt):lZ (a++[m])=lZ a++PD m:=by rw[UD,lZ,lZ,EL]
def sK(l:List Mt):List UInt8:=[]++eK l.length
def MC(l:List Mt):List UInt8:=sK l++lZ l
structure EM(m:Mt):Prop where
 d:aAS m.d
 right:qG m=true
 o64:rH m.out.2
theorem vY(h:qG m=true):m.v=0/\m.test=-1/\m.out=(0,0)/\m.dig=⟨#[]⟩\/(m.v=1\/m.v=2)/\0<=m.test/\m.test<20/\m.dig.size=32/\0<=m.out.1/\m.out.1<=4:=by
 unfold qG at h;split at h
 .rename_i d;simp only[BV,beq_iff_eq,List.isEmpty_iff]at h;refine .inl ⟨d,h.1.1,Prod.ext h.1.2.1 h.1.2.2,?_⟩;have f:=h.2;rw[ByteArray.toList_eq]at f;apply ByteArray.ext;apply Array.ext';exact f
 .split at h
  .rename_i d e;simp only[BV,beq_iff_eq,AX,Bool.or_eq_true]at h;exact .inr ⟨.inl e,h.1.1.1,h.1.1.2,h.1.2,h.2.1.1,zO⟩
  .split at h
   .rename_i d e g;simp only[BV,beq_iff_eq,AX]at h;exact .inr ⟨.inr g,h.1.1.1,h.1.1.2,h.1.2,zO,zO⟩
   .cases h
theorem XU(h:EM m):(pZ m).length<=53:=by
 unfold pZ;obtain h1|h1:=vY h.right
 .rw[eI h1.1];simp
 .rw[eE zO];have e:=eU (m:=m.test.toNat) (by unfold jG;omega);have f:=eU (lW h.o64);have d:m.dig.data.toList.length=32:=by have:=h1.2.2.2.1;simpa using this
  simp only[iR,iW,rP,d];omega
theorem K7(h:EM m):(oC m).length<=332:=by have d:=IC h.d;have e:=eU (m:=(QT m.d).length) (by unfold jG;omega);simp only[oC,iR,iW,rP];omega
theorem ZO(h:EM m):(PD m).length<=385:=by have d:=K7 h;have e:=XU h;simp only[PD,iR];omega
theorem KO:∀{l:List Mt},(∀m∈l,EM m)->(lZ l).length<=385*l.length
 |[],h=>by simp[lZ]
 |m::r,h=>by
  have e:=ZO (h m (DZ ..))
  have f:=KO (l:=r) λy d=>h y (BP _ d)
  simp only[lZ,iR,iW]
  omega
theorem IP{l:List Mt}(h:l.length<=2000):(sK l).length<=10:=by have d:=eU (m:=l.length) (by unfold jG;omega);simpa[sK]using d
structure Sc where
 a:Int
 k:Int
 t:Int
def VP(s:Sc):List UInt8:=[]++eK s.a.toNat++eK s.k.toNat++eK s.t.toNat
structure aDP(s:Sc):Prop where
 a:0<=s.a/\s.a<=2000
 k:0<=s.k/\s.k<=2000
 t:0<=s.t/\s.t<=2000
structure Cp where
 p:Pg
 T:List (List Int)
 F:Int
 ms:List Mt
 sc:Sc
def kL(l:List Mt):Sc:=⟨mS 0 l,mS 1 l,mS 2 l⟩
def RA(k v:Int):aT:=.iface 414 (aH #[aC aP k,aC aP v])
def mX(k v:Int):Ending:=.panicked [{v:=RA k v,recovered:=false}]
theorem aE7(k v:Int)(w:aS):qK 315 #[qI k,qI v] w λe w'=>e=mX k v/\w=w':=by go_enter func315,ntmps315;go_wp2;exact⟨rfl,rfl,rfl⟩
theorem aDD(g:Nat)(i x:Int)(w:aS)(D:w.cell? (g,0)=some (qI x)):qK 432 #[aH #[qP g 0],qI i] w (Rt (aF #[qI x,aG true]) w):=by have J:=oF w _ D;have M:g<w:=J;have B:=eC ((iL w w).alloc (eX _) (aK #[qP g 0] 343));go_enter func432,ntmps432;go_wp2;go_ret2;exact⟨rfl,B⟩
theorem aCY(g:Nat)(i x y:Int)(w:aS)(B:w.cell? (g,0)=some (qI y))(hf:w.frozen? (g,0)=false):qK 433 #[aH #[qP g 0],qI i,qI x] w λe w'=>e=aO (aG true)/\w'=qS (w.alloc (aK #[qP g 0] 343)) (g,0) (qI x):=by have D:=oF w _ B;have J:g<w:=D;go_enter func433,ntmps433;go_wp2;go_ret;exact⟨rfl,rfl⟩
structure aG7(V2:aS)(q:Pg)(tq:Nat)(qa qb:Option Addr)(qc qd:Nat)(wx:aS):Prop where
 ge:(V2:Nat)<=tq
 bel:aV V2 V2 wx
 box:wx.heap[tq]?=some (aK #[aC aP q.pa,aA qa q.vs.length qc,aA qb q.bd.length qd] 25 (0,0))
 pg:iE wx qa qb qc qd q
 va:∀ad,qa=some ad->q.vs≠[]->(V2:Nat)<=ad.block
 ba:∀ad,qb=some ad->q.bd≠[]->(V2:Nat)<=ad.block
structure aFs(wr:aS)(r:Rn)(tr:Nat)(ea:Option Addr)(ec:Nat)(wx:aS):Prop where
 ge:(wr:Nat)<=tr
 bel:aV wr wr wx
 box:wx.heap[tr]?=some (aK #[aC aP r.out.1,aC aP r.out.2,aC aP r.st,aA ea r.ev.length ec] 243 (0,0))
 ls:eS kT wx ea r.ev
theorem aBn(B:RB)(d:Nat)(x7:Int)(bv mv:aT)(cp:List (Int×Int))(ms:List Mt)(X:Option Addr)(j:Nat)(J:Dl)(w:aS)(hf:aCv B)(h:G6 B w d x7 bv mv cp ms)(dz:eS kI w X J.path)(dA:J.path.length<=1000000)
  (c4:∀w',eZ (λq=>q=B.rb) w w'->eS kI w' X J.path)(hq:aEN (jA B.p J).1)(dB:B.p.vs.length<=1000):
  Calls prog 74 #[aE (some ⟨B.rb,0,none⟩),GL X j J] w (UV B w d mv ms (aA X J.path.length j) J):=by
 obtain⟨V,hV⟩:∃V,(w.alloc (aK #[aA X J.path.length j,aC aP J.op,aC aP J.n] 38)).alloc (aK #[aA none 0 0,aC aP 0,aC aP 0,aC aP 0,aC aP 0,aC aP 0,aC aP 0,aB ⟨#[]⟩] 42)=V:=⟨_,rfl⟩;obtain⟨r0,r1,bg,da⟩:=iY hV;have cB:G6 B V d x7 bv mv cp ms:=⟨h.good.chg (eZ.of bg),(bg.block _ (bD.1 h.box).1).trans h.box,h.base.later bg,h.muts.later bg,h.ask⟩;have CO:=eB (aA0 B d x7 bv mv cp ms V hf cB);have cs:=eB bg;have a4:=eB da;have cv:=eB r0;have cw:=eB r1;have cu:=eB (λk(hk:mv.ownBlock=some k)=>(h.muts.lt k hk).2);have HN:=eB (show B.n<=(w:Nat)/\B.rb<B.n from⟨h.good.nw,h.good.rb⟩);have dt:=eB c4;have dv:=eB hq;have HF:=eB hf;have eh:∀(fn:Fn)(first cz:Array aT)(w:aS),(Instr.makeFunc fn first cz).run prog w=.ok (.func fn first cz) w:=λ_ _ _ _=>rfl;obtain⟨Q,hQ⟩:∃Q,UV B w d mv ms (aA X J.path.length j) J=Q:=⟨_,rfl⟩;rw[hQ];have HQ:=eB hQ;clear bg da r0 r1 cB h dz c4 hq hf hQ;generalize c7:B.rb=rb at*;have au:=eB c7;clear c7;unfold GL;go_enter func74,ntmps74;go_wp2;refine wp_scope_jumps 0 (λa' w'=>False) (λa' _=>0) rfl ?_ (λa w h=>h.elim);go_wp2_with(first|(rw[hV])|(go_at_call 152;refine CO.out.mono ?_;rintro e D⟨rfl,cy,az,a1⟩;have b5:=(a1.block (w:Nat) (by have:=a4.out;omega) (λhm=>by have h1:=HN.out;have h2:=au.out;omega)).trans cv.out;have d0:D.cell? ⟨w,0,none⟩=some (aA X J.path.length j):=aU D _ 0 _ _ _ b5;have d1:D.cell? ⟨w,1,none⟩=some (aC aP J.op):=aU D _ 1 _ _ _ b5;have d2:D.cell? ⟨w,2,none⟩=some (aC aP J.n):=aU D _ 2 _ _ _ b5));have dE:=a1.size;obtain⟨N,br⟩:∃N,D.alloc (aK #[aA X J.path.length j,aC aP J.op,aC aP J.n,aC aP 0,aC aP (-1),aC aP 0,aC aP 0,aB ⟨#[]⟩] 42)=N:=⟨_,rfl⟩;rw[br];have aw:aV D D N:=by rw[<-br];exact(Below.refl _ D).alloc (bF _) _
 have db:N.heap.size=(D:Nat)+1:=by rw[<-br];exact World.size_alloc _ _
 have cL:N.heap[(D:Nat)]?=some (aK #[aA X J.path.length j,aC aP J.op,aC aP J.n,aC aP 0,aC aP (-1),aC aP 0,aC aP 0,aB ⟨#[]⟩] 42 (0,0)):=by rw[<-br];exact heap_alloc_new D _
 have bi:N.heap[(w:Nat)]?=some (aK #[aA X J.path.length j,aC aP J.op,aC aP J.n] 38 (0,0)):=(aw.block _ (by have:=a4.out;omega)).trans ((a1.block (w:Nat) (by have:=a4.out;omega) (λhm=>by have h1:=HN.out;have h2:=au.out;omega)).trans cv.out);have c6:N.heap[(w:Nat)+1]?=some (aK #[aA none 0 0,aC aP 0,aC aP 0,aC aP 0,aC aP 0,aC aP 0,aC aP 0,aB ⟨#[]⟩] 42 (0,0)):=(aw.block _ (by have:=a4.out;omega)).trans ((a1.block ((w:Nat)+1) (by have:=a4.out;omega) (λhm=>by have h1:=HN.out;have h2:=au.out;omega)).trans cw.out);have b0:G6 B N d 1 cy mv (rW B.p B.T B.F) ms:=⟨az.good.chg (eZ.of aw),(aw.block _ (bD.1 az.box).1).trans az.box,az.base.later aw,az.muts.later aw,az.ask⟩;have ce:eZ (λq=>q=rb) w N:=((eZ.of cs.out).trans (by rw[<-au.out];exact a1)).then aw;have am:N.heap[rb]?=some (aK (PR B d 1 0 cy mv).toArray 142 (0,0)):=by rw[<-au.out];exact b0.box
 have bc:=(bD.1 am).1;have b6:=(bD.1 bi).1;have s0:∀U,aV N.heap.size N U->U.cell? ⟨rb,0,none⟩=some (aC aP B.p.pa):=λU h=>aU U _ 0 _ _ _ ((h.block _ bc).trans am);have s1:∀U,aV N.heap.size N U->U.cell? ⟨rb,1,none⟩=some (aA B.va B.p.vs.length B.vc):=λU h=>aU U _ 1 _ _ _ ((h.block _ bc).trans am);have s2:∀U,aV N.heap.size N U->U.cell? ⟨rb,2,none⟩=some (aA B.ba B.p.bd.length B.bc):=λU h=>aU U _ 2 _ _ _ ((h.block _ bc).trans am);have u0:∀U,aV N.heap.size N U->U.cell? ⟨w,0,none⟩=some (aA X J.path.length j):=λU h=>aU U _ 0 _ _ _ ((h.block _ b6).trans bi);have u1:∀U,aV N.heap.size N U->U.cell? ⟨w,1,none⟩=some (aC aP J.op):=λU h=>aU U _ 1 _ _ _ ((h.block _ b6).trans bi);have u2:∀U,aV N.heap.size N U->U.cell? ⟨w,2,none⟩=some (aC aP J.n):=λU h=>aU U _ 2 _ _ _ ((h.block _ b6).trans bi);have ao:aV N.heap.size N N.drew:=⟨rfl,rfl,rfl,bF _,λ_ _=>rfl⟩;have ct:=eB (show eZ (λq=>q=B.rb) w D from(eZ.of cs.out).trans a1);have bf:=eB (show D.heap[(w:Nat)+1]?=some (aK #[aA none 0 0,aC aP 0,aC aP 0,aC aP 0,aC aP 0,aC aP 0,aC aP 0,aB ⟨#[]⟩] 42 (0,0))from(a1.block ((w:Nat)+1) (by have:=a4.out;omega) (λhm=>by have h1:=HN.out;have h2:=au.out;omega)).trans cw.out);have CM:=eB (λU(hU:aV N.heap.size N U)=>show Calls prog 154 #[aH #[aC aP B.p.pa,aA B.va B.p.vs.length B.vc,aA B.ba B.p.bd.length B.bc],aH #[aA X J.path.length j,aC aP J.op,aC aP J.n]] U (aBs B.p J U)from JO B.va B.ba X B.vc B.bc j B.p J U (b0.good.chg (eZ.of hU)).now.1 (dt.out U (ce.then hU)) dB HF.out.fit.bl dA);have d7:=eB b0;have bd:=eB az;have cr:=eB aw;have eb:=eB ce;have ak:=eB (show N.heap.size=(D:Nat)+1/\(w:Nat)+2<=(D:Nat)from⟨db,by have:=a4.out;omega⟩);have df:=eB cL;have dj:=eB bi;have ed:=eB c6;clear hV br aw db cL bi c6 b0 ce am bc b6 d0 d1 d2 b5 az a1 dE;obtain⟨q,bL⟩:∃q,(jA B.p J).1=q:=⟨_,rfl⟩;go_wp2;go_cut [6] (λs6 wx=>∃(tq:Nat)(qa:Option Addr)(qc:Nat)(qb:Option Addr)(qd:Nat),s6=aE (some ⟨tq,0,none⟩)/\Hid (aG7 N q tq qa qb qc qd wx))
 case first=>
  go_region_held3(λU=>aV N.heap.size N U) (first|(with_reducible assumption)|exact a5.alloc a5.size _|exact ao.alloc (bF _) _|exact((a5.setCell (bF _) _).setCell (bF _) _).setCell (bF _) _|go_grown) ((go_at_call 154;refine(CM.out _ (by first|(with_reducible assumption)|exact ao.alloc (bF _) _|go_grown)).mono ?_;rintro e w3⟨⟨qa,qc,qb,qd,rfl,ba,bb,a8⟩,bs⟩;(try unfold kE);have a5:aV N.heap.size N w3:=(by first|exact ao.trans (bs.mono (bF _))|exact(ao.alloc (bF _) _).trans (bs.mono (by simp)));(try(have ay:w3.heap[N.heap.size]?=some (aK #[aC aP 0,aA none 0 0,aA none 0 0] 25 (0,0)):=(by exact(bs.block _ (by simp)).trans (heap_alloc_new N _));have y0:w3.cell? ⟨N.heap.size,0,none⟩=some (aC aP 0):=aU w3 _ 0 _ _ _ ay;have y1:w3.cell? ⟨N.heap.size,1,none⟩=some (aA none 0 0):=aU w3 _ 1 _ _ _ ay;have y2:w3.cell? ⟨N.heap.size,2,none⟩=some (aA none 0 0):=aU w3 _ 2 _ _ _ ay;have z0:=bE w3 _ 0 _ _ ay;have z1:=bE w3 _ 1 _ _ ay;have z2:=bE w3 _ 2 _ _ ay;replace ay:=eB ay));replace ba:=eB ba;replace bb:=eB bb;replace a8:=eB a8;replace bs:=eB bs))
  all_goals
   (try rw[bL]at ba)
   (try rw[bL]at bb)
   (try rw[bL]at a8)
   first
    |(obtain⟨y,ag⟩:∃y,w3.alloc (aK #[aC aP q.pa,aA qa q.vs.length qc,aA qb q.bd.length qd] 25)=y:=⟨_,rfl⟩
      rw[ag]
      have a3:y.heap[(w3:Nat)]?=some (aK #[aC aP q.pa,aA qa q.vs.length qc,aA qb q.bd.length qd] 25 (0,0)):=by rw[<-ag];exact heap_alloc_new w3 _
      have aL:aV N.heap.size N y:=by rw[<-ag];exact a5.alloc a5.size _
      have bk:iE y qa qb qc qd q:=by rw[<-ag];exact ba.out.later ((Below.refl _ w3).alloc (bF _) _)
      have bl:N.heap.size<=(w3:Nat):=a5.size
      clear ag
      generalize(w3:Nat)=tq at*)
    |(obtain⟨y,ag⟩:∃y,((w3.setCell ⟨N.heap.size,0,none⟩ (aC aP q.pa)).setCell ⟨N.heap.size,1,none⟩ (aA qa q.vs.length qc)).setCell ⟨N.heap.size,2,none⟩ (aA qb q.bd.length qd)=y:=⟨_,rfl⟩
      rw[ag]
      have a3:y.heap[N.heap.size]?=some (aK #[aC aP q.pa,aA qa q.vs.length qc,aA qb q.bd.length qd] 25 (0,0)):=by rw[<-ag];exact heap_setCell_same _ _ 2 _ _ _ (heap_setCell_same _ _ 1 _ _ _ (heap_setCell_same _ _ 0 _ _ _ ay.out))
      have aL:aV N.heap.size N y:=by rw[<-ag];exact((a5.setCell (bF _) _).setCell (bF _) _).setCell (bF _) _
      have cf:∀k,k≠N.heap.size->y.heap[k]?=w3.heap[k]?:=λk hk=>by rw[<-ag,eF _ hk,eF _ hk,eF _ hk]
      have dF:y.heap.size=(w3:Nat):=by rw[<-ag];simp
      have bk:iE y qa qb qc qd q:=⟨lH ba.out.1 (by omega) λad e ai _=>cf _ (by have:=bb.out ad e ai;simp at this;omega),by
        by_cases hb:q.bd=[]
        .exact .inl hb
        .exact ba.out.2.1.kept (by omega) λad e _=>cf _ (by have:=a8.out ad e hb;simp at this;omega),ba.out.2.2⟩
      clear ag cf dF
      obtain⟨tq,cm⟩:∃tq,N.heap.size=tq:=⟨_,rfl⟩
      rw[cm]at a3|-
      have bl:N.heap.size<=tq:=Nat.le_of_eq cm
      clear cm)
   have cc:=eB (show aG7 N q tq qa qb qc qd y from⟨bl,aL,a3,bk,λad e ai=>by have:=bb.out ad e ai;simp at this;omega,λad e ai=>by have:=a8.out ad e ai;simp at this;omega⟩);clear bl aL a3 bk;go_wp2;go_meet;exact⟨_,_,_,_,_,rfl,cc⟩
 case rest=>
  obtain⟨tq,qa,qc,qb,qd,rfl,bh⟩:=hcut;generalize wc=y at*;have aL:=bh.out.bel;have a3:=bh.out.box;have bk:=bh.out.pg;have bl:=bh.out.ge;have bb:=eB bh.out.va;have a8:=eB bh.out.ba;have b2:aV D D y:=cr.out.trans (aL.mono (by have:=ak.out;omega));have cP:=(aL.block _ (by have:=ak.out;omega)).trans df.out;have du:=eB a3;have dn:=eB bk;have dg:=eB b2;have di:=eB cP;have c5:=(b2.block B.rb (bD.1 bd.out.box).1).trans bd.out.box;have c3:y.cell? ⟨rb,3,none⟩=some (aA B.ta B.T.length B.tc):=by rw[<-au.out];exact aU y _ 3 _ _ _ c5
  have bz:Hid (N.heap.size<=tq/\tq<y.heap.size/\N.heap.size<=y.heap.size):=eB ⟨bl,(bD.1 a3).1,aL.size⟩;have b3:=HF.out.cf;have c9:0<B.T.length/\B.T.length<=20:=by
   unfold pW at b3;split at b3
   .cases b3
   .omega
  obtain⟨tb,el,ca⟩:=aBS ((bd.out.later b2).good.now.2.1) c9.1;rw[ca]at c3;replace ca:=eB ca;obtain⟨ej,ek⟩:=c9;clear a3 bk b2 cP c5 aL bl b3;go_wp2;go_step3;go_wp2;have dp:=eB (show JSt X j J D y ⟨J,0,-1,(0,0),⟨#[]⟩⟩ y from⟨dg.out,λ_ _ _=>rfl,bF _,rfl,di.out⟩);have ds:=eB (show kX iC q J B.F (rM B.p B.T B.F) 0 (B.T.drop 0) ⟨J,0,-1,(0,0),⟨#[]⟩⟩=fQ iC B.p B.T B.F J by unfold fQ;rw[bL];rfl);clear c3;go_loopw [37] (λi wr=>∃(k:Nat)(x:Mt),k<=B.T.length/\i=aC aP k/\Hid (JSt X j J D y x wr/\kX iC q J B.F (rM B.p B.T B.F) k (B.T.drop k) x=fQ iC B.p B.T B.F J)) (λi _=>B.T.length-(aW i).toNat)
  case atStart=>exact⟨0,_,by omega,rfl,eB ⟨dp.out,ds.out⟩⟩
  case round=>
   obtain⟨k,x,hk,rfl,hR⟩:=hrel;by_cases hlt:k<B.T.length
   .have c0:(k:Int)<(B.T.length:Int):=zO;obtain⟨l,hx⟩:∃l,B.T[k]?=some l:=⟨_,dU hlt⟩;have hA:=bd.out.later hR.out.1.bel;have ci:=hA.good.now.2.1;rw[ca.out]at ci;obtain⟨pl,cl,d0,cW⟩:=aGa ci hx;have am:=hA.box;rw[au.out]at am;have bc:=(bD.1 am).1;have bA:=(hR.out.1.keep tq (by have:=bz.out;have:=ak.out;omega) bz.out.2.1).trans du.out;have b8:=(bD.1 bA).1;have s0:∀U,aV wr wr U->U.cell? ⟨tq,0,none⟩=some (aC aP q.pa):=λU h=>aU U _ 0 _ _ _ ((h.block _ b8).trans bA);have s1:∀U,aV wr wr U->U.cell? ⟨tq,1,none⟩=some (aA qa q.vs.length qc):=λU h=>aU U _ 1 _ _ _ ((h.block _ b8).trans bA);have s2:∀U,aV wr wr U->U.cell? ⟨tq,2,none⟩=some (aA qb q.bd.length qd):=λU h=>aU U _ 2 _ _ _ ((h.block _ b8).trans bA);have s4:∀U,aV wr wr U->U.cell? ⟨rb,4,none⟩=some (aC aP B.F):=λU h=>aU U _ 4 _ _ _ ((h.block _ bc).trans am);have cV:iE wr qa qb qc qd q:=aF4 dn.out (n:=(D:Nat)+1) (λad e ai=>by have h1:=bb.out ad e ai;have:=ak.out;omega) (λad e ai=>by have h1:=a8.out ad e ai;have:=ak.out;omega) hR.out.1.sz hR.out.1.keep;have b7:=HF.out.fit.t64 l (List.mem_of_getElem? hx);have be:=dv.out;rw[bL]at be;have CR:=eB (λU(hU:aV wr wr U)=>show Calls prog 155 #[aH #[aC aP q.pa,aA qa q.vs.length qc,aA qb q.bd.length qd],aA pl l.length cl,aC aP B.F] U (GD U.heap.size (jL q l B.F) (lV q l.length B.F) U)from TG q B.F l qa qb pl qc qd cl U (cV.later hU) (cW.later hU) be.p64 b7.1 be.vl be.bl b7.2);have ao:aV wr wr wr.drew:=⟨rfl,rfl,rfl,bF _,λ_ _=>rfl⟩;have HR:=eB hR.out;have ee:=eB am;have HX:=eB hx;have HA:=eB hA;have cq:=eB (aIe be.p64 b7.1 (F:=B.F));clear hR am hx hA ci cW bc bA b8 cV b7 be;obtain⟨r,cj⟩:∃r,jL q l B.F=r:=⟨_,rfl⟩;have dw:=eB cj;rw[cj]at CR cq;clear cj;go_wp2;go_cut [10]from 38 to 84 (λd3 wx=>∃(R:Nat)(ea:Option Addr)(ec:Nat),d3=aE (some ⟨R,0,none⟩)/\Hid (aFs wr r R ea ec wx))
    case first=>
     go_region_held3(λU=>aV wr wr U) (first|(with_reducible assumption)|exact a6.alloc a6.size _|exact ao.alloc (bF _) _|exact(((a6.setCell (bF _) _).setCell (bF _) _).setCell (bF _) _).setCell (bF _) _|go_grown) ((go_at_call 155;refine(CR.out _ (by first|(with_reducible assumption)|exact ao.alloc (bF _) _|go_grown)).mono ?_;rintro e w5⟨⟨ev,rfl,bw⟩,bt⟩;obtain⟨ea,ec,rfl,_⟩:=fV bw;have a6:aV wr wr w5:=(by first|exact ao.trans (bt.mono (bF _))|exact(ao.alloc (bF _) _).trans (bt.mono (by simp)));(try(have aj:w5.heap[(wr:Nat)]?=some (aK #[aC aP 0,aC aP 0,aC aP 0,aA none 0 0] 243 (0,0)):=(by exact(bt.block _ (by simp)).trans (heap_alloc_new wr _));have y0:w5.cell? ⟨wr,0,none⟩=some (aC aP 0):=aU w5 _ 0 _ _ _ aj;have y1:w5.cell? ⟨wr,1,none⟩=some (aC aP 0):=aU w5 _ 1 _ _ _ aj;have y2:w5.cell? ⟨wr,2,none⟩=some (aC aP 0):=aU w5 _ 2 _ _ _ aj;have y3:w5.cell? ⟨wr,3,none⟩=some (aA none 0 0):=aU w5 _ 3 _ _ _ aj;have z0:=bE w5 _ 0 _ _ aj;have z1:=bE w5 _ 1 _ _ aj;have z2:=bE w5 _ 2 _ _ aj;have z3:=bE w5 _ 3 _ _ aj;replace aj:=eB aj));replace bw:=eB bw;replace bt:=eB bt))
     all_goals
       first
         |(obtain⟨Z,al⟩:∃Z,w5.alloc (aK #[aC aP r.out.1,aC aP r.out.2,aC aP r.st,aA ea r.ev.length ec] 243)=Z:=⟨_,rfl⟩
           rw[al]
           have ap:Z.heap[(w5:Nat)]?=some (aK #[aC aP r.out.1,aC aP r.out.2,aC aP r.st,aA ea r.ev.length ec] 243 (0,0)):=by rw[<-al];exact heap_alloc_new w5 _
           have a0:aV wr wr Z:=by rw[<-al];exact a6.alloc a6.size _
           have bj:eS kT Z ea r.ev:=by rw[<-al];exact(EJ bw.out).later ((Below.refl _ w5).alloc (bF _) _)
           have a2:(wr:Nat)<=(w5:Nat):=a6.size
           clear al
           generalize(w5:Nat)=R at*)
         |(obtain⟨Z,al⟩:∃Z,(((w5.setCell ⟨wr,0,none⟩ (aC aP r.out.1)).setCell ⟨wr,1,none⟩ (aC aP r.out.2)).setCell ⟨wr,2,none⟩ (aC aP r.st)).setCell ⟨wr,3,none⟩ (aA ea r.ev.length ec)=Z:=⟨_,rfl⟩
           rw[al]
           have g1:=heap_setCell_same _ _ 0 _ _ (aC aP r.out.1) aj.out
           have g2:=heap_setCell_same _ _ 1 _ _ (aC aP r.out.2) g1
           have g3:=heap_setCell_same _ _ 2 _ _ (aC aP (r.st:Nat)) g2
           have ap:Z.heap[(wr:Nat)]?=some (aK #[aC aP r.out.1,aC aP r.out.2,aC aP r.st,aA ea r.ev.length ec] 243 (0,0)):=by rw[<-al];exact heap_setCell_same _ _ 3 _ _ _ g3
           have a0:aV wr wr Z:=by rw[<-al];exact(((a6.setCell (bF _) _).setCell (bF _) _).setCell (bF _) _).setCell (bF _) _
           have bj:eS kT Z ea r.ev:=by
            rw[<-al]
            refine EJ (fJ bw.out (by decide) (λ_ h=>h.elim) aj.out λk hk=>?_)
            rw[eF _ hk,eF _ hk,eF _ hk,eF _ hk]
           have a2:(wr:Nat)<=(wr:Nat):=bF _
           clear al g1 g2 g3 y0 y1 y2 y3 z0 z1 z2 z3
           obtain⟨R,cn⟩:∃R,(wr:Nat)=R:=⟨_,rfl⟩
           rw[cn]at ap|-
           replace a2:(wr:Nat)<=R:=Nat.le_of_eq cn
           clear cn)
       have cc:=eB (show aFs wr r R ea ec Z from⟨a2,a0,ap,bj⟩);clear a2 a0 ap bj;go_wp2;go_meet;exact⟨_,_,_,rfl,cc⟩
    case rest=>
     obtain⟨R,ea,ec,rfl,b4⟩:=hcut;generalize wc=Z at*;have a0:=b4.out.bel;have ap:=b4.out.box;have bj:=b4.out.ls;have a2:=b4.out.ge;have b1:=HA.out.later a0;have cA:=HR.out.1.later a0;have b9:=b1.box;rw[au.out]at b9;have c1:(rW B.p B.T B.F)[k]?=some (jL B.p l B.F).out:=by unfold rW;rw[List.getElem?_map,HX.out];rfl
     obtain⟨og,oc,dT,cR,_,ch,c2,cg,_⟩:=b1.base.at c1;have dy:dT=[aC aP (jL B.p l B.F).out.1,aC aP (jL B.p l B.F).out.2]:=c2;subst dy;have c8:=(bD.1 b9).1;have ck:=(bD.1 ap).1;have d4:∀U,aV Z.heap.size Z U->U.cell? ⟨rb,10,none⟩=some (aA (some ⟨og,0,none⟩) (rW B.p B.T B.F).length oc):=λU h=>by rw[<-cR];exact aU U _ 10 _ _ _ ((h.block _ c8).trans b9)
     have dc:∀U,aV Z.heap.size Z U->U.cell? ⟨og,k*2,none⟩=some (aC aP (jL B.p l B.F).out.1):=λU h=>fX h ch (by have:=cg 0 _ rfl;exact this);have de:∀U,aV Z.heap.size Z U->U.cell? ⟨og,k*2+1,none⟩=some (aC aP (jL B.p l B.F).out.2):=λU h=>fX h ch (cg 1 _ rfl);have d5:∀U,aV Z.heap.size Z U->U.cell? ⟨R,0,none⟩=some (aC aP r.out.1):=λU h=>aU U _ 0 _ _ _ ((h.block _ ck).trans ap);have d6:∀U,aV Z.heap.size Z U->U.cell? ⟨R,1,none⟩=some (aC aP r.out.2):=λU h=>aU U _ 1 _ _ _ ((h.block _ ck).trans ap);have ei:(k:Int)<((rW B.p B.T B.F).length:Int):=by unfold rW;rw[List.length_map];exact c0
     have ef:aV Z.heap.size Z Z.drew:=⟨rfl,rfl,rfl,bF _,λ_ _=>rfl⟩;have eg:(0:Int)<=(k:Int):=zO;have d8:=eB b1;have dr:=eB cA;have cx:=eB ap;have dk:=eB bj;have d9:=eB a0;clear b1 cA b9 c1 c2 cg ap bj a0 c8 ck ch s0 s1 s2 s4 ao;obtain⟨bo,cd⟩:∃bo,(jL B.p l B.F).out=bo:=⟨_,rfl⟩;rw[cd]at dc de;have dh:=eB cd;clear cd cR;go_wp2;go_region_held3(λU=>aV Z.heap.size Z U) (first|(with_reducible assumption)|go_grown) ((go_at_call 156;refine(MT _ _ _ _ _).mono ?_;rintro e u⟨rfl,a7⟩;have bq:aV Z.heap.size Z u:=⟨a7.os,a7.tape,a7.output,a7.size,a7.block⟩;replace a7:=eB a7));obtain⟨v,hv⟩:∃v,lE (bo.1,bo.2) (r.out.1,r.out.2)=v:=⟨_,rfl⟩;rw[hv];have HG:=eB (show kX iC q J B.F (rM B.p B.T B.F) k (B.T.drop k) x=if v=0\/v=2/\x.v=2 then kX iC q J B.F (rM B.p B.T B.F) (k+1) (B.T.drop (k+1)) x else if v=1 then⟨J,v,k,r.out,iC r⟩else kX iC q J B.F (rM B.p B.T B.F) (k+1) (B.T.drop (k+1)) ⟨J,v,k,r.out,iC r⟩by
       have hl:B.T[k]=l:=by have:=dU hlt;rw[HX.out]at this;exact(Option.some.inj this).symm
       have hb:rM B.p B.T B.F k=bo:=by unfold rM;rw[HX.out];exact dh.out
       rw[List.drop_eq_getElem_cons hlt,hl]
       simp only[kX,hb,dw.out]
       rw[show lE bo r.out=v from hv]);have dC:v=0\/v=1\/v=2:=by rw[<-hv];exact aA5 _ _
     have aq:=eB (dr.out.later bq);have cS:=aq.out.bx;have m3:u.cell? ⟨D,3,none⟩=some (aC aP x.v):=aU u _ 3 _ _ _ cS;have wk:aP.wrap ((k:Int)+1)=(k:Int)+1:=by rw[IntKind.wrap_i64];omega
     have bO:=eB HR.out.2;have dm:=eB (dk.out.later bq);replace bq:=eB bq;replace a2:=eB a2;clear hv d4 dc de d5 d6 cS;by_cases hc:v=0\/v=2/\x.v=2
     · have ae:=HG.out;rw[if_pos hc]at ae;replace ae:=eB ae;obtain h0|⟨h2,cE⟩:=hc
       · subst h0;go_wp2;go_roundw
         case rel=>exact⟨k+1,x,by omega,by go_num,eB ⟨aq.out,by rw[<-ae.out];exact bO.out⟩⟩
         case measure=>simp[aW];omega
       · subst h2;rw[cE]at m3;go_wp2;go_roundw
         case rel=>exact⟨k+1,x,by omega,by go_num,eB ⟨aq.out,by rw[<-ae.out];exact bO.out⟩⟩
         case measure=>simp[aW];omega
     · have bu:=(aq.out.bel.block _ (by have:=ak.out;omega)).trans (show D.heap[(w:Nat)]?=some (aK #[aA X J.path.length j,aC aP J.op,aC aP J.n] 38 (0,0))from(cr.out.block _ (by have:=ak.out;omega)).symm.trans dj.out);have bn:=(bq.out.block R (bD.1 cx.out).1).trans cx.out;have k0:u.cell? ⟨w,0,none⟩=some (aA X J.path.length j):=aU u _ 0 _ _ _ bu;have k1:u.cell? ⟨w,1,none⟩=some (aC aP J.op):=aU u _ 1 _ _ _ bu;have k2:u.cell? ⟨w,2,none⟩=some (aC aP J.n):=aU u _ 2 _ _ _ bu;have k3:u.cell? ⟨R,0,none⟩=some (aC aP r.out.1):=aU u _ 0 _ _ _ bn;have k4:u.cell? ⟨R,1,none⟩=some (aC aP r.out.2):=aU u _ 1 _ _ _ bn;have k5:u.cell? ⟨R,2,none⟩=some (aC aP r.st):=aU u _ 2 _ _ _ bn;have k6:u.cell? ⟨R,3,none⟩=some (aA ea r.ev.length ec):=aU u _ 3 _ _ _ bn;have cX:(w:Nat)<(u:Nat)/\R<(u:Nat)/\(D:Nat)<(u:Nat):=⟨(bD.1 bu).1,(bD.1 bn).1,(bD.1 aq.out.bx).1⟩;have CD:=eB (KH r ea ec u.drew (dm.out.later ⟨rfl,rfl,rfl,bF _,λ_ _=>rfl⟩) cq.out);unfold FB at CD;have ac:=eB cX;have bV:=eB (show u.drew.cell? ⟨w,0,none⟩=some (aA X J.path.length j)/\u.drew.cell? ⟨w,1,none⟩=some (aC aP J.op)/\u.drew.cell? ⟨w,2,none⟩=some (aC aP J.n)/\u.drew.cell? ⟨R,0,none⟩=some (aC aP r.out.1)/\u.drew.cell? ⟨R,1,none⟩=some (aC aP r.out.2)/\u.drew.cell? ⟨R,2,none⟩=some (aC aP r.st)/\u.drew.cell? ⟨R,3,none⟩=some (aA ea r.ev.length ec)from⟨k0,k1,k2,k3,k4,k5,k6⟩);have ai:R≠(D:Nat)/\(w:Nat)≠(D:Nat):=⟨by have:=a2.out;have:=HR.out.1.sz;have:=bz.out;have:=ak.out;omega,by have:=ak.out;omega⟩;have af:=eB ai;clear cX ai bu bn;have co:¬v=0:=λe=>hc (.inl e);have cb:v=2->¬x.v=2:=λe f=>hc (.inr ⟨e,f⟩);obtain h0|h1|h2:=dC
       .exact absurd h0 co
       · subst h1;have ae:=HG.out;rw[if_neg hc,if_pos rfl]at ae;replace ae:=eB ae;clear hc cb co HG;go_wp2;go_region_held3(λU=>U.cell? ⟨w,0,none⟩=some (aA X J.path.length j)/\U.cell? ⟨w,1,none⟩=some (aC aP J.op)/\U.cell? ⟨w,2,none⟩=some (aC aP J.n)/\U.cell? ⟨R,0,none⟩=some (aC aP r.out.1)/\U.cell? ⟨R,1,none⟩=some (aC aP r.out.2)/\U.cell? ⟨R,2,none⟩=some (aC aP r.st)/\U.cell? ⟨R,3,none⟩=some (aA ea r.ev.length ec)) (first|(with_reducible assumption)|(with_reducible exact bV.out)|(with_reducible exact HK.out _ _ _ _ _ _ _ _)) ((go_at_call 157;refine CD.out.mono ?_;rintro e M⟨rfl,Y⟩;have ab:M.cell? ⟨w,0,none⟩=some (aA X J.path.length j)/\M.cell? ⟨w,1,none⟩=some (aC aP J.op)/\M.cell? ⟨w,2,none⟩=some (aC aP J.n)/\M.cell? ⟨R,0,none⟩=some (aC aP r.out.1)/\M.cell? ⟨R,1,none⟩=some (aC aP r.out.2)/\M.cell? ⟨R,2,none⟩=some (aC aP r.st)/\M.cell? ⟨R,3,none⟩=some (aA ea r.ev.length ec):=⟨fX Y ac.out.1 k0,fX Y ac.out.1 k1,fX Y ac.out.1 k2,fX Y ac.out.2.1 k3,fX Y ac.out.2.1 k4,fX Y ac.out.2.1 k5,fX Y ac.out.2.1 k6⟩;have HK:=eB (λx0 x1 x2 x3 x4 x5 x6 x7=>show((((((((M.setCell ⟨D,0,none⟩ x0).setCell ⟨D,1,none⟩ x1).setCell ⟨D,2,none⟩ x2).setCell ⟨D,3,none⟩ x3).setCell ⟨D,4,none⟩ x4).setCell ⟨D,5,none⟩ x5).setCell ⟨D,6,none⟩ x6).setCell ⟨D,7,none⟩ x7).cell? ⟨w,0,none⟩=some (aA X J.path.length j)/\((((((((M.setCell ⟨D,0,none⟩ x0).setCell ⟨D,1,none⟩ x1).setCell ⟨D,2,none⟩ x2).setCell ⟨D,3,none⟩ x3).setCell ⟨D,4,none⟩ x4).setCell ⟨D,5,none⟩ x5).setCell ⟨D,6,none⟩ x6).setCell ⟨D,7,none⟩ x7).cell? ⟨w,1,none⟩=some (aC aP J.op)/\((((((((M.setCell ⟨D,0,none⟩ x0).setCell ⟨D,1,none⟩ x1).setCell ⟨D,2,none⟩ x2).setCell ⟨D,3,none⟩ x3).setCell ⟨D,4,none⟩ x4).setCell ⟨D,5,none⟩ x5).setCell ⟨D,6,none⟩ x6).setCell ⟨D,7,none⟩ x7).cell? ⟨w,2,none⟩=some (aC aP J.n)/\((((((((M.setCell ⟨D,0,none⟩ x0).setCell ⟨D,1,none⟩ x1).setCell ⟨D,2,none⟩ x2).setCell ⟨D,3,none⟩ x3).setCell ⟨D,4,none⟩ x4).setCell ⟨D,5,none⟩ x5).setCell ⟨D,6,none⟩ x6).setCell ⟨D,7,none⟩ x7).cell? ⟨R,0,none⟩=some (aC aP r.out.1)/\((((((((M.setCell ⟨D,0,none⟩ x0).setCell ⟨D,1,none⟩ x1).setCell ⟨D,2,none⟩ x2).setCell ⟨D,3,none⟩ x3).setCell ⟨D,4,none⟩ x4).setCell ⟨D,5,none⟩ x5).setCell ⟨D,6,none⟩ x6).setCell ⟨D,7,none⟩ x7).cell? ⟨R,1,none⟩=some (aC aP r.out.2)/\((((((((M.setCell ⟨D,0,none⟩ x0).setCell ⟨D,1,none⟩ x1).setCell ⟨D,2,none⟩ x2).setCell ⟨D,3,none⟩ x3).setCell ⟨D,4,none⟩ x4).setCell ⟨D,5,none⟩ x5).setCell ⟨D,6,none⟩ x6).setCell ⟨D,7,none⟩ x7).cell? ⟨R,2,none⟩=some (aC aP r.st)/\((((((((M.setCell ⟨D,0,none⟩ x0).setCell ⟨D,1,none⟩ x1).setCell ⟨D,2,none⟩ x2).setCell ⟨D,3,none⟩ x3).setCell ⟨D,4,none⟩ x4).setCell ⟨D,5,none⟩ x5).setCell ⟨D,6,none⟩ x6).setCell ⟨D,7,none⟩ x7).cell? ⟨R,3,none⟩=some (aA ea r.ev.length ec)from⟨(jU M D x0 x1 x2 x3 x4 x5 x6 x7 af.out.2).trans ab.1,(jU M D x0 x1 x2 x3 x4 x5 x6 x7 af.out.2).trans ab.2.1,(jU M D x0 x1 x2 x3 x4 x5 x6 x7 af.out.2).trans ab.2.2.1,(jU M D x0 x1 x2 x3 x4 x5 x6 x7 af.out.1).trans ab.2.2.2.1,(jU M D x0 x1 x2 x3 x4 x5 x6 x7 af.out.1).trans ab.2.2.2.2.1,(jU M D x0 x1 x2 x3 x4 x5 x6 x7 af.out.1).trans ab.2.2.2.2.2.1,(jU M D x0 x1 x2 x3 x4 x5 x6 x7 af.out.1).trans ab.2.2.2.2.2.2⟩);have S:=(Y.block (D:Nat) ac.out.2.2).trans aq.out.bx;have y0:M.cell? ⟨D,0,none⟩=some (aA X J.path.length j):=aU M _ 0 _ _ _ S;have z0:=bE M D 0 _ _ S;have y1:M.cell? ⟨D,1,none⟩=some (aC aP J.op):=aU M _ 1 _ _ _ S;have z1:=bE M D 1 _ _ S;have y2:M.cell? ⟨D,2,none⟩=some (aC aP J.n):=aU M _ 2 _ _ _ S;have z2:=bE M D 2 _ _ S;have y3:M.cell? ⟨D,3,none⟩=some (aC aP x.v):=aU M _ 3 _ _ _ S;have z3:=bE M D 3 _ _ S;have y4:M.cell? ⟨D,4,none⟩=some (aC aP x.test):=aU M _ 4 _ _ _ S;have z4:=bE M D 4 _ _ S;have y5:M.cell? ⟨D,5,none⟩=some (aC aP x.out.1):=aU M _ 5 _ _ _ S;have z5:=bE M D 5 _ _ S;have y6:M.cell? ⟨D,6,none⟩=some (aC aP x.out.2):=aU M _ 6 _ _ _ S;have z6:=bE M D 6 _ _ S;have y7:M.cell? ⟨D,7,none⟩=some (aB x.dig):=aU M _ 7 _ _ _ S;have z7:=bE M D 7 _ _ S;replace Y:=eB Y;clear S));obtain⟨bm,ax⟩:∃bm:Mt,(⟨J,1,k,r.out,iC r⟩:Mt)=bm:=⟨_,rfl⟩;obtain⟨O,av⟩:∃O,((((((((M.setCell ⟨D,0,none⟩ (aA X J.path.length j)).setCell ⟨D,1,none⟩ (aC aP J.op)).setCell ⟨D,2,none⟩ (aC aP J.n)).setCell ⟨D,3,none⟩ (aC aP 1)).setCell ⟨D,4,none⟩ (aC aP k)).setCell ⟨D,5,none⟩ (aC aP r.out.1)).setCell ⟨D,6,none⟩ (aC aP r.out.2)).setCell ⟨D,7,none⟩ (aB (iC r)))=O:=⟨_,rfl⟩;have ar:JSt X j J D y bm O:=by rw[<-av,<-ax];exact(aq.out.later (U:=M) ⟨Y.out.os,Y.out.tape,Y.out.output,Y.out.size,Y.out.block⟩).set (U:=M) (m:=⟨J,1,k,r.out,iC r⟩) rfl (by have:=bz.out;have:=ak.out;omega)
         replace ar:=eB ar;rw[av];replace av:=eB av;have ah:=ae.out;rw[bO.out,ax]at ah;replace ah:=eB ah;clear y0 y1 y2 y3 y4 y5 y6 y7 z0 z1 z2 z3 z4 z5 z6 z7 k0 k1 k2 k3 k4 k5 k6 m3 HK bV ab;replace ax:=eB ax;have bp:=eB (MY ar.out ah.out.symm bd.out ct.out bf.out HN.out.1 cu.out);have aa:=(ar.out).bx;have W:=((ar.out).bel.block _ (bD.1 bf.out).1).trans bf.out;have n0:O.cell? ⟨D,0,none⟩=some (aA X J.path.length j):=aU O _ 0 _ _ _ aa;have n1:O.cell? ⟨D,1,none⟩=some (aC aP J.op):=aU O _ 1 _ _ _ aa;have n2:O.cell? ⟨D,2,none⟩=some (aC aP J.n):=aU O _ 2 _ _ _ aa;have n3:O.cell? ⟨D,3,none⟩=some (aC aP (bm).v):=aU O _ 3 _ _ _ aa;have n4:O.cell? ⟨D,4,none⟩=some (aC aP (bm).test):=aU O _ 4 _ _ _ aa;have n5:O.cell? ⟨D,5,none⟩=some (aC aP (bm).out.1):=aU O _ 5 _ _ _ aa;have n6:O.cell? ⟨D,6,none⟩=some (aC aP (bm).out.2):=aU O _ 6 _ _ _ aa;have n7:O.cell? ⟨D,7,none⟩=some (aB (bm).dig):=aU O _ 7 _ _ _ aa;have o0:O.cell? ⟨(w:Nat)+1,0,none⟩=some (aA none 0 0):=aU O _ 0 _ _ _ W;have o1:O.cell? ⟨(w:Nat)+1,1,none⟩=some (aC aP 0):=aU O _ 1 _ _ _ W;have o2:O.cell? ⟨(w:Nat)+1,2,none⟩=some (aC aP 0):=aU O _ 2 _ _ _ W;have o3:O.cell? ⟨(w:Nat)+1,3,none⟩=some (aC aP 0):=aU O _ 3 _ _ _ W;have o4:O.cell? ⟨(w:Nat)+1,4,none⟩=some (aC aP 0):=aU O _ 4 _ _ _ W;have o5:O.cell? ⟨(w:Nat)+1,5,none⟩=some (aC aP 0):=aU O _ 5 _ _ _ W;have o6:O.cell? ⟨(w:Nat)+1,6,none⟩=some (aC aP 0):=aU O _ 6 _ _ _ W;have o7:O.cell? ⟨(w:Nat)+1,7,none⟩=some (aB ⟨#[]⟩):=aU O _ 7 _ _ _ W;have p0:=bE O _ 0 _ _ W;have p1:=bE O _ 1 _ _ W;have p2:=bE O _ 2 _ _ W;have p3:=bE O _ 3 _ _ W;have p4:=bE O _ 4 _ _ W;have p5:=bE O _ 5 _ _ W;have p6:=bE O _ 6 _ _ W;have p7:=bE O _ 7 _ _ W;clear aa W;go_wp2;rw[<-HQ.out];exact bodyPost_ret (results_cell_row rfl _ _ ((w:Nat)+1) 42 _ (0,0) _ rfl bp.out.1 underlying42 rfl (by kernel_rfl)) rfl bp.out.2
       · subst h2;have ae:=HG.out;rw[if_neg hc,if_neg (by decide)]at ae;replace ae:=eB ae;have cE:(x.v==2)=false:=by simpa using cb rfl
         replace cb:=cb rfl;clear hc co HG;go_wp2;go_region_held3(λU=>U.cell? ⟨w,0,none⟩=some (aA X J.path.length j)/\U.cell? ⟨w,1,none⟩=some (aC aP J.op)/\U.cell? ⟨w,2,none⟩=some (aC aP J.n)/\U.cell? ⟨R,0,none⟩=some (aC aP r.out.1)/\U.cell? ⟨R,1,none⟩=some (aC aP r.out.2)/\U.cell? ⟨R,2,none⟩=some (aC aP r.st)/\U.cell? ⟨R,3,none⟩=some (aA ea r.ev.length ec)) (first|(with_reducible assumption)|(with_reducible exact bV.out)|(with_reducible exact HK.out _ _ _ _ _ _ _ _)) ((go_at_call 157;refine CD.out.mono ?_;rintro e M⟨rfl,Y⟩;have ab:M.cell? ⟨w,0,none⟩=some (aA X J.path.length j)/\M.cell? ⟨w,1,none⟩=some (aC aP J.op)/\M.cell? ⟨w,2,none⟩=some (aC aP J.n)/\M.cell? ⟨R,0,none⟩=some (aC aP r.out.1)/\M.cell? ⟨R,1,none⟩=some (aC aP r.out.2)/\M.cell? ⟨R,2,none⟩=some (aC aP r.st)/\M.cell? ⟨R,3,none⟩=some (aA ea r.ev.length ec):=⟨fX Y ac.out.1 k0,fX Y ac.out.1 k1,fX Y ac.out.1 k2,fX Y ac.out.2.1 k3,fX Y ac.out.2.1 k4,fX Y ac.out.2.1 k5,fX Y ac.out.2.1 k6⟩;have HK:=eB (λx0 x1 x2 x3 x4 x5 x6 x7=>show((((((((M.setCell ⟨D,0,none⟩ x0).setCell ⟨D,1,none⟩ x1).setCell ⟨D,2,none⟩ x2).setCell ⟨D,3,none⟩ x3).setCell ⟨D,4,none⟩ x4).setCell ⟨D,5,none⟩ x5).setCell ⟨D,6,none⟩ x6).setCell ⟨D,7,none⟩ x7).cell? ⟨w,0,none⟩=some (aA X J.path.length j)/\((((((((M.setCell ⟨D,0,none⟩ x0).setCell ⟨D,1,none⟩ x1).setCell ⟨D,2,none⟩ x2).setCell ⟨D,3,none⟩ x3).setCell ⟨D,4,none⟩ x4).setCell ⟨D,5,none⟩ x5).setCell ⟨D,6,none⟩ x6).setCell ⟨D,7,none⟩ x7).cell? ⟨w,1,none⟩=some (aC aP J.op)/\((((((((M.setCell ⟨D,0,none⟩ x0).setCell ⟨D,1,none⟩ x1).setCell ⟨D,2,none⟩ x2).setCell ⟨D,3,none⟩ x3).setCell ⟨D,4,none⟩ x4).setCell ⟨D,5,none⟩ x5).setCell ⟨D,6,none⟩ x6).setCell ⟨D,7,none⟩ x7).cell? ⟨w,2,none⟩=some (aC aP J.n)/\((((((((M.setCell ⟨D,0,none⟩ x0).setCell ⟨D,1,none⟩ x1).setCell ⟨D,2,none⟩ x2).setCell ⟨D,3,none⟩ x3).setCell ⟨D,4,none⟩ x4).setCell ⟨D,5,none⟩ x5).setCell ⟨D,6,none⟩ x6).setCell ⟨D,7,none⟩ x7).cell? ⟨R,0,none⟩=some (aC aP r.out.1)/\((((((((M.setCell ⟨D,0,none⟩ x0).setCell ⟨D,1,none⟩ x1).setCell ⟨D,2,none⟩ x2).setCell ⟨D,3,none⟩ x3).setCell ⟨D,4,none⟩ x4).setCell ⟨D,5,none⟩ x5).setCell ⟨D,6,none⟩ x6).setCell ⟨D,7,none⟩ x7).cell? ⟨R,1,none⟩=some (aC aP r.out.2)/\((((((((M.setCell ⟨D,0,none⟩ x0).setCell ⟨D,1,none⟩ x1).setCell ⟨D,2,none⟩ x2).setCell ⟨D,3,none⟩ x3).setCell ⟨D,4,none⟩ x4).setCell ⟨D,5,none⟩ x5).setCell ⟨D,6,none⟩ x6).setCell ⟨D,7,none⟩ x7).cell? ⟨R,2,none⟩=some (aC aP r.st)/\((((((((M.setCell ⟨D,0,none⟩ x0).setCell ⟨D,1,none⟩ x1).setCell ⟨D,2,none⟩ x2).setCell ⟨D,3,none⟩ x3).setCell ⟨D,4,none⟩ x4).setCell ⟨D,5,none⟩ x5).setCell ⟨D,6,none⟩ x6).setCell ⟨D,7,none⟩ x7).cell? ⟨R,3,none⟩=some (aA ea r.ev.length ec)from⟨(jU M D x0 x1 x2 x3 x4 x5 x6 x7 af.out.2).trans ab.1,(jU M D x0 x1 x2 x3 x4 x5 x6 x7 af.out.2).trans ab.2.1,(jU M D x0 x1 x2 x3 x4 x5 x6 x7 af.out.2).trans ab.2.2.1,(jU M D x0 x1 x2 x3 x4 x5 x6 x7 af.out.1).trans ab.2.2.2.1,(jU M D x0 x1 x2 x3 x4 x5 x6 x7 af.out.1).trans ab.2.2.2.2.1,(jU M D x0 x1 x2 x3 x4 x5 x6 x7 af.out.1).trans ab.2.2.2.2.2.1,(jU M D x0 x1 x2 x3 x4 x5 x6 x7 af.out.1).trans ab.2.2.2.2.2.2⟩);have S:=(Y.block (D:Nat) ac.out.2.2).trans aq.out.bx;have y0:M.cell? ⟨D,0,none⟩=some (aA X J.path.length j):=aU M _ 0 _ _ _ S;have z0:=bE M D 0 _ _ S;have y1:M.cell? ⟨D,1,none⟩=some (aC aP J.op):=aU M _ 1 _ _ _ S;have z1:=bE M D 1 _ _ S;have y2:M.cell? ⟨D,2,none⟩=some (aC aP J.n):=aU M _ 2 _ _ _ S;have z2:=bE M D 2 _ _ S;have y3:M.cell? ⟨D,3,none⟩=some (aC aP x.v):=aU M _ 3 _ _ _ S;have z3:=bE M D 3 _ _ S;have y4:M.cell? ⟨D,4,none⟩=some (aC aP x.test):=aU M _ 4 _ _ _ S;have z4:=bE M D 4 _ _ S;have y5:M.cell? ⟨D,5,none⟩=some (aC aP x.out.1):=aU M _ 5 _ _ _ S;have z5:=bE M D 5 _ _ S;have y6:M.cell? ⟨D,6,none⟩=some (aC aP x.out.2):=aU M _ 6 _ _ _ S;have z6:=bE M D 6 _ _ S;have y7:M.cell? ⟨D,7,none⟩=some (aB x.dig):=aU M _ 7 _ _ _ S;have z7:=bE M D 7 _ _ S;replace Y:=eB Y;clear S));obtain⟨bm,ax⟩:∃bm:Mt,(⟨J,2,k,r.out,iC r⟩:Mt)=bm:=⟨_,rfl⟩;obtain⟨O,av⟩:∃O,((((((((M.setCell ⟨D,0,none⟩ (aA X J.path.length j)).setCell ⟨D,1,none⟩ (aC aP J.op)).setCell ⟨D,2,none⟩ (aC aP J.n)).setCell ⟨D,3,none⟩ (aC aP 2)).setCell ⟨D,4,none⟩ (aC aP k)).setCell ⟨D,5,none⟩ (aC aP r.out.1)).setCell ⟨D,6,none⟩ (aC aP r.out.2)).setCell ⟨D,7,none⟩ (aB (iC r)))=O:=⟨_,rfl⟩;have ar:JSt X j J D y bm O:=by rw[<-av,<-ax];exact(aq.out.later (U:=M) ⟨Y.out.os,Y.out.tape,Y.out.output,Y.out.size,Y.out.block⟩).set (U:=M) (m:=⟨J,2,k,r.out,iC r⟩) rfl (by have:=bz.out;have:=ak.out;omega)
         replace ar:=eB ar;rw[av];replace av:=eB av;have ah:=ae.out;rw[bO.out,ax]at ah;replace ah:=eB ah;clear y0 y1 y2 y3 y4 y5 y6 y7 z0 z1 z2 z3 z4 z5 z6 z7 k0 k1 k2 k3 k4 k5 k6 m3 HK bV ab;replace ax:=eB ax;go_wp2;go_roundw
         case rel=>exact⟨k+1,bm,by omega,by go_num,eB ⟨ar.out,ah.out.symm⟩⟩
         case measure=>simp[aW];omega
   .have c0:¬(k:Int)<(B.T.length:Int):=zO;have dx:k=B.T.length:=zO;have ah:=hR.out.2;rw[dx,List.drop_length]at ah;have bp:=eB (MY hR.out.1 ah bd.out ct.out bf.out HN.out.1 cu.out);have aa:=(hR.out.1).bx;have W:=((hR.out.1).bel.block _ (bD.1 bf.out).1).trans bf.out;have n0:wr.cell? ⟨D,0,none⟩=some (aA X J.path.length j):=aU wr _ 0 _ _ _ aa;have n1:wr.cell? ⟨D,1,none⟩=some (aC aP J.op):=aU wr _ 1 _ _ _ aa;have n2:wr.cell? ⟨D,2,none⟩=some (aC aP J.n):=aU wr _ 2 _ _ _ aa;have n3:wr.cell? ⟨D,3,none⟩=some (aC aP (x).v):=aU wr _ 3 _ _ _ aa;have n4:wr.cell? ⟨D,4,none⟩=some (aC aP (x).test):=aU wr _ 4 _ _ _ aa;have n5:wr.cell? ⟨D,5,none⟩=some (aC aP (x).out.1):=aU wr _ 5 _ _ _ aa;have n6:wr.cell? ⟨D,6,none⟩=some (aC aP (x).out.2):=aU wr _ 6 _ _ _ aa;have n7:wr.cell? ⟨D,7,none⟩=some (aB (x).dig):=aU wr _ 7 _ _ _ aa;have o0:wr.cell? ⟨(w:Nat)+1,0,none⟩=some (aA none 0 0):=aU wr _ 0 _ _ _ W;have o1:wr.cell? ⟨(w:Nat)+1,1,none⟩=some (aC aP 0):=aU wr _ 1 _ _ _ W;have o2:wr.cell? ⟨(w:Nat)+1,2,none⟩=some (aC aP 0):=aU wr _ 2 _ _ _ W;have o3:wr.cell? ⟨(w:Nat)+1,3,none⟩=some (aC aP 0):=aU wr _ 3 _ _ _ W;have o4:wr.cell? ⟨(w:Nat)+1,4,none⟩=some (aC aP 0):=aU wr _ 4 _ _ _ W;have o5:wr.cell? ⟨(w:Nat)+1,5,none⟩=some (aC aP 0):=aU wr _ 5 _ _ _ W;have o6:wr.cell? ⟨(w:Nat)+1,6,none⟩=some (aC aP 0):=aU wr _ 6 _ _ _ W;have o7:wr.cell? ⟨(w:Nat)+1,7,none⟩=some (aB ⟨#[]⟩):=aU wr _ 7 _ _ _ W;have p0:=bE wr _ 0 _ _ W;have p1:=bE wr _ 1 _ _ W;have p2:=bE wr _ 2 _ _ W;have p3:=bE wr _ 3 _ _ W;have p4:=bE wr _ 4 _ _ W;have p5:=bE wr _ 5 _ _ W;have p6:=bE wr _ 6 _ _ W;have p7:=bE wr _ 7 _ _ W;clear aa W;go_wp2;rw[<-HQ.out];exact bodyPost_ret (results_cell_row rfl _ _ ((w:Nat)+1) 42 _ (0,0) _ rfl bp.out.1 underlying42 rfl (by kernel_rfl)) rfl bp.out.2
theorem DP(n p:Nat)(v:aT)(l:List UInt8)(m:Nat)(w:aS)(h:fY w n p v l)(hm:m<=1000000)(B:l.length<=10000000):
  qK 38 #[aE (some ⟨p,0,none⟩),aC aP m] w (sL n p v (l++eK m) w):=by
 have hw:bK.wrap (m:Int)=(m:Int):=by rw[sU];omega
 have J:=eC (lS n p v l m w h (by unfold jG;omega) B);clear h B;go_enter func38,ntmps38;go_wp2_with fail;refine J.out.mono ?_;rintro e N⟨rfl,D⟩;have M:=eC D;clear D;go_wp2_with fail;go_ret;exact⟨rfl,M.out⟩
def AF:Array aT:=#[aD (.func 38) #[] #[],aD (.func 110) #[] #[]]
def AD:Array aT:=#[aD (.func 45) #[] #[],aD (.func 109) #[] #[]]
theorem aB9(t:Int)(h:yT t=true)(w:aS):qK 41 #[qI t] w (Rt (aF #[aH AF,aG true]) w):=by
 obtain rfl|rfl|rfl|rfl|rfl|rfl:=J9.1 h
 all_goals clear h;go_enter func41,ntmps41;go_wp2;exact gO (eQ rfl _ _ w 85 AF (0,0) _ (aG true) rfl (fG w _) underlying85 rfl zK rfl) rfl ⟨rfl,fL w _⟩
theorem aES(w:aS):qK 41 #[qI 1] w (Rt (aF #[aH AD,aG true]) w):=by go_enter func41,ntmps41;go_wp2;exact gO (eQ rfl _ _ w 85 AD (0,0) _ (aG true) rfl (fG w _) underlying85 rfl zK rfl) rfl ⟨rfl,fL w _⟩
theorem aH2(t:Int)(B:t≠1)(h:yT t=false)(w:aS):qK 41 #[qI t] w (Rt (aF #[aH #[aJ,aJ],aG false]) w):=by
 have D:(t==1)=false:=by simpa using B
 simp only[yT,Bool.or_eq_false_iff]at h;obtain⟨⟨⟨⟨⟨J,e3⟩,R⟩,M⟩,N⟩,O⟩:=h;clear B;go_enter func41,ntmps41;go_wp2;exact gO (eQ rfl _ _ w 85 #[aJ,aJ] (0,0) _ (aG false) rfl (fG w _) underlying85 rfl zK rfl) rfl ⟨rfl,fL w _⟩
theorem vF{p:Nat}{l i:List UInt8}{u:aS}{e:Ending}{o:Obj}(m:aV n u w)(s:n<=w)(hw:fY w n p v l)(h:sL n p v i (w.alloc o) e w'):
  e=aO (qP p 0)/\aV n u w'/\(∃g,fY w' n p g i)/\w'.heap[(w:Nat)]?=some o/\w<(w':Nat)/\∀k,k<(w:Nat)->k≠p->v.ownBlock≠some k->w'.heap[k]?=w.heap[k]?:=by
 obtain⟨he,g,j,d,A⟩:=h;have y:fY (w.alloc o) n p v l:=hw.later (fL w _);have C:(w.alloc o).heap.size=w+1:=fO _ _;have x:∀k,v.ownBlock=some k->k<(w:Nat):=λk f=>(BK hw.row k f).2;have B:=hw.box.lt;refine⟨he,(m.alloc s o).trans (d.below y),⟨g,j⟩,?_,by have:=d.size;omega,λk f q r=>?_⟩
 .rw[d.block w zO zO (λh=>by have:=x _ h.symm;omega)];exact fG w o
 .rw[d.block k zO q (λh=>r h.symm)];exact iI w o k f
theorem BG(t:Int)(d:0<=t)(e:t<=255):IntKind.u8.wrap t=(((bI t.toNat).toNat:Nat):Int):=by rw[cK,UInt8.toNat_ofNat'];omega
theorem P1(va ba:Option Addr)(vc bc:Nat)(p:Pg)(w:aS)(hp:iE w va ba vc bc p)(ho:X9 p)(hk:gH p=0):
  qK 13 #[kE va ba vc bc p] w (Rt (aF #[aB (eH (FE p)),qI 0]) w):=by
 obtain⟨b5,J,D⟩:=p;obtain⟨O,rfl⟩:=qJ (show 0<=b5 from ho.pa.1);obtain⟨V,hV,bl,r0,b4⟩:=lB w (aK #[qI O,aA va J.length vc,aA ba D.length bc] 25);have bq:J.length<=12:=ho.vl;have bm:D.length<=200:=ho.bl;have ca:O<=12:=by have:=ho.pa.2;simp only at this;omega
 have CK:=eC (qO va ba vc bc ⟨O,J,D⟩ V (hp.later bl) (fA bq zD) (fA bm zD));rw[hk]at CK;obtain⟨nv,ah⟩:∃n,J.length=n:=⟨_,rfl⟩;obtain⟨nb,ag⟩:∃n,D.length=n:=⟨_,rfl⟩;have be:Hid (yW ⟨O,J,D⟩=[]++eK O++eK nv):=eC (by unfold yW;rw[<-ah];rfl);have au:Hid (GC ⟨O,J,D⟩=yW ⟨O,J,D⟩++vB J++eK nb):=eC (by unfold GC;rw[<-ag]);have ar:=eC (LE ho);have ap:=eC (OM ho);have bu:=eC ho.vs;have bb:=eC ho.bd;have ax:=eC ah;have av:=eC ag;have HP:=eC hp;have br:=eC bl;have az:=eC b4;have b7:=eC r0;have l1:=eU (show jG O by unfold jG;omega);have l2:=eU (show jG nv by unfold jG;omega);have bs:=eC l1;have b6:=eC l2;rw[show FE ⟨O,J,D⟩=GC ⟨O,J,D⟩++iK D from rfl];unfold kE at CK|-;simp only at CK|-;rw[ah,ag]at CK;rw[ah]at bq;rw[ag]at bm;rw[ah,ag];rw[ah,ag]at hV r0;generalize GC ⟨O,J,D⟩=mid at au ap|-;generalize yW ⟨O,J,D⟩=hd at be au ar;obtain⟨v0,v1,v2⟩:=pX r0;go_enter func13,ntmps13;go_wp2_with(first|rw[hV]|(go_at_call 37;refine CK.mono ?_;rintro e Y⟨rfl,a1⟩));have r1:=(a1.block _ (show w<(V:Nat) by have:=az.out;omega)).trans r0;have b1:w+1<=(Y:Nat):=by have:=a1.size;have:=az.out;omega
 have a8:=eC (br.trans (a1.mono (by have:=az.out;omega)));have bh:=eC (HP.later a8);have s0:=rU (nS r1);have s1:=rU (rI r1);have s2:=rU (uI r1);have bx:=iL Y Y;obtain⟨N,hN⟩:=eR (Y:Nat);rw[hN]at s0 s1 s2 bx b1;go_wp2_with fail;go_region_held3(λU=>aV N Y U) (first|(with_reducible assumption)|go_grown)
  (first|(go_at_call 39;refine(pJ _).mono ?_;rintro e w2⟨rfl,rfl⟩;obtain⟨bj,cb⟩:=fY.fresh Y _ hN)|(go_at_call 38;(with_reducible refine(DP _ _ _ _ O _ bj zO zS).mono ?_);rintro e w3 b2;obtain⟨rfl,b8,cc,v3,bk⟩:=gM (by first|(with_reducible assumption)|go_grown) zA bj b2)|(go_at_call 38;(with_reducible refine(DP _ _ _ _ nv _ bk zO (by have:=bs.out;simp;omega)).mono ?_);rintro e w4 b3;obtain⟨rfl,bn,b0,v4,bw⟩:=gM (by first|(with_reducible assumption)|go_grown) zA bk b3));have W4:=eC (show fY w4 N N v4 hd by rw[be];exact bw);have t1:=s1 _ bn;go_wp2_with fail;go_loopw [28] (λi wr=>∃k:Nat,k<=nv/\i=qI k/\(∃v,fY wr N N v (hd++vB (J.take k)))/\aV N Y wr/\N<=wr) (λi _=>nv-(aW i).toNat)
 case atStart=>exact⟨0,zO,rfl,⟨v4,by simpa[vB]using W4.out⟩,bn,b0⟩
 case round=>
  obtain⟨k,hk,rfl,⟨v,aL⟩,X,ai⟩:=hrel;have j:=eC aL;by_cases hlt:k<nv
  .obtain⟨t,ht⟩:=fN (show k<J.length by rw[ax];exact hlt);obtain⟨vb,vo,rfl,cd,hc⟩:=mD bh.1 ht;have c1:qC wr vb (vo+k) (qI t):=(X.cell (p:=(vb,vo+k)) (by show vb<N;omega)).trans hc;have bp:=bu t (iG ht);have a6:=BG t bp.1 bp.2;have HT:Hid (vB (J.take (k+1))=vB (J.take k)++[bI t.toNat]):=eC (by rw[gW ht,RY]);obtain⟨b,hb⟩:∃b:UInt8,bI t.toNat=b:=⟨_,rfl⟩;rw[hb]at a6 HT;have CB:=eC (qD N N v _ b wr j (by have W:=ar.out;have h2:=QK (J.take k);have h3:=dK k J;simp only[iR];omega));go_wp2_with fail;refine CB.mono ?_;rintro e w6 ab;obtain⟨rfl,Z,a4,f,aa⟩:=gM X ai j ab;have u:=eC aa;go_wp2_with fail;go_roundw
   case rel=>exact⟨k+1,zO,by go_num,⟨f,by rw[HT,<-jH];exact u⟩,Z,a4⟩
   case measure=>simp[aW];omega
  .obtain rfl:k=nv:=zO;have bi:Hid (fY wr N N v (hd++vB J)):=eC (by
    have h:=j.out
    rwa[nH (l:=J) (uU ax)]at h);have CN:=eC (DP N N v _ nb wr bi zO (by have W:=ar.out;have h2:=QK J;have h3:=ax.out;simp only[iR];omega));have t2:=s2 _ X;go_wp2_with fail;refine CN.mono ?_;rintro e w6 ab;obtain⟨rfl,Z,a4,f,aa⟩:=gM X ai bi ab;have u:Hid (fY w6 N N f mid):=eC (by rw[au];exact aa);have t3:=s2 _ Z;go_wp2_with fail;generalize wr=wo at*;go_loopw [45] (λi wr=>∃k:Nat,k<=nb/\i=qI k/\(∃v,fY wr N N v (mid++iK (D.take k)))/\aV N Y wr/\N<=wr) (λi _=>nb-(aW i).toNat)
   case atStart=>exact⟨0,zO,rfl,⟨f,by simpa[iK]using u.out⟩,Z,a4⟩
   case round=>
    obtain⟨k,hk,rfl,⟨v,aL⟩,X,ai⟩:=hrel;have j:=eC aL;by_cases hlt:k<nb
    .obtain⟨x,hx⟩:=fN (show k<D.length by rw[av];exact hlt);obtain⟨aj,aq,rfl,b9,hc,bo⟩:=bh.2.1.at hx;have ao:=bb x (iG hx);have HT:Hid (iK (D.take (k+1))=iK (D.take k)++[bI x.1.toNat]++QC x):=eC (by rw[gW hx,FR,ndL];simp);have bA:(iK (D.take k)).length<=2200:=by have W:=IK (l:=D.take k) λy hy=>bb y (bW hy);have h2:=dK k D;have h3:=av.out;omega
     obtain⟨R,nn⟩:=x;simp only at ao HT hc bo;have c1:qC wr aj (aq+k*2) (qI R):=(X.cell (p:=(aj,aq+k*2)) (by show aj<N;omega)).trans hc;have c2:qC wr aj (aq+k*2+1) (qI nn):=(X.cell (p:=(aj,aq+k*2+1)) (by show aj<N;omega)).trans bo;have a6:=BG R ao.1 ao.2.1;obtain⟨b,hb⟩:∃b:UInt8,bI R.toNat=b:=⟨_,rfl⟩;rw[hb]at a6 HT;have CB:=eC (qD N N v _ b (wr.alloc (aK #[qI R,qI nn] 54)) (j.later (fL _ _)) (by have W:=ap.out;simp only[iR];omega));have bv:=eC ao;have bf:=eC bA;by_cases hnum:yT R=true
     .have bV:=ao.2.2.2 hnum;obtain⟨m,rfl⟩:=qJ bV.1;have hm:m<=200:=zO;have ak:Hid (QC (R,(m:Int))=eK m):=eC (by
       unfold QC
       have W:R≠1:=by obtain h|h|h|h|h|h:=J9.1 hnum<;>omega
       simp only
       rw[eE W,eI hnum];rfl);have bt:=eC hnum;go_wp2_with fail;refine CB.mono ?_;rintro e w6 ab;obtain⟨rfl,Z,⟨f,aa⟩,ae,af,_⟩:=vF X ai j ab;have c3:=nS ae;have u:=eC aa;have aw:=eC ae;go_wp2_with fail;refine(aB9 R bt _).mono ?_;rintro e S⟨rfl,M⟩;have a3:=(M.block _ af).trans aw;have c4:=rI a3;have bL:wr<(S:Nat):=gV af M.size;have ac:=eC (u.later M);have am:N<=S:=zO;have al:aV N Y S:=Z.trans (M.mono zO);have CN:=eC (DP N N f _ m (S.alloc (aK AF 85)) (ac.later (fL _ _)) zO (by have W:=ap.out;have h2:=bf.out;simp only[iR,iW,rP];omega));unfold AF at CN;unfold AF;go_wp2_with fail;refine CN.mono ?_;rintro e w8 a7;obtain⟨rfl,a2,⟨v8,a0⟩,_,bO,_⟩:=vF al am ac a7;have ay:=eC a0;have a5:N<=w8:=zO;go_wp2_with fail;go_roundw
      case rel=>exact⟨k+1,zO,by go_num,⟨v8,by rw[HT,ak,<-jH,<-jH];exact ay⟩,a2,a5⟩
      case measure=>simp[aW];omega
     .by_cases W:R=1
      .subst W;have ak:Hid (QC (1,nn)=eK (iT nn)):=eC (by unfold QC;rw[eI rfl]);go_wp2_with fail;refine CB.mono ?_;rintro e w6 ab;obtain⟨rfl,Z,⟨f,aa⟩,ae,af,_⟩:=vF X ai j ab;have c3:=nS ae;have u:=eC aa;have aw:=eC ae;go_wp2_with fail;refine(aES _).mono ?_;rintro e S⟨rfl,M⟩;have a3:=(M.block _ af).trans aw;have c4:=rI a3;have bL:wr<(S:Nat):=gV af M.size;have ac:=eC (u.later M);have am:N<=S:=zO;have al:aV N Y S:=Z.trans (M.mono zO);have CN:=eC (yP N N f _ nn (S.alloc (aK AD 85)) (ac.later (fL _ _)) bv.2.2.1 (by have W:=ap.out;have h2:=bf.out;simp only[iR,iW,rP];omega));unfold AD at CN;unfold AD;go_wp2_with fail;refine CN.mono ?_;rintro e w8 a7;obtain⟨rfl,a2,⟨v8,a0⟩,_,bO,_⟩:=vF al am ac a7;have ay:=eC a0;have a5:N<=w8:=zO;go_wp2_with fail;go_roundw
       case rel=>exact⟨k+1,zO,by go_num,⟨v8,by rw[HT,ak,<-jH,<-jH];exact ay⟩,a2,a5⟩
       case measure=>simp[aW];omega
      .have ak:Hid (QC (R,nn)=[]):=eC (by unfold QC;simp only;rw[eE W,eE hnum]);have bg:=eC (show R≠1/\yT R=false from⟨W,by simpa using hnum⟩);go_wp2_with fail;refine CB.mono ?_;rintro e w6 ab;obtain⟨rfl,Z,⟨f,aa⟩,ae,af,_⟩:=vF X ai j ab;have c3:=nS ae;have u:=eC aa;go_wp2_with fail;refine(aH2 R bg.1 bg.2 _).mono ?_;rintro e S⟨rfl,M⟩;have ac:=eC (u.later M);have am:N<=S:=by have:=M.size;omega
       have al:aV N Y S:=Z.trans (M.mono zO);go_wp2_with fail;go_roundw
       case rel=>exact⟨k+1,zO,by go_num,⟨f,by rw[HT,ak,EL,<-jH];exact ac.later (fL _ _)⟩,al.alloc am _,zT⟩
       case measure=>simp[aW];omega
    .obtain rfl:k=nb:=zO;have HE:Hid (fY wr N N v (mid++iK D)):=eC (by
      have h:=j.out
      rwa[nH (l:=D) (uU av)]at h);have CB:=eC (mE N N v _ wr HE);have bz:=a8.trans (Below.mono (B:=N) X zO);go_wp2_with fail;refine CB.mono ?_;rintro e w6⟨rfl,rfl⟩;go_wp2_with fail;go_ret2;exact⟨rfl,bz⟩
theorem P3(t:Int)(d:0<=t)(e:t<=1000000):bK.wrap t=((t.toNat:Nat):Int):=by rw[sU];omega
theorem aDr(n:Int)(w:aS)(B:0<=n)(D:n<200):qK 196 #[qI n] w λe w'=>e=aO (aG false)/\w=w':=by have d1:decide (n<0)=false:=zT;have d2:decide (n>=200)=false:=zT;go_enter func196,ntmps196;go_wp2;go_ret;exact⟨rfl,rfl⟩
theorem YE(O:Option Addr)(c:Nat)(L:List Int)(w:aS)(M:eS kI w O L)(N:∀n∈L,0<=n/\n<200)(hm:L.length<=1000000):
  qK 245 #[aA O L.length c,aD (.func 196) #[] #[]] w λe w'=>e=aO (qI (-1))/\w=w':=by
 obtain⟨n,B⟩:=eR L.length;rw[B]at hm;rw[B];change Hid _ at B M N;go_enter func245,ntmps245;go_wp2_with fail;go_loopw [8] (λi wr=>∃k:Nat,k<=n/\i=qI k/\w=wr) (λi _=>n-(aW i).toNat)
 case atStart=>exact⟨0,zO,rfl,rfl⟩
 case round=>
  obtain⟨k,Y,rfl,rfl⟩:=hrel;by_cases hlt:k<n
  .obtain⟨x,D⟩:=fN (show k<L.length by rw[B];exact hlt);obtain⟨S,Z,rfl,X,U⟩:=mD M D;have J:=N x (iG D);have R:=eC (λW=>aDr x W J.1 J.2);clear D J;go_wp2_with fail;refine(R _).mono ?_;rintro e f⟨rfl,rfl⟩;go_wp2_with fail;go_roundw
   case rel=>exact⟨k+1,zO,by go_num,by first|rfl|trivial⟩
   case measure=>simp[aW];omega
  .obtain rfl:k=n:=zO;go_wp2_with fail;go_ret;exact⟨rfl,rfl⟩
theorem aA7(B:Option Addr)(c:Nat)(L:List Int)(w:aS)(D:eS kI w B L)(J:∀n∈L,0<=n/\n<200)(hm:L.length<=1000000):
  qK 197 #[aA B L.length c,aD (.func 196) #[] #[]] w λe w'=>e=aO (aG false)/\w=w':=by have M:=eC (YE B c L w D J hm);clear D J;go_enter func197,ntmps197;go_wp2_with fail;refine M.mono ?_;rintro e N⟨rfl,rfl⟩;go_wp2_with fail;go_ret;exact⟨rfl,rfl⟩
theorem aJr{s d:ByteArray}(h:s=d):aO (aF #[aB s,qI 0])=aO (aF #[aB d,qI 0]):=by rw[h]
theorem KP(X:Option Addr)(c:Nat)(d:Dl)(w:aS)(hp:eS kI w X d.path)(S:aAS d):
  qK 145 #[GL X c d] w (Rt (aF #[aB (eH (QT d)),qI 0]) w):=by
 obtain⟨B,D,J⟩:=d;obtain⟨V,hV,ae,u,ba⟩:=lB w (aK #[aA X B.length c,qI D,qI J] 38);have ao:B.length<=30:=S.pl;have bc:1<=D/\D<=7:=S.op;have f:∀n∈B,0<=n/\n<200:=S.path;have CC:=eC (λU(h:eS kI U X B)=>aA7 X c B U h f (fA ao zD));obtain⟨n,R⟩:=eR B.length;have aj:Hid (sZ ⟨B,D,J⟩=[]++eK n):=eC (by unfold sZ;rw[<-R]);have aa:=eC (KW S);have aL:=eC (AK f);have ay:=eC (show rH J from S.n);have ak:=eC (hp.later ae);rw[show QT ⟨B,D,J⟩=sZ ⟨B,D,J⟩++eY B++[bI D.toNat]++eK (iT J)from rfl];unfold GL;simp only;rw[R]at CC ao hV u;rw[R];generalize sZ ⟨B,D,J⟩=hd at aj aa|-;obtain⟨N,hN⟩:=eR (V:Nat);have ah:w<N:=zO;have s0:∀U,aV N V U->qC U w 0 (aA X n c):=λU h=>kG U _ 0 _ _ _ ((h.block _ ah).trans u);have s1:∀U,aV N V U->qC U w 1 (qI D):=λU h=>kG U _ 1 _ _ _ ((h.block _ ah).trans u);have s2:∀U,aV N V U->qC U w 2 (qI J):=λU h=>kG U _ 2 _ _ _ ((h.block _ ah).trans u);have ac:aV N V V:=iL _ _;have z0:=s0 V ac;have z1:=s1 V ac;have d30:decide ((n:Int)>30)=false:=zT;have a1:decide (D<1)=false:=zT;have a2:decide (D>7)=false:=zT;have a8:bK.wrap (n:Int)=(n:Int):=by rw[sU];omega
 have a7:=BG D zO zO;obtain⟨b,hb⟩:∃b:UInt8,bI D.toNat=b:=⟨_,rfl⟩;rw[hb]at a7|-;change Hid _ at f R ae;clear S hp ba u hb;go_enter func145,ntmps145;go_wp2_with(first|rw[hV]|(go_at_call 197;refine(CC _ ak).mono ?_;rintro e w1⟨rfl,rfl⟩));clear hV CC z0 z1 d30 a1 a2;go_region_held3(λU=>aV N V U) (first|(with_reducible assumption)|go_grown)
  (first|(go_at_call 39;refine(pJ _).mono ?_;rintro e w2⟨rfl,rfl⟩;obtain⟨ab,a6⟩:=fY.fresh V _ hN)|(go_at_call 44;(with_reducible refine(lS _ _ _ _ n _ ab (by unfold jG;omega) zS).mono ?_);rintro e w3 au;obtain⟨rfl,af,aq,v3,al⟩:=gM (by first|(with_reducible assumption)|go_grown) zA ab au;clear au));have W3:=eC (show fY w3 N N v3 hd by rw[aj];exact al);clear ab al a6 ac a8;have t1:=s0 _ af;go_wp2_with fail;go_loopw [37] (λi wr=>∃k:Nat,k<=n/\i=qI k/\(∃v,fY wr N N v (hd++eY (B.take k)))/\aV N V wr/\N<=wr) (λi _=>n-(aW i).toNat)
 case atStart=>exact⟨0,zO,rfl,⟨v3,by simpa[eY]using W3.out⟩,af,aq⟩
 case round=>
  obtain⟨k,hk,rfl,⟨v,Y⟩,M,ap⟩:=hrel;change Hid _ at Y;clear W3 t1 af aq;by_cases hlt:k<n
  .obtain⟨t,x⟩:=fN (show k<B.length by rw[R];exact hlt);obtain⟨vb,vo,rfl,be,hc⟩:=mD ak x;have c1:qC wr vb (vo+k) (qI t):=(M.cell (p:=(vb,vo+k)) (by show vb<N;omega)).trans hc;have ar:=f t (iG x);have HT:Hid (eY (B.take (k+1))=eY (B.take k)++eK t.toNat):=eC (by rw[gW x,qQ]);have ax:=P3 t ar.1 zO;have CB:=eC (lS N N v _ t.toNat wr Y (by unfold jG;omega) (by
    have h1:=aa.out
    have h2:=AK (l:=B.take k) λy hy=>f y (bW hy)
    have h3:=dK k B
    simp only[iR];omega));generalize t.toNat=tn at HT ax CB;clear x hc ar;go_wp2_with fail;refine CB.mono ?_;rintro e w6 j;obtain⟨rfl,am,ag,O,Z⟩:=gM M ap Y j;have a0:=eC Z;clear j Z CB ax;go_wp2_with fail;go_roundw
   case rel=>exact⟨k+1,zO,by go_num,⟨O,by rw[HT,<-jH];exact a0⟩,am,ag⟩
   case measure=>simp[aW];omega
  .obtain rfl:k=n:=zO;have HE:Hid (fY wr N N v (hd++eY B)):=eC (by
    have h:=Y.out
    rwa[nH (l:=B) (uU R)]at h);have bb:aV N V wr.drew:=⟨M.os,M.tape,M.output,M.size,M.block⟩;have a5:N<=wr.drew.heap.size:=ap;have ai:=eC (show fY wr.drew N N v (hd++eY B)from HE.later (jX _));have hl:(hd++eY B).length<=400:=by have h1:=aa.out;have h2:=aL.out;have h3:=R.out;simp only[iR];omega
   have C1:=eC (qD N N v _ b wr.drew ai zO);have C2:=eC (λO W(h:fY W N N O (hd++eY B++[b]))=>yP N N O _ J W h ay (by rw[iR];simp only[iW,rP];omega));have C3:=eC (λO W(h:fY W N N O (hd++eY B++[b]++eK (iT J)))=>mE N N O _ W h);have az:=eC (λU(h:aV N V U)=>ae.trans (h.mono zO));have u1:=s1 _ M;have u2:=s2 _ M;clear Y HE hl;go_wp2_with fail;go_region_held3(λU=>aV N V U) (first|(with_reducible assumption)|go_grown)
    (first|(go_at_call 40;refine C1.mono ?_;rintro e w6 j;obtain⟨rfl,am,ag,O,Z⟩:=gM (by first|(with_reducible assumption)|go_grown) a5 ai j;clear j)|(go_at_call 45;refine(C2 _ _ Z).mono ?_;rintro e w7 av;obtain⟨rfl,a4,bd,v7,a3⟩:=gM (by first|(with_reducible assumption)|go_grown) ag Z av;clear av)|(go_at_call 42;refine(C3 _ _ a3).mono ?_;rintro e w8⟨rfl,aw⟩;rw[<-aw];clear aw));go_wp2_with fail;go_ret2;exact⟨aJr zS,az _ a4⟩
theorem jM(L:List UInt8):(eH L).size=L.length:=rfl
theorem ID(P Q:List UInt8)(n:Nat)(g:jG n):gN (eH (P++eK n++Q)) P.length=n/\gT (eH (P++eK n++Q)) P.length=P.length+(eK n).length/\gE (eH (P++eK n++Q)) P.length=0:=by obtain⟨d,e,f⟩:=J3 P Q n g;exact⟨d,by rw[e,iR],f⟩
theorem aGc(P Q:List UInt8)(n:Int)(f:rH n):zN (eH (P++eK (iT n)++Q)) P.length=n:=by obtain⟨d,_,e⟩:=ID P Q (iT n) (lW f);unfold zN;rw[eI e,d,NE]
theorem MA(P M Q:List UInt8):(eH (P++M++Q)).extract P.length (P.length+M.length)=eH M:=by apply ByteArray.ext;rw[ByteArray.data_extract];apply Array.ext';rw[Array.toList_extract];show List.extract (P++M++Q) _ _=M;simp[List.extract]
theorem S6(P M Q:List UInt8):pS (eH (P++M++Q)) P.length M.length=eH M/\pT (eH (P++M++Q)) P.length M.length=P.length+M.length/\pE (eH (P++M++Q)) P.length M.length=0:=by
 have d:P.length+M.length<=(eH (P++M++Q)).size:=by rw[jM];simp only[iR];omega
 unfold pS pT pE;rw[eI d,eI d,eI d,MA];exact⟨rfl,rfl,rfl⟩
theorem Y2(P M Q:List UInt8):wS (eH (P++M++Q)) P.length M.length=eH M/\wT (eH (P++M++Q)) P.length M.length=P.length+M.length/\wE (eH (P++M++Q)) P.length M.length=0:=by obtain⟨d,e,f⟩:=S6 P M Q;unfold wS wT wE;rw[eE zO,eE zO,eE zO];simp only[xC];exact⟨d,e,f⟩
theorem aEd(P Q:List UInt8)(b:UInt8):bV (eH (P++[b]++Q)) P.length 0=b.toNat/\wT (eH (P++[b]++Q)) P.length 1=P.length+1/\wE (eH (P++[b]++Q)) P.length 1=0:=by obtain⟨h,e,g⟩:=Y2 P [b] Q;have f:wT (eH (P++[b]++Q)) P.length 1=P.length+1:=e;have d:wE (eH (P++[b]++Q)) P.length 1=0:=g;refine⟨?_,f,d⟩;unfold bV tk;rw[eI ⟨rfl,d⟩];unfold lO;show((P++[b]++Q).getD P.length 0).toNat=b.toNat;rw[jH,vT,CQ (eX _),Nat.sub_self];rfl
theorem aDn(P M Q:List UInt8)(n:M.length<=100000):xS (eH (P++(eK M.length++M)++Q)) P.length M.length=eH M/\xT (eH (P++(eK M.length++M)++Q)) P.length M.length=P.length+(eK M.length++M).length/\xE (eH (P++(eK M.length++M)++Q)) P.length M.length=0:=by
 have e:P++(eK M.length++M)++Q=P++eK M.length++(M++Q):=by simp only[jH]
 have m:P++(eK M.length++M)++Q=(P++eK M.length)++M++Q:=by simp only[jH]
 obtain⟨d,g,h⟩:=ID P (M++Q) M.length (by unfold jG;omega);rw[<-e]at d g h;obtain⟨i,j,k⟩:=S6 (P++eK M.length) M Q;rw[<-m,iR]at i j k;have f:cE (eH (P++(eK M.length++M)++Q)) P.length M.length=0:=by unfold cE;rw[d,h,eE zO]
 unfold xS xT xE;rw[eI f,eI f,eI f,d,g];exact⟨i,by rw[j,iR];omega,k⟩
theorem XQ(r:Nat)(P Q:List UInt8)(b:UInt8)(w:aS)(h:eV w r (eH (P++[b]++Q)) P.length 0)(i:(P++[b]++Q).length<=1000000):
  qK 124 #[qP r 0] w λe w'=>e=aO (aC .u8 b.toNat)/\eV w' r (eH (P++[b]++Q)) (P++[b]).length 0/\eN r w w':=by have d:=NZ r _ _ _ w h (by rw[jM];unfold aZ;omega) (by rw[jM];simp only[iR];omega);obtain⟨f,g,e3⟩:=aEd P Q b;rw[f,g,e3]at d;rw[iR];exact d
theorem aAP(r:Nat)(P Q:List UInt8)(n:Int)(f:rH n)(w:aS)(h:eV w r (eH (P++eK (iT n)++Q)) P.length 0)(j:(P++eK (iT n)++Q).length<=1000000):
  qK 109 #[qP r 0] w λe w'=>e=aO (qI n)/\eV w' r (eH (P++eK (iT n)++Q)) (P++eK (iT n)).length 0/\eN r w w':=by have d:=TJ r _ _ _ w h (by rw[jM];unfold aZ;omega) (by rw[jM];simp only[iR];omega);obtain⟨i,g,e3⟩:=ID P Q (iT n) (lW f);rw[g,e3,aGc P Q n f]at d;rw[iR];exact d
theorem aAr(r:Nat)(P Q:List UInt8)(s:ByteArray)(w:aS)(h:eV w r (eH (P++s.data.toList++Q)) P.length 0)(j:(P++s.data.toList++Q).length<=100000):
  qK 185 #[qP r 0,qI s.size] w λe w'=>e=aO (aB s)/\eV w' r (eH (P++s.data.toList++Q)) (P++s.data.toList).length 0/\eN r w w':=by
 have i:s.data.toList.length=s.size:=by simp
 have k:s.data.toList.length<=100000:=by simp only[iR]at j;omega
 have g:=EG r _ _ _ (s.size:Int) w h (by rw[jM];unfold aZ;omega) (by rw[jM];simp only[iR];omega) zO;obtain⟨d,f,e3⟩:=Y2 P s.data.toList Q;rw[i]at d f e3;rw[d,f,e3]at g;rw[iR,i];exact g
theorem nO(P Q:List UInt8)(n m:Nat)(j:M=m)(x:n<=m)(hm:m<=1000000)(i:S=eH (P++eK n++Q))(y:S.size<=1000000)(k:a=P.length)(q:(P++eK n).length=a')(h:eV w r S a 0):
  qK 111 #[qP r 0,qI M] w λe w'=>e=aO (qI n)/\eV w' r S a' 0/\eN r w w':=by
 subst k q;have u:P.length<=S.size:=by rw[i,jM];simp only[iR];omega
 have g:=rcN (r:=r) (s:=S) (a:=P.length) (er:=0) m j (w:=w) h (by unfold aZ;omega) u hm;obtain⟨d,f,e3⟩:=D6 P Q n m (by unfold jG;omega) x;rw[<-i]at d f e3;rw[d,f,e3]at g;exact g
theorem aJd(P Q:List UInt8)(n:Int)(j:rH n)(f:S=eH (P++eK (iT n)++Q))(d:S.size<=1000000)(g:a=P.length)(i:(P++eK (iT n)).length=a')(h:eV w r S a 0):
  qK 109 #[qP r 0] w λe w'=>e=aO (qI n)/\eV w' r S a' 0/\eN r w w':=by subst g i f;exact aAP r P Q n j w h (by rw[jM]at d;exact d)
theorem aCf(P Q:List UInt8)(b:UInt8)(f:S=eH (P++[b]++Q))(d:S.size<=1000000)(g:a=P.length)(i:(P++[b]).length=a')(h:eV w r S a 0):
  qK 124 #[qP r 0] w λe w'=>e=aO (aC .u8 b.toNat)/\eV w' r S a' 0/\eN r w w':=by subst g i f;exact XQ r P Q b w h (by rw[jM]at d;exact d)
theorem aKI(P Q:List UInt8)(s:ByteArray)(f:M=s.size)(g:S=eH (P++s.data.toList++Q))(d:S.size<=100000)(i:a=P.length)(j:(P++s.data.toList).length=a')(h:eV w r S a 0):
  qK 185 #[qP r 0,qI M] w λe w'=>e=aO (aB s)/\eV w' r S a' 0/\eN r w w':=by subst i j g f;exact aAr r P Q s w h (by rw[jM]at d;exact d)
theorem aKM(P Q:List UInt8)(s:ByteArray)(j:(s.size:Int)<=M)(q:M<=9223372036854775807)(u:S=eH (P++(eK s.size++s.data.toList)++Q))(n:S.size<=100000)(x:a=P.length)(y:(P++(eK s.size++s.data.toList)).length=a')(h:eV w r S a 0):
  qK 244 #[qP r 0,qI M] w λe w'=>e=aO (aB s)/\eV w' r S a' 0/\eN r w w':=by
 subst x y u;rw[jM]at n;have B:s.data.toList.length=s.size:=by simp
 have A:s.data.toList.length<=100000:=by simp only[iR]at n;omega
 have i:=aAz r _ _ _ M w h (by rw[jM];unfold aZ;omega) (by rw[jM];simp only[iR];omega) ⟨zO,q⟩;obtain⟨d,f,e3⟩:=aDn P s.data.toList Q A;have k:gN (eH (P++(eK s.size++s.data.toList)++Q)) P.length=s.size/\gE (eH (P++(eK s.size++s.data.toList)++Q)) P.length=0:=by have:=ID P (s.data.toList++Q) s.size (by unfold jG;omega);rw[show P++eK s.size++(s.data.toList++Q)=P++(eK s.size++s.data.toList)++Q by simp]at this;exact⟨this.1,this.2.2⟩
 rw[B]at d f e3;have g:∀m:Int,(s.size:Int)<=m->cE (eH (P++(eK s.size++s.data.toList)++Q)) P.length m=0:=λm hm=>by unfold cE;rw[k.1,k.2,eE zO]
 unfold xS at d;unfold xT at f;unfold xE at e3;rw[eI (g _ (Int.le_refl _))]at d f e3;unfold xS xT xE at i;rw[eI (g M j),eI (g M j),eI (g M j),d,f,e3]at i;rw[iR];exact i
theorem ZS(w:aS)(h:eV w r S a 0)(e:a<S.size):qK 125 #[qP r 0] w (Rt (qI 5) w):=by have d:=aEK r S a 0 w h;unfold pH at d;rw[eI ⟨rfl,e⟩]at d;exact d
end Go.Proofs.YtgmjilingndloaaGreatDoor
