/- Part 10 of the proof of TopFuel. No conditions. -/
import Derived.Test.YtgmjilingndloaaGreatDoorZ9
import Derived.Deep.WholeRow
open And renaming intro->bG
open Go renaming TypeId->aX,Value->aT,World->aS,maxLen->aZ,undef->aY
open Go.Ending renaming returned->aO
open Go.Fn renaming func->bC
open Go.IntKind renaming i64->aP,u32->aQ,u64->bK,wrap_u8->cK
open Go.Obj renaming cells->aK,deferred->aM
open Go.RowKit renaming Below->aV,intOf->aW
open Go.Value renaming agg->aH,func->aD,int->aC,slice->aA,string->aB
open Go.World renaming cell?->bH
open List renaming length_set->cJ,replicate->bJ
open UInt8 renaming ofNat->bI,toNat_ofNat'->dR
namespace Go.Proofs.YtgmjilingndloaaGreatDoor
set_option linter.unusedVariables false
set_option linter.unusedSimpArgs false
set_option maxRecDepth 100000
set_option maxHeartbeats 20000000
open Go Go.RowKit Go.Proofs.Tryz Go.Shelf
variable{W w U:aS}{b n i m:Nat}{l:List Int}{ops:Array Oper}{o:Oper}{Q:Exit->Act->aS->Prop}{z:Nat×Nat}{P:Program}{x:Int}{F:Fence}{J:Act}
def zJ(l:List Int):Array aT:=(l.map (aC .u8)).toArray
theorem eJ{t:aX}(h:W.heap[b]?=some (aK (fR l) t z))(d:l[i]?=some x):W.cell? (b,i)=some (aC aQ x):=by unfold bH;rw[h];simp[fR,d]
theorem WA{t:aX}(h:W.heap[b]?=some (aK (zJ l) t z))(d:l[i]?=some x):W.cell? (b,i)=some (aC .u8 x):=by unfold bH;rw[h];simp[zJ,d]
theorem gJ{t:aX}(h:W.heap[b]?=some (aK (fR l) t (0,0)))(i:Nat)(x:Int):(qS W (b,i) (aC aQ x)).heap[b]?=some (aK (fR (l.set i x)) t (0,0)):=by have:=iB W b i _ _ (aC aQ x) h;rw[this];simp[fR,List.map_set]
theorem qA{u v:aS}(h:aV n u v)(m:Nat):aV n u (v.drewN m):=⟨h.os,h.tape,h.output,h.size,h.block⟩
def PG(e d:List Int)(k:Nat):List Int:=d.set (k/4) (bits .or aQ (d.getD (k/4) 0*256%4294967296) (e.getD k 0%4294967296))
def wA(d:List Int):Nat->List Int
 |0=>bJ 64 0
 |k+1=>PG d (wA d k) k
theorem WC(d:List Int):∀k,(wA d k).length=64
 |0=>rfl
 |k+1=>by unfold wA PG;rw[cJ];exact WC d k
def aIc(e d x7 x2:Int):Int:=aQ.wrap (aQ.wrap (aQ.wrap (e+bits .xor aQ (bits .xor aQ (E4 d 25) (E4 d 14)) (d/8))+x7)+bits .xor aQ (bits .xor aQ (E4 x2 15) (E4 x2 13)) (x2/1024))
def QE(d:List Int)(k:Nat):List Int:=d.set (k+16) (aIc (d.getD k 0) (d.getD (k+1) 0) (d.getD (k+9) 0) (d.getD (k+14) 0))
def wB(d:List Int):Nat->List Int
 |0=>wA d 64
 |k+1=>QE (wB d k) k
theorem C8(d:List Int):∀k,(wB d k).length=64
 |0=>WC d 64
 |k+1=>by unfold wB QE;rw[cJ];exact C8 d k
theorem aBd(b:Nat)(B:List Int)(w:aS)(X:w.heap[b]?=some (aK (zJ B) 407 (0,0)))(hl:B.length=64):qK 310 #[qP b 0] w λe w'=>e=aO (qP w 0)/\w'.heap[(w:Nat)]?=some (aK (fR (wB B 48)) 469 (0,0))/\Bl w w':=by
 have ab:=(fB.1 X).1;change Hid _ at X hl;go_enter func310,ntmps310;go_wp2;go_loopw [10] (λi wr=>∃k:Nat,k<=64/\i=qI k/\Hid (qB wr w (fR (wA B k)) 469/\Bl w wr)) (λi _=>64-(aW i).toNat)
 case atStart=>exact⟨0,zO,rfl,eC ⟨fG w _,fL w _⟩⟩
 case round=>
  obtain⟨k,hk,rfl,D⟩:=hrel;by_cases hlt:k<64
  .have ap:(k:Int)<64:=zO;obtain⟨c,Y⟩:∃c,B[k]?=some c:=⟨_,lJ (by rw[hl];exact hlt)⟩;obtain⟨q,hq⟩:=eR (k/4);have aq:q<64:=zO;have aw:(k:Int).tdiv 4=(q:Int):=by rw[Int.tdiv_eq_ediv_of_nonneg zO];omega
   obtain⟨x,M⟩:∃x,(wA B k)[q]?=some x:=⟨_,lJ (by rw[WC];exact aq)⟩;have cb:qC wr b k (aC .u8 c):=WA ((D.out.2.block b ab).trans X) Y;have cq:qC wr w q (aC aQ x):=eJ D.out.1 M;have fq:qF wr w q:=g8 wr _ _ _ _ D.out.1;have wk:aP.wrap ((k:Int)+1)=(k:Int)+1:=by rw[iA];omega
   have av:(0:Int)<=(q:Int):=zO;have ax:(q:Int)<64:=zO;change Hid _ at M Y hq;go_wp2;go_quiet (fail);obtain⟨W,hW⟩:=eR (wr.drewN nq);rw[hW];have ar:W.cell? (w,q)=some (aC aQ x):=by rw[<-hW];exact cq
   have au:W.frozen? (w,q)=false:=by rw[<-hW];exact fq
   have N:=eC (show qB W w (fR (wA B k)) 469/\Bl w W by rw[<-hW];exact⟨D.out.1,qA D.out.2 nq⟩);have HS:=eC (λy=>gJ N.1 q y);have HN:=eC (show wA B (k+1)=(wA B k).set q (bits .or aQ (x*256%4294967296) (c%4294967296))by
    show PG B (wA B k) k=_
    unfold PG
    rw[hq,vT,vT,M,Y]
    rfl);clear hW cq fq cb D;go_wp2;go_roundw
   case rel=>exact⟨k+1,zO,by go_num,eC ⟨by rw[HN];exact HS _,N.2.setCell (eX _) _⟩⟩
   case measure=>simp[aW];omega
  .have ao:k=64:=zO;subst ao;have HR:=eC D.out;clear D;obtain⟨W,hW⟩:∃W,W=wr:=⟨_,rfl⟩;subst hW;rw[show((64:Nat):Int)=64 from rfl];go_wp2;clear ab;go_loopw [6] (λi wr=>∃k:Nat,k<=48/\i=qI ((k:Int)+16)/\Hid (qB wr w (fR (wB B k)) 469/\Bl w wr)) (λi _=>64-(aW i).toNat)
   case atStart=>exact⟨0,zO,rfl,eC HR⟩
   case round=>
    obtain⟨k,hk,rfl,D⟩:=hrel;by_cases hlt:k<48
    .have ap:(k:Int)+16<64:=zO;obtain⟨O,ae⟩:∃x,(wB B k)[k]?=some x:=⟨_,lJ (by rw[C8];omega)⟩;obtain⟨S,Z⟩:∃x,(wB B k)[k+1]?=some x:=⟨_,lJ (by rw[C8];omega)⟩;obtain⟨x7,af⟩:∃x,(wB B k)[k+9]?=some x:=⟨_,lJ (by rw[C8];omega)⟩;obtain⟨x2,f⟩:∃x,(wB B k)[k+14]?=some x:=⟨_,lJ (by rw[C8];omega)⟩;have ay:aP.wrap ((k:Int)+16-15)=((k+1:Nat):Int):=by rw[iA];omega
     have i2:aP.wrap ((k:Int)+16-2)=((k+14:Nat):Int):=by rw[iA];omega
     have az:aP.wrap (k:Int)=(k:Int):=by rw[iA];omega
     have i7:aP.wrap ((k:Int)+16-7)=((k+9:Nat):Int):=by rw[iA];omega
     have i1:aP.wrap ((k:Int)+16+1)=((k+1:Nat):Int)+16:=by rw[iA];omega
     have al:qC wr w (k+1) (aC aQ S):=eJ D.out.1 Z;have c2:qC wr w (k+14) (aC aQ x2):=eJ D.out.1 f;have M:=eC (bG ae (bG Z (bG af f)));clear ae Z af f;go_wp2;go_quiet (fail);obtain⟨W,hW⟩:=eR (wr.drewN nq);rw[hW];have N:=eC (show qB W w (fR (wB B k)) 469/\Bl w W by rw[<-hW];exact⟨D.out.1,qA D.out.2 nq⟩);have sW:qC W w k (aC aQ O)/\qC W w (k+9) (aC aQ x7):=⟨eJ N.1 M.1,eJ N.1 M.2.2.1⟩;obtain⟨j,u⟩:=sW;have aa:=eC (λ(U:aS)v(h:qC U w k (aC aQ O)/\qC U w (k+9) (aC aQ x7))=>show qC (qS U (w,k+16) v) w k (aC aQ O)/\qC (qS U (w,k+16) v) w (k+9) (aC aQ x7)from
      ⟨(q9 _ (w,k+16) (w,k) _ zS).trans h.1,(q9 _ (w,k+16) (w,k+9) _ zS).trans h.2⟩);obtain⟨x0,ac⟩:∃x,(wB B k)[k+16]?=some x:=⟨_,lJ (by rw[C8];omega)⟩;have c0:qC W w (k+16) (aC aQ x0):=eJ N.1 ac;have f0:qF W w (k+16):=g8 W _ _ _ _ N.1;have b0:(0:Int)<=(k:Int):=zO;have b1:(k:Int)<64:=zO;have b2:(0:Int)<=(k:Int)+9:=zO;have b3:(k:Int)+9<64:=zO;have b4:(0:Int)<=(k:Int)+16:=zO;have b5:((k:Int)+9).toNat=k+9:=zO;have b6:((k:Int)+16).toNat=k+16:=zO;have R7:=eC (λU=>mN S 7 (-7) 25 U zD zK zD zD);have aj:=eC (λU=>mN S 18 (-18) 14 U zD zK zD zD);have ai:=eC (λU=>mN x2 17 (-17) 15 U zD zK zD zD);have ak:=eC (λU=>mN x2 19 (-19) 13 U zD zK zD zD);clear hW al c2 ac D;go_wp2;go_region_held3(λU=>qC U w k (aC aQ O)/\qC U w (k+9) (aC aQ x7)) (first|(with_reducible assumption)|exact⟨j,u⟩|exact aa _ _ ⟨j,u⟩) (first
      |(go_at_call 312;refine(R7 _).mono ?_;rintro e w1⟨rfl,J⟩;rw[<-J];clear J)
      |(go_at_call 312;refine(aj _).mono ?_;rintro e w1⟨rfl,J⟩;rw[<-J];clear J)
      |(go_at_call 312;refine(ai _).mono ?_;rintro e w1⟨rfl,J⟩;rw[<-J];clear J)
      |(go_at_call 312;refine(ak _).mono ?_;rintro e w1⟨rfl,J⟩;rw[<-J];clear J));obtain⟨W5,R⟩:=eR ((qS W (w,k+16) (aC aQ (aIc O S x7 x2))).drew);have ah:=eC (show qB W5 w (fR (wB B (k+1))) 469/\Bl w W5 by
      rw[<-R]
      refine⟨?_,qA (N.2.setCell (eX _) _) 1⟩
      show _=some (Obj.cells (fR (QE (wB B k) k)) 469 (0,0))
      unfold QE
      rw[vT,vT,vT,vT,M.1,M.2.1,M.2.2.1,M.2.2.2]
      exact gJ N.1 (k+16) _);unfold aIc at R;rw[R];clear R c0 f0 j u aa;go_wp2;go_roundw
     case rel=>exact⟨k+1,zO,rfl,ah⟩
     case measure=>simp[aW];omega
    .have am:k=48:=zO;subst am;have ag:=eC D.out;clear D;go_wp2;exact gO (results_tmp rfl _ _ _) rfl ⟨rfl,ag⟩
def M6(d f e g k w:Int):Int:=aQ.wrap (aQ.wrap (aQ.wrap (aQ.wrap (g+bits .xor aQ (bits .xor aQ (E4 d 26) (E4 d 21)) (E4 d 7))+bits .xor aQ e (bits .and aQ d (bits .xor aQ f e)))+k)+w)
def Y5(d e f:Int):Int:=aQ.wrap (bits .xor aQ (bits .xor aQ (E4 d 30) (E4 d 19)) (E4 d 10)+bits .xor aQ (bits .xor aQ (bits .and aQ d e) (bits .and aQ d f)) (bits .and aQ e f))
def aDo:List Int->Int->Int->List Int
 |[v0,v1,v2,v3,v4,v5,v6,v7],k,w=>[aQ.wrap (M6 v4 v5 v6 v7 k w+Y5 v0 v1 v2),v0,v1,v2,aQ.wrap (v3+M6 v4 v5 v6 v7 k w),v4,v5,v6]
 |l,_,_=>l
def tU(d v:List Int):Nat->List Int
 |0=>v
 |k+1=>aDo (tU d v k) (JM.getD k 0) (d.getD k 0)
def oQ(s v:List Int):Nat->List Int
 |0=>s
 |k+1=>(oQ s v k).set k (aQ.wrap ((oQ s v k).getD k 0+v.getD k 0))
theorem wN(s v:List Int):∀k,(oQ s v k).length=s.length
 |0=>rfl
 |k+1=>by unfold oQ;rw[cJ];exact wN s v k
def o9(s d:List Int):List Int:=oQ s (tU (wB d 48) s 64) 8
theorem uH(C:List Int)(d e f g i j m n:Int):∀k,∃q r s u x y A B,tU C [d,e,f,g,i,j,m,n] k=[q,r,s,u,x,y,A,B]
 |0=>⟨_,_,_,_,_,_,_,_,rfl⟩
 |k+1=>by
  obtain⟨q,r,s,u,x,y,A,B,h⟩:=uH C d e f g i j m n k
  exact⟨_,_,_,_,_,_,_,_,by unfold tU;rw[h];rfl⟩
theorem wH(h:l.length=8):∃k m n q r s u x,l=[k,m,n,q,r,s,u,x]:=by obtain _|⟨a,_|⟨b,_|⟨c,_|⟨d,_|⟨e,_|⟨f,_|⟨g,_|⟨i,_|⟨j,l⟩⟩⟩⟩⟩⟩⟩⟩⟩:=l<;>simp at h;exact⟨_,_,_,_,_,_,_,_,rfl⟩
theorem aAD{t:aX}(d e f g i j k m:Int)(h:qB W b (fR (bJ 8 0)) t):qB (qS (qS (qS (qS (qS (qS (qS (qS W (b,0) (aC aQ d)) (b,1) (aC aQ e)) (b,2) (aC aQ f)) (b,3) (aC aQ g)) (b,4) (aC aQ i)) (b,5) (aC aQ j)) (b,6) (aC aQ k)) (b,7) (aC aQ m)) b (fR [d,e,f,g,i,j,k,m]) t:=
 gJ (gJ (gJ (gJ (gJ (gJ (gJ (gJ h 0 d) 1 e) 2 f) 3 g) 4 i) 5 j) 6 k) 7 m
theorem fX(h:aV n U W){v:aT}(d:b<n)(e:qC U b i v):qC W b i v:=(h.cell (p:=(b,i)) d).trans e
theorem SI{V:aS}{d e f:Obj}(i:((w.alloc d).alloc e).alloc f=V):V.heap[(w:Nat)]?=some d/\V.heap[(w:Nat)+1]?=some e/\V.heap[(w:Nat)+2]?=some f/\Bl w V/\V=(w:Nat)+3:=by
 have g:(w.alloc d).heap.size=w+1:=fO _ _;have h:((w.alloc d).alloc e).heap.size=w+2:=by rw[fO,g]
 subst i;refine⟨?_,?_,?_,(((fL w _).alloc zO _).alloc zO _),by rw[fO,h]⟩
 .rw[heap_alloc_old _ _ zO,heap_alloc_old _ _ zO,fG]
 .rw[heap_alloc_old _ _ zO,<-g,fG]
 .rw[<-h,fG]
theorem aAB(D J M N O R S X:Int)(bs:List Int)(w:aS)(hl:bs.length=64):
  qK 272 #[aH #[aC aQ D,aC aQ J,aC aQ M,aC aQ N,aC aQ O,aC aQ R,aC aQ S,aC aQ X],aH (zJ bs)] w λe w'=>e=aO (aH (fR (o9 [D,J,M,N,O,R,S,X] bs)))/\aV w w w':=by
 obtain⟨V,hV⟩:=eR (((w.alloc (aK #[aC aQ D,aC aQ J,aC aQ M,aC aQ N,aC aQ O,aC aQ R,aC aQ S,aC aQ X] 402)).alloc (aK (zJ bs) 407)).alloc (aK #[aC aQ 0,aC aQ 0,aC aQ 0,aC aQ 0,aC aQ 0,aC aQ 0,aC aQ 0,aC aQ 0] 402));obtain⟨r0,r1,r2,a4,a7⟩:=SI hV;have CW:=eC (aBd ((w:Nat)+1) bs V r1 hl);have H0:=eC r0;have H2:=eC r2;have bb:=eC a4;have al:=eC a7;have HC:=eC (λU(h:aV V V U)=>show qC U w 0 (aC aQ D)/\qC U w 1 (aC aQ J)/\qC U w 2 (aC aQ M)/\qC U w 3 (aC aQ N)/\qC U w 4 (aC aQ O)/\qC U w 5 (aC aQ R)/\qC U w 6 (aC aQ S)/\U.cell? (w,7)=some (aC aQ X)by
  have e:=(h.block w zO).trans r0
  exact pQ8 e);clear r0 r1 r2 a4 a7;generalize zJ bs=bv at*;go_enter func272,ntmps272;go_wp2_with(first|(rw[hV])|(go_at_call 310;refine CW.out.mono ?_;rintro e w1⟨rfl,ar,a0⟩)|(go_at_call 311;refine(aBE w1).mono ?_;rintro e B⟨rfl,aj⟩;have ap:aV V V B:=by{rw[aj];exact a0.alloc a0.size _};have bq:=eC (show B.heap[(w1:Nat)]?=some (aK (fR JM) 469 (0,0))by{rw[aj];exact fG w1 _});have bw:=eC (show B.heap[(V:Nat)]?=some (aK (fR (wB bs 48)) 469 (0,0))by{rw[aj];exact(heap_alloc_old _ _ (fB.1 ar).1).trans ar});have au:=eC (show V<(w1:Nat)/\B=(w1:Nat)+1 from⟨(fB.1 ar).1,by{rw[aj];exact fO _ _}⟩);obtain⟨d0,d1,d2,d3,d4,d5,d6,d7⟩:=HC.out B ap;replace ap:=eC ap;clear aj ar a0));have bj:=eC (show qB (B.alloc (aK (fR [D,J,M,N,O,R,S,X]) 400)) B (fR [D,J,M,N,O,R,S,X]) 400from fG B _);have a8:=eC ((iL _ B).alloc (eX _) (aK (fR [D,J,M,N,O,R,S,X]) 400));clear d0 d1 d2 d3 d4 d5 d6 d7;go_loopw [18] (λi wr=>∃k:Nat,k<=64/\i=qI k/\Hid (qB wr B (fR (tU (wB bs 48) [D,J,M,N,O,R,S,X] k)) 400/\aV B B wr)) (λi _=>64-(aW i).toNat)
 case atStart=>exact⟨0,zO,rfl,eC ⟨bj.out,a8.out⟩⟩
 case round=>
  obtain⟨k,hk,rfl,hR⟩:=hrel;by_cases hlt:k<64
  .have bu:(k:Int)<64:=zO;obtain⟨Y,v1,v2,v3,Z,f,u,v7,hv⟩:=uH (wB bs 48) D J M N O R S X k;have ah:=hR.out.1;rw[hv]at ah;obtain⟨x,hx⟩:∃x,(wB bs 48)[k]?=some x:=⟨_,lJ (by rw[C8];exact hlt)⟩;obtain⟨c,hc⟩:∃c,JM[k]?=some c:=⟨_,lJ (by exact hlt)⟩;have c0:qC wr B 0 (aC aQ Y):=eJ ah rfl;have c4:qC wr B 4 (aC aQ Z):=eJ ah rfl;have wk:aP.wrap ((k:Int)+1)=(k:Int)+1:=by rw[iA];omega
   have b0:(0:Int)<=(k:Int):=zO;go_wp2;go_quiet (fail);obtain⟨W,hW⟩:=eR (wr.drewN nq);rw[hW];have af:=eC (show qB W B (fR [Y,v1,v2,v3,Z,f,u,v7]) 400/\aV B B W by rw[<-hW];exact⟨ah,qA hR.out.2 nq⟩);have e7:qC W B 7 (aC aQ v7):=eJ af.out.1 rfl;have e6:qC W B 6 (aC aQ u):=eJ af.out.1 rfl;have e5:qC W B 5 (aC aQ f):=eJ af.out.1 rfl;have ek:qC W w1 k (aC aQ c):=eJ ((af.out.2.block _ (by have:=au.out;omega)).trans bq.out) hc;have ew:qC W V k (aC aQ x):=eJ ((af.out.2.block _ (by have:=au.out;omega)).trans bw.out) hx;have R6:=eC (λU=>mN Z 6 (-6) 26 U zD zK zD zD);have bm:=eC (λU=>mN Z 11 (-11) 21 U zD zK zD zD);have bp:=eC (λU=>mN Z 25 (-25) 7 U zD zK zD zD);have R2:=eC (λU=>mN Y 2 (-2) 30 U zD zK zD zD);have bn:=eC (λU=>mN Y 13 (-13) 19 U zD zK zD zD);have bo:=eC (λU=>mN Y 22 (-22) 10 U zD zK zD zD);have HX:=eC (bG hx (bG hc hv));clear hW c0 c4 ah hR hx hc hv;go_wp2;go_region_held3(λU=>qC U B 7 (aC aQ v7)/\qC U B 6 (aC aQ u)/\qC U B 5 (aC aQ f)/\qC U w1 k (aC aQ c)/\qC U V k (aC aQ x)) (first|(with_reducible assumption)|exact⟨e7,e6,e5,ek,ew⟩) (first
    |(go_at_call 312;refine(R6.out _).mono ?_;rintro e w9⟨rfl,aa⟩;rw[<-aa];clear aa)
    |(go_at_call 312;refine(bm.out _).mono ?_;rintro e w9⟨rfl,aa⟩;rw[<-aa];clear aa)
    |(go_at_call 312;refine(bp.out _).mono ?_;rintro e w9⟨rfl,aa⟩;rw[<-aa];clear aa));obtain⟨T1,am⟩:=eR (M6 Z f u v7 c x);have bh:=eC am;unfold M6 at am;rw[am];obtain⟨W8,az⟩:=eR W.drew;rw[az];have ak:=eC (show qB W8 B (fR [Y,v1,v2,v3,Z,f,u,v7]) 400/\aV B B W8 by rw[<-az];exact⟨af.out.1,qA af.out.2 1⟩);have g1:qC W8 B 1 (aC aQ v1):=eJ ak.out.1 rfl;have g2:qC W8 B 2 (aC aQ v2):=eJ ak.out.1 rfl;clear am e7 e6 e5 ek ew az;rename_i ay;clear ay;go_wp2;go_region_held3(λU=>qC U B 1 (aC aQ v1)/\qC U B 2 (aC aQ v2)) (first|(with_reducible assumption)|exact⟨g1,g2⟩) (first
    |(go_at_call 312;refine(R2.out _).mono ?_;rintro e w9⟨rfl,aa⟩;rw[<-aa];clear aa)
    |(go_at_call 312;refine(bn.out _).mono ?_;rintro e w9⟨rfl,aa⟩;rw[<-aa];clear aa)
    |(go_at_call 312;refine(bo.out _).mono ?_;rintro e w9⟨rfl,aa⟩;rw[<-aa];clear aa));obtain⟨T2,ao⟩:=eR (Y5 Y v1 v2);have bi:=eC ao;unfold Y5 at ao;rw[ao];obtain⟨W9,aL⟩:=eR W8.drew;rw[aL];have ax:=eC (show qB W9 B (fR [Y,v1,v2,v3,Z,f,u,v7]) 400/\aV B B W9 by rw[<-aL];exact⟨ak.out.1,qA ak.out.2 1⟩);clear ao g1 g2 aL;rename_i ay;clear ay;go_wp2;have bl:(prog.info? 131).map (·.size)=some 1:=zK;have bg:=eC (λ(j:Nat)(v:aT)(hj:[aC aQ Y,aC aQ v1,aC aQ v2,aC aQ v3,aC aQ Z,aC aQ f,aC aQ u][j]?=some v)=>show W9.drew.cell? (((B,0):Addr).add j)=some v by
    rw[kJ,kQ]
    unfold bH
    rw[show W9.drew.heap[(B:Nat)]?=_ from ax.out.1]
    simp only[fR,List.getElem?_toArray]
    rw[show List.map (aC aQ) [Y,v1,v2,v3,Z,f,u,v7]=[aC aQ Y,aC aQ v1,aC aQ v2,aC aQ v3,aC aQ Z,aC aQ f,aC aQ u]++[aC aQ v7]from rfl,FU (gX.1 hj).1,hj]
    rfl);refine wp_region_any zK ?_;change wpAny _ _ _ _ _ _ _ (World.drew _);refine wpAny_take (i:=0) (v:=aA (some (B,1)) 7 7) rfl zK zK zK (λ_ _ _ h=>h) (Or.inl ⟨zR,by intro U;go_simp⟩) ?_;simp only[Act.put];refine wpAny_take (i:=1) (v:=aA (some (B,0)) 7 8) rfl zK zK zK (λ_ _ _ h=>h) (Or.inl ⟨zR,by intro U;go_simp⟩) ?_;simp only[Act.put];refine aKo (rs:=[2]) zK zS (aKO rfl (λK hK=>?_) aKF);refine step_copy_splice (o:=⟨some 85,_,_,_,_,_⟩) rfl (.tmp 83) (.tmp 84) _ _ zR 131 underlying441 bl _ _ _ _ _ _ zR zR B 1 [aC aQ Y,aC aQ v1,aC aQ v2,aC aQ v3,aC aQ Z,aC aQ f,aC aQ u,aC aQ v7] 400 ax.out.1 [aC aQ Y,aC aQ v1,aC aQ v2,aC aQ v3,aC aQ Z,aC aQ f,aC aQ u] zR (λ_=>⟨rfl,_,rfl,bg.out⟩) zS (by intro v hv;simp at hv;obtain rfl|rfl|rfl|rfl|rfl|rfl|rfl:=hv<;>rfl) B B (qA ax.out.2 1) (eX _) ?_;intro ac a5 a3;have ag:=eC (show qB ac B (fR [Y,Y,v1,v2,v3,Z,f,u]) 400/\aV B B ac from⟨a5.out,a3⟩);clear a5 a3;simp only[Act.put];refine hK _ _ ?_;clear hK K;refine wpAny_done zK ?_ _;have g0:qC ac B 0 (aC aQ Y):=eJ ag.out.1 rfl;have g4:qC ac B 4 (aC aQ v3):=eJ ag.out.1 rfl;have f0:qF ac B 0:=g8 ac _ _ _ _ ag.out.1;have f4:qF ac B 4:=g8 ac _ _ _ _ ag.out.1;have HS:=eC (λa b=>show qB (qS (qS ac (B,0) (aC aQ a)) (B,4) (aC aQ b)) B (fR [a,Y,v1,v2,b,Z,f,u]) 400/\aV B B (qS (qS ac (B,0) (aC aQ a)) (B,4) (aC aQ b))from
    ⟨gJ (gJ ag.out.1 0 a) 4 b,(ag.out.2.setCell (eX _) _).setCell (eX _) _⟩);obtain⟨y0,bx⟩:∃y,aQ.wrap (T1+T2)=y:=⟨_,rfl⟩;obtain⟨y4,bz⟩:∃y,aQ.wrap (v3+T1)=y:=⟨_,rfl⟩;have HN:=eC (show tU (wB bs 48) [D,J,M,N,O,R,S,X] (k+1)=[y0,Y,v1,v2,y4,Z,f,u]by
    show aDo (tU (wB bs 48) [D,J,M,N,O,R,S,X] k) (JM.getD k 0) ((wB bs 48).getD k 0)=_
    rw[HX.out.2.2,vT,vT,HX.out.1,HX.out.2.1]
    show [aQ.wrap (M6 Z f u v7 c x+Y5 Y v1 v2),Y,v1,v2,aQ.wrap (v3+M6 Z f u v7 c x),Z,f,u]=_
    rw[bh.out,bi.out,bx,bz]);go_wp2;go_roundw
   case rel=>exact⟨k+1,zO,by go_num,eC ⟨by rw[HN.out];exact(HS.out _ _).1,(HS.out _ _).2⟩⟩
   case measure=>simp[aW];omega
  .have br:k=64:=zO;subst br;obtain⟨Y,v1,v2,v3,Z,f,u,v7,hv⟩:=uH (wB bs 48) D J M N O R S X 64;have HR:=eC hR.out;clear hR;obtain⟨W,hW⟩:∃W,W=wr:=⟨_,rfl⟩;subst hW;rw[show((64:Nat):Int)=64 from rfl];obtain⟨vs,aq⟩:=eR (tU (wB bs 48) [D,J,M,N,O,R,S,X] 64);have a6:vs.length=8:=by rw[<-aq,hv];rfl
   have bc:=eC (show o9 [D,J,M,N,O,R,S,X] bs=oQ [D,J,M,N,O,R,S,X] vs 8 by unfold o9;rw[aq]);rw[aq]at HR;have aw:=eC (ap.out.trans (HR.out.2.mono (by have:=au.out;omega)));have bk:=eC a6;have be:=eC (show qB W w (fR [D,J,M,N,O,R,S,X]) 402from(aw.out.block _ (by have:=al.out;omega)).trans H0.out);have a2:=eC (show qB W B (fR vs) 400from HR.out.1);have bf:=eC (show qB W ((w:Nat)+1+1) #[aC aQ 0,aC aQ 0,aC aQ 0,aC aQ 0,aC aQ 0,aC aQ 0,aC aQ 0,aC aQ 0] 402from(aw.out.block _ (by have:=al.out;omega)).trans H2.out);have av:Hid (w+3<=(B:Nat)/\B<W.heap.size):=eC ⟨by have:=au.out;have:=al.out;omega,(fB.1 a2.out).1⟩;clear hv aq a6 HC CW;go_wp2;go_loopw [96] (λi wr=>∃k:Nat,k<=8/\i=qI k/\Hid (qB wr w (fR (oQ [D,J,M,N,O,R,S,X] vs k)) 402/\eZ (λq=>q=(w:Nat)) W wr)) (λi _=>8-(aW i).toNat)
   case atStart=>exact⟨0,zO,rfl,eC ⟨be.out,eZ.refl _ _⟩⟩
   case round=>
    obtain⟨k,hk,rfl,hR⟩:=hrel;by_cases hlt:k<8
    .have bu:(k:Int)<8:=zO;obtain⟨x,hx⟩:∃x,(oQ [D,J,M,N,O,R,S,X] vs k)[k]?=some x:=⟨_,lJ (by rw[wN];exact hlt)⟩;obtain⟨y,hy⟩:∃y,vs[k]?=some y:=⟨_,lJ (by rw[bk.out];exact hlt)⟩;have cx:qC wr w k (aC aQ x):=eJ hR.out.1 hx;have cy:qC wr B k (aC aQ y):=eJ ((hR.out.2.block _ av.out.2 (by have:=av.out.1;omega)).trans a2.out) hy;have fx:qF wr w k:=g8 wr _ _ _ _ hR.out.1;have wk:aP.wrap ((k:Int)+1)=(k:Int)+1:=by rw[iA];omega
     have b0:(0:Int)<=(k:Int):=zO;have HX:=eC (bG hx hy);clear hx hy;go_wp2;go_still_tail 9,zK;change wpList _ _ _ _ _ wr.drew;obtain⟨W5,ai⟩:=eR wr.drew;rw[ai];have bA:W5.cell? (w,k)=some (aC aQ x):=by rw[<-ai];exact cx
     have bL:W5.frozen? (w,k)=false:=by rw[<-ai];exact fx
     have a1:=eC (show qB W5 w (fR (oQ [D,J,M,N,O,R,S,X] vs k)) 402/\eZ (λq=>q=(w:Nat)) W W5 by rw[<-ai];exact⟨hR.out.1,hR.out.2.drew⟩);have HN:=eC (show oQ [D,J,M,N,O,R,S,X] vs (k+1)=(oQ [D,J,M,N,O,R,S,X] vs k).set k (aQ.wrap (x+y))by
      show(oQ [D,J,M,N,O,R,S,X] vs k).set k (aQ.wrap ((oQ [D,J,M,N,O,R,S,X] vs k).getD k 0+vs.getD k 0))=_
      rw[vT,vT,HX.out.1,HX.out.2]
      rfl);have HS:=eC (λz=>show qB (qS W5 (w,k) (aC aQ z)) w (fR ((oQ [D,J,M,N,O,R,S,X] vs k).set k z)) 402/\eZ (λq=>q=(w:Nat)) W (qS W5 (w,k) (aC aQ z))from⟨gJ a1.out.1 k z,a1.out.2.set (.inl rfl) _⟩);obtain⟨z,hz⟩:=eR (aQ.wrap (x+y));rw[hz]at HN;clear ai cx cy fx hR;go_wp2;go_roundw
     case rel=>exact⟨k+1,zO,by go_num,eC ⟨by rw[HN.out];exact(HS.out _).1,(HS.out _).2⟩⟩
     case measure=>simp[aW];omega
    .have bt:k=8:=zO;subst bt;obtain⟨q0,q1,q2,q3,q4,q5,q6,q7,hq⟩:=wH (show(oQ [D,J,M,N,O,R,S,X] vs 8).length=8 by rw[wN];rfl);have h1:=hR.out.1;rw[hq]at h1;have HQ:=eC hq;have z0:qC wr w 0 (aC aQ q0):=eJ h1 rfl;have z1:qC wr w 1 (aC aQ q1):=eJ h1 rfl;have z2:qC wr w 2 (aC aQ q2):=eJ h1 rfl;have z3:qC wr w 3 (aC aQ q3):=eJ h1 rfl;have z4:qC wr w 4 (aC aQ q4):=eJ h1 rfl;have z5:qC wr w 5 (aC aQ q5):=eJ h1 rfl;have z6:qC wr w 6 (aC aQ q6):=eJ h1 rfl;have z7:qC wr w 7 (aC aQ q7):=eJ h1 rfl;have ab:qB wr ((w:Nat)+1+1) (fR (bJ 8 0)) 402:=(hR.out.2.block _ (by have:=av.out;omega) zO).trans bf.out;have y0:qC wr ((w:Nat)+1+1) 0 (aC aQ 0):=eJ ab rfl;have y1:qC wr ((w:Nat)+1+1) 1 (aC aQ 0):=eJ ab rfl;have y2:qC wr ((w:Nat)+1+1) 2 (aC aQ 0):=eJ ab rfl;have y3:qC wr ((w:Nat)+1+1) 3 (aC aQ 0):=eJ ab rfl;have y4:qC wr ((w:Nat)+1+1) 4 (aC aQ 0):=eJ ab rfl;have y5:qC wr ((w:Nat)+1+1) 5 (aC aQ 0):=eJ ab rfl;have y6:qC wr ((w:Nat)+1+1) 6 (aC aQ 0):=eJ ab rfl;have y7:qC wr ((w:Nat)+1+1) 7 (aC aQ 0):=eJ ab rfl;have x0:=tK ab;have bd:=eC (aAD q0 q1 q2 q3 q4 q5 q6 q7 ab);have ba:=eC (show aV w w wr by
      have hz:=al.out
      have b1:=aw.out.mono (show w<=(V:Nat)from zO)
      exact bb.out.trans (b1.trans (hR.out.2.below (by have:=av.out;omega) (λq hq=>zO))));clear hR h1 ab hq;go_wp2;have ae:w<=(w:Nat)+1+1:=zO;exact gO (EP rfl _ _ ((w:Nat)+1+1) 402 _ (0,0) _ rfl bd.out underlying402 rfl zK) rfl ⟨by rw[bc.out,HQ.out],(((((((ba.out.setCell ae _).setCell ae _).setCell ae _).setCell ae _).setCell ae _).setCell ae _).setCell ae _).setCell ae _⟩
def GR:Nat->List UInt8->Nat->Nat->List UInt8
 |0,l,_,_=>l
 |f+1,l,i,r=>if r=0 then l else GR f (l.set i (bI r)) (i-1) (r/256)
def BI(n:Nat):Nat:=72-(n+8)%64
def G5(n:Nat):List UInt8:=GR 4 ((bJ (BI n) 0).set 0 128) (BI n-1) (n*8)
theorem NY:∀(f:Nat)(l:List UInt8)(i r:Nat),(GR f l i r).length=l.length
 |0,l,i,r=>rfl
 |f+1,l,i,r=>by
  unfold GR
  split
  .rfl
  .rw[NY,cJ]
theorem aDE(n:Nat):(G5 n).length=BI n:=by unfold G5;rw[NY,cJ,DA]
def GH(l:List UInt8):Array aT:=(l.map nJ).toArray
theorem aDO{l:List UInt8}{t:aX}(h:W.heap[b]?=some (aK (GH l) t (0,0)))(i:Nat)(x:UInt8):(qS W (b,i) (aC .u8 x.toNat)).heap[b]?=some (aK (GH (l.set i x)) t (0,0)):=by have:=iB W b i _ _ (aC .u8 x.toNat) h;rw[this];simp[GH,List.map_set,nJ]
theorem aAa{l:List UInt8}{t:aX}(h:W.heap[b]?=some (aK (GH l) t z))(d:i<l.length):∃x:UInt8,W.cell? (b,i)=some (aC .u8 x.toNat):=by refine⟨l[i],?_⟩;unfold bH;rw[h];simp[GH,d,nJ]
theorem aIn{l:List UInt8}(h:qB W b (GH l) 5)(d:n<=b)(e:l.length<=1000):mZ W n (aA (some (b,0)) l.length l.length) l:=
 ⟨zS,.inr ⟨b,l.length,GH l,rfl,d,h,eX _,by unfold aZ;omega,by simp[GH],by simp only[GH];rw[Nat.mul_one,nH zS]⟩⟩
theorem aHg(n:Nat)(w:aS)(hn:n<=100000000):
  qK 271 #[qI n] w (Rt (aB (eH (G5 n))) w):=by
 have h0:¬(n:Int)<0:=zO;obtain⟨m,hm⟩:=eR (BI n);have ag:9<=m/\m<=72:=by unfold BI at hm;omega
 have ah:72-((n:Int)+8)%64=(m:Int):=by unfold BI at hm;omega
 obtain⟨i0,R,Z,f,u⟩:=info_parts RW;have ab:∀W:aS,(Instr.makeSlice 173 (qI m) (qI m)).run prog W=.ok (aA (some (W,0)) m m) (W.alloc (aK (madeCells #[aC .u8 0] m) 5)):=λW=>by have U:=run_make (P:=prog) W 173 5 i0 (aC .u8 0) underlying173 R Z aP aP m m zO zO (by rw[u];omega) zO;simp only[xC,f,Nat.mul_one]at U;exact U
 obtain⟨V,N,O,-⟩:=lB w (aK (madeCells #[aC .u8 0] m) 5);have D:V.heap[(w:Nat)]?=some (aK (GH (bJ m 0)) 5 (0,0)):=by rw[<-N,I6,fG];simp[GH,nJ]
 obtain⟨y0,M⟩:=aAa D (i:=0) (by rw[DA];omega);have f0:qF V w 0:=g8 V _ _ _ _ D;have b0:(0:Int)<(m:Int):=zO;have ao:bK.wrap (n:Int)=(n:Int):=by rw[sU];omega
 have ap:bK.wrap ((n:Int)*8)=((n*8:Nat):Int):=by rw[sU];omega
 have ai:aP.wrap ((m:Int)-1)=((m-1:Nat):Int):=by rw[iA];omega
 have x:=eC (show qB (qS V (w,0) (aC .u8 128)) w (GH ((bJ m 0).set 0 128)) 5from aDO D 0 128);change Hid _ at hm O;clear R Z f u D;go_enter func271,ntmps271;go_wp2;clear M f0 ab N;go_loopw [4,5] (λi r wr=>∃(j s:Nat)(l:List UInt8),j<=4/\i=qI ((m-1-j:Nat):Int)/\r=aC .u64 (s:Int)/\l.length=m/\s<256^(4-j)/\Hid (qB wr w (GH l) 5/\G5 n=GR (4-j) l (m-1-j) s/\Bl w wr)) (λi r _=>(aW r).toNat)
 case atStart=>exact⟨0,n*8,(bJ m 0).set 0 128,zO,rfl,rfl,zS,zO,eC ⟨x,by rw[<-hm];rfl,O.setCell (eX _) _⟩⟩
 case round=>
  obtain⟨j,s,l,hj,rfl,rfl,S,X,B⟩:=hrel;by_cases hlt:0<s
  .have af:(0:Int)<(s:Int):=zO;have ae:j<=3:=by
    obtain h|h:=Nat.lt_or_ge j 4
    .omega
    .obtain rfl:j=4:=zO;simp at X;omega
   have hp:256^(4-j)=256^(4-(j+1))*256:=by rw[show 4-j=4-(j+1)+1 from zO,Nat.pow_succ]
   have am:s<4294967296:=gV X (by
    have:(256:Nat)^(4-j)<=256^4:=Nat.pow_le_pow_right zD zO
    omega);obtain⟨q,hq⟩:=eR (m-1-j);have ak:5<=q/\q<m:=zO;have al:(q:Int)<(m:Int):=zO;have aj:(0:Int)<=(q:Int):=zO;have aq:aP.wrap ((q:Int)-1)=((m-1-(j+1):Nat):Int):=by rw[iA];omega
   have Y:IntKind.u8.wrap (s:Int)=((bI s).toNat:Int):=by rw[cK,dR];omega
   obtain⟨y,M⟩:=aAa B.out.1 (i:=q) zO;have f0:qF wr w q:=g8 wr _ _ _ _ B.out.1;have HS:=eC (aDO B.out.1 q (bI s));have HP:=eC (show G5 n=GR (4-(j+1)) (l.set q (bI s)) (m-1-(j+1)) (s/256)by
    rw[B.out.2.1,show 4-j=(4-(j+1))+1 by omega]
    unfold GR
    rw[eE zO,hq]
    rw[show q-1=m-1-(j+1) by omega]
    cases(4-(j+1))<;>rfl);have J:=eC (B.out.2.2);rw[hq];clear B Y;have Y:IntKind.u8.wrap (s:Int)=((bI s).toNat:Int):=by rw[cK,dR];omega
   generalize(bI s)=z at*;go_wp2;go_roundw
   case rel=>exact⟨j+1,s/256,l.set q z,zO,rfl,by go_num,by rw[cJ];exact S,zO,eC ⟨HS,HP,J.setCell (eX _) _⟩⟩
   case measure=>simp[aW];omega
  .have ac:s=0:=zO;subst ac;have aa:Hid (G5 n=l):=eC (by rw[B.out.2.1];cases(4-j)<;>simp[GR]);have hcv:=(aIn B.out.1 (eX _) zO).conv
   rw[S]at hcv;have J:=eC B.out.2.2;clear B;go_wp2;go_ret;exact⟨by rw[aa];rfl,J⟩
theorem R9{U:List Oper}{N:Act}(Y:o.guard=none)(s x:Operand)
  (ho:o.op=.call {callee:=.builtin .append,args:=#[s,x],argTypes:=#[173,173]})(n:Nat)(v:aT)(l:List UInt8)(hs:N.eval s=v)(R:mZ W n v l)
  (B D J M:UInt8)(hx:N.eval x=aA (some (W,0)) 4 4)(hn:n<=W)(ag:l.length<=100000000)
  (h:∀O w',mZ w' n O (l++[B,D,J,M])->aV n (W.alloc (aK #[nJ B,nJ D,nJ J,nJ M] 5)) w'->wpList prog ops Q U (N.put o.dst O) w'):
  wpList prog ops Q (o::U) N (W.alloc (aK #[nJ B,nJ D,nJ J,nJ M] 5)):=by
 obtain⟨i0,Z,ac,ae,af⟩:=info_parts RW;have aa:=eG.new W [nJ B,nJ D,nJ J,nJ M] 5;refine wpList_append_own _ Y s x 173 ho n 5 i0 (aC .u8 0) 1 1 underlying173 Z ac ae af rfl zD v l.length (l.map nJ) hs (World.ownsRow.alloc R _) (W,0) 4 4 [nJ B,nJ D,nJ J,nJ M] hx rfl (λj u f=>by rw[kJ,kQ];simpa using aa j u f) (by intro u S;simp at S;obtain rfl|rfl|rfl|rfl:=S<;>rfl) (by unfold aZ;omega) zO zT (λO w' ab X ah=>h O w' ?_ ?_)
 .unfold mZ;simpa using ab
 .exact(iL n _).grown X zT (λk y=>(BK R k y).1)
def BF(x:Int):UInt8:=bI (x%256).toNat
theorem vK(x:Int):IntKind.u8.wrap x=((BF x).toNat:Int):=by unfold BF;rw[cK,dR];omega
def RD(h:Int):List UInt8:=[BF (h/16777216),BF (h/65536),BF (h/256),BF h]
theorem aKz(d e f g i j m n:Int)(U:aS):∀(k:Nat)(x:Int),[d,e,f,g,i,j,m,n][k]?=some x->(Instr.index 400 (aH #[aC aQ d,aC aQ e,aC aQ f,aC aQ g,aC aQ i,aC aQ j,aC aQ m,aC aQ n]) (qI (k:Nat))).run prog U=.ok (aC aQ x) U
 |0,x,h=>by cases h;kernel_rfl
 |1,x,h=>by cases h;kernel_rfl
 |2,x,h=>by cases h;kernel_rfl
 |3,x,h=>by cases h;kernel_rfl
 |4,x,h=>by cases h;kernel_rfl
 |5,x,h=>by cases h;kernel_rfl
 |6,x,h=>by cases h;kernel_rfl
 |7,x,h=>by cases h;kernel_rfl
 |k+8,x,h=>by simp at h
def WK(l:List Int):List UInt8:=l.flatMap RD
theorem UP(B D J M N O R S:Int)(w:aS):
  qK 273 #[aH #[aC aQ B,aC aQ D,aC aQ J,aC aQ M,aC aQ N,aC aQ O,aC aQ R,aC aQ S]] w (Rt (aB (eH (WK [B,D,J,M,N,O,R,S]))) w):=by
 obtain⟨V,Y⟩:∃V,w.alloc (aK #[aC aQ B,aC aQ D,aC aQ J,aC aQ M,aC aQ N,aC aQ O,aC aQ R,aC aQ S] 402)=V:=⟨_,rfl⟩;have ag:Bl w V:=by rw[<-Y];exact(iL _ w).alloc (eX _) _
 have af:V=(w:Nat)+1:=by rw[<-Y];exact fO _ _
 have X:V.heap[(w:Nat)]?=some (aK (fR [B,D,J,M,N,O,R,S]) 402 (0,0)):=by rw[<-Y];exact fG w _
 have d0:qC V w 0 (aC aQ B):=eJ X rfl;have d1:qC V w 1 (aC aQ D):=eJ X rfl;have d2:qC V w 2 (aC aQ J):=eJ X rfl;have d3:qC V w 3 (aC aQ M):=eJ X rfl;have d4:qC V w 4 (aC aQ N):=eJ X rfl;have d5:qC V w 5 (aC aQ O):=eJ X rfl;have d6:qC V w 6 (aC aQ R):=eJ X rfl;have d7:qC V w 7 (aC aQ S):=eJ X rfl;change Hid _ at af;change Hid _ at ag;clear X;go_enter func273,ntmps273;go_wp2;clear d0 d1 d2 d3 d4 d5 d6 d7 Y;go_loopw [3,8] (λv i wr=>∃k:Nat,k<=8/\i=qI k/\Hid (mZ wr ((w:Nat)+1) v (WK ([B,D,J,M,N,O,R,S].take k))/\aV ((w:Nat)+1) V wr)) (λ_ i _=>8-(aW i).toNat)
 case atStart=>exact⟨0,zO,rfl,eC ⟨mZ.nil _ _,iL _ _⟩⟩
 case round=>
  obtain⟨k,hk,rfl,W⟩:=hrel;by_cases hlt:k<8
  .have ak:(k:Int)<8:=zO;have wk:aP.wrap ((k:Int)+1)=(k:Int)+1:=by rw[iA];omega
   obtain⟨x,u⟩:∃x,[B,D,J,M,N,O,R,S][k]?=some x:=⟨_,lJ (by simpa using hlt)⟩;have hi:=λU=>aKz B D J M N O R S U k x u;have Z:=eC (show WK ([B,D,J,M,N,O,R,S].take (k+1))=WK ([B,D,J,M,N,O,R,S].take k)++RD x by
    rw[F4,u]
    simp[WK]);have ah:=eC (show(WK ([B,D,J,M,N,O,R,S].take k)).length<=100000000 by
    have:∀l:List Int,(WK l).length=4*l.length:=λl=>by
     induction l with
     |nil=>rfl
     |cons a r ih=>simp[WK,RD]at ih|-;omega
    rw[this,jR]
    omega);have e0:=vK (x/16777216);have e1:=vK (x/65536);have e2:=vK (x/256);have e3:=vK x;obtain⟨y0,aa⟩:∃y,BF (x/16777216)=y:=⟨_,rfl⟩;obtain⟨y1,ab⟩:∃y,BF (x/65536)=y:=⟨_,rfl⟩;obtain⟨y2,ac⟩:∃y,BF (x/256)=y:=⟨_,rfl⟩;obtain⟨y3,ae⟩:∃y,BF x=y:=⟨_,rfl⟩;rw[aa]at e0;rw[ab]at e1;rw[ac]at e2;rw[ae]at e3;unfold RD at Z;rw[aa,ab,ac,ae]at Z;clear u aa ab ac ae;generalize WK ([B,D,J,M,N,O,R,S].take k)=L at*;obtain⟨a,c,rfl,_⟩:=W.out.1.slice;go_wp2_with(refine R9 rfl (.tmp 11) (.tmp 23) rfl ((w:Nat)+1) (aA a L.length c) L rfl W.out.1 y0 y1 y2 y3 rfl (by have h1:=W.out.2.size;have:=af.out;omega) ah ?_;intro v' w' j hb;obtain⟨a',c',rfl,_⟩:=j.slice;have ai:=eC (show mZ w' ((w:Nat)+1) (aA a' (L++[y0,y1,y2,y3]).length c') (L++[y0,y1,y2,y3])/\aV ((w:Nat)+1) V w' from⟨j,(W.out.2.alloc (by have h1:=W.out.2.size;have:=af.out;omega) _).trans hb⟩);clear j hb);go_roundw
   case rel=>exact⟨k+1,zO,by go_num,by rw[Z];have h:=ai.out;rw[iR]at h;exact eC h⟩
   case measure=>simp[aW];omega
  .have aj:k=8:=zO;subst aj;rw[show [B,D,J,M,N,O,R,S].take 8=[B,D,J,M,N,O,R,S]from rfl]at W;obtain⟨L,f⟩:∃L,WK [B,D,J,M,N,O,R,S]=L:=⟨_,rfl⟩;rw[f]at W;change Hid _ at f;obtain⟨a,c,rfl,_⟩:=W.out.1.slice;have hcv:=W.out.1.conv
   have HB:=eC W.out.2;clear W;go_wp2;go_ret;exact⟨by rw[f];rfl,ag.trans (HB.mono zO)⟩
section
attribute [local go_sem] Oper.semAt_some
theorem uC{O:List Oper}(W:o.guard=none)(D:aX)(x:Operand)(M:o.op=.load D x)
  (b N:Nat)(Z:J.eval x=qP b N)(B:List aT)(d:TypeDesc)(S:w.rangeAt b N B)
  (Y:P.underlying D=some d)(hd:d.isRow=true)(X:(P.info? D).map (·.size)=some B.length)
  (h:wpListIn F m P ops Q O (J.put o.dst (aH B.toArray)) w):wpListIn F m P ops Q (o::O) J w:=by
 refine wpListIn_plain W λf R=>?_;unfold Oper.wpIn;refine⟨?_,?_⟩
 .simp[Oper.about,M]
 .rw[Oper.semAt_plain F _ _ (by rw[M];intro c U;cases U)];simp only[execOp,M,Z,Instr.loadAt,Instr.sureAddr,Sem.run_bind,Sem.run_pure,Result.andThen_ok,run_loadVar_mid w b N D B d S Y hd X];exact R _ _ h
def YD(B:Nat)(W:aS):Nat:=match W.cell? ⟨B,0,none⟩with|some (aB t)=>t.size|_=>0
theorem NX{B:Nat}{t:aX}{s:ByteArray}(h:Boxed W B t (aB s)):YD B W=s.size:=by unfold YD;rw[h.cell]
def nP:Nat->List UInt8->List (List UInt8)
 |0,_=>[]
 |n+1,l=>if 64<=l.length then l.take 64::nP n (l.drop 64)else []
theorem PF{l:List UInt8}(h:l.length<64):nP n l=[]:=by
 cases n with
 |zero=>rfl
 |succ n=>unfold nP;rw[eE zO]
theorem TW{l:List UInt8}(h:64<=l.length)(d:l.length<=n):nP n l=l.take 64::nP (n-1) (l.drop 64):=by
 cases n with
 |zero=>omega
 |succ n=>show nP (n+1) l=_;rw[nP,eI h];rfl
theorem nX(t:ByteArray):t.size=t.data.toList.length:=by rw[Array.length_toList];rfl
theorem aDg(t:ByteArray)(h:64<=t.size):(t.extract 0 64).data.toList=t.data.toList.take 64/\(t.extract 0 64).size=64:=by
 have e:(t.extract 0 64).data.toList=t.data.toList.take 64:=by simp[ByteArray.data_extract]
 refine⟨e,?_⟩;rw[nX,e,jR];have d:=nX t;omega
theorem aDk(t:ByteArray)(h:64<=t.size):(t.extract 64 t.size).data.toList=t.data.toList.drop 64:=by
 have d:=nX t;have e:(t.extract 64 t.size).data.toList=(t.data.toList.drop 64).take (t.size-64):=by simp[ByteArray.data_extract]
 rw[e,nH (by rw[sB];omega)]
theorem FJ(w:aS)(e:aX)(s:ByteArray):Bl w (Lib.bytesWorld w e s):=
 ⟨rfl,rfl,rfl,by rw[Lib.bytesWorld_size];omega,λi d=>Lib.bytesWorld_at_old w e s i d⟩
theorem YH(B:Nat)(s:ByteArray)(w:aS)(Z:Boxed w B 9 (aB s)):
  aCm prog 309 #[qP B 0] (λ(x:List UInt8)vs _=>vs=#[aH (GH x)]/\x.length=64) (nP s.size s.data.toList) (λ_ k=>k=B) (λk=>k=B) w:=by
 intro lp J W ag aL hJ hY ae;refine callsIn_of_wp func309 rfl trivial ?_ rfl;simp only[ntmps309,pN,Nat.reduceAdd,Nat.reduceSub];have ac:Boxed W B 9 (aB s):=(ag.block _ Z.lt).trans Z;have HY:=eC hY;have HJ:=eC hJ;clear hY hJ;gi_wp2_with fail;gi_loopw [] (λwr=>∃(R:List (List UInt8))(t:ByteArray)(n:Nat),t.size<=n/\Boxed wr B 9 (aB t)/\Hid (nP s.size s.data.toList=R++nP n t.data.toList/\J R (λk=>k=B) wr)) (λwr=>YD B wr)
 case atStart=>exact⟨[],s,s.size,eX _,ac,eC ⟨rfl,ae⟩⟩
 case round=>
  obtain⟨R,t,n,hn,N,M⟩:=hrel;have aj:=nX t;by_cases hlt:64<=t.size
  .have au:(64:Int)<=(t.size:Int):=zO;obtain⟨x1,x2⟩:=aDg t hlt;have x3:=aDk t hlt;have u:=TW (n:=n) (l:=t.data.toList) zO zO;have hc:=N.cell;obtain⟨c,hcv⟩:∃c,(convert 9 173 (aB (t.extract 0 64))).run prog wr=.ok (aA (some (wr,0)) 64 c) (Lib.bytesWorld wr 5 (t.extract 0 64)):=by have:=Lib.run_convert_string_bytes (P:=prog) wr 9 173 5 (t.extract 0 64) underlying9 underlying173 underlying5;rw[x2]at this;exact⟨_,this⟩
   obtain⟨S,X⟩:=eR (Lib.bytesWorld wr 5 (t.extract 0 64));have f:Bl wr S:=by rw[<-X];exact FJ _ _ _
   rw[X]at hcv;have am:=eC (show S.rangeAt wr 0 ((t.data.toList.take 64).map nJ)from λj v D=>by
    rw[<-X,kQ]
    have ar:=(gX.1 D).1
    rw[rN,jR]at ar
    rw[Lib.bytesWorld_cell _ _ _ _ (by rw[x2];omega),x1]
    rw[oY]at D
    rw[vT]
    cases hq:(t.data.toList.take 64)[j]?with
    |none=>rw[hq]at D;simp at D
    |some q=>rw[hq]at D;simp at D;rw[<-D];rfl);have ax:∀U,(Instr.arrayAt 407 (aA (some (wr,0)) 64 c)).run prog U=.ok (qP wr 0) U:=λU=>run_arrayAt U 407 _ 64 _ 64 c underlying407 (eX _);have aq:=HY R (t.data.toList.take 64) #[aH (GH (t.data.toList.take 64))] (λk=>k=B) S (HJ.below M.out.2 f) (λ_ h=>h) ⟨rfl,by rw[jR];omega⟩ (by rw[M.out.1,u];exact⟨nP (n-1) (t.data.toList.drop 64),zS⟩);obtain⟨fn,a1,av,aw,hy,hR⟩:=aq;have ah:Boxed S B 9 (aB t):=(f.block _ N.lt).trans N;have y:=eC ah;have al:=eC N;have O:=eC (bG M.out.1 u);have HL:=eC (show((t.data.toList.take 64).map nJ).length=64 by rw[rN,jR];omega);have ab:=eC x3;clear aj X x1 x2 x3 ag Z ac ae M u ah f;generalize ap:t.data.toList.take 64=C at*;change Hid _ at ap;unfold GH at hy;gi_wp2_with(refine uC rfl _ _ rfl wr 0 rfl (C.map nJ) _ am underlying407 rfl (by rw[HL];kernel_rfl) ?_);refine hR.mono ?_;rintro e W3⟨rfl,af,ai⟩;have Y:Boxed W3 B 9 (aB t):=(ai.own B rfl y.lt).trans y;have ay:=Y.cell;have az:=Y.frozen;have ao:=eC af;have ak:=eC Y;clear hc N ai af Y hR hy hcv;gi_wp2;have aa:=ak.set (aB (t.extract 64 t.size));have a0:(t.extract 64 t.size).size=t.size-64:=by rw[nX,ab,sB,<-nX]
   go_roundw
   case rel=>exact⟨R++[C],t.extract 64 t.size,n-1,zO,aa,eC ⟨by rw[O.1,O.2,ab];simp,HJ _ _ _ _ _ ao ((eZ.refl _ W3).set (.inl (.inl rfl)) _) (λ_ h=>.inl h)⟩⟩
   case measure=>rw[NX aa,NX al];omega
  .have O:=eC M.out;have hc:=N.cell;have au:¬(64:Int)<=(t.size:Int):=zO;have HE:=eC (PF (n:=n) (l:=t.data.toList) zO);clear M aj;gi_wp2;go_end0;exact⟨⟨_,rfl⟩,by rw[O.1,HE,EL];exact O.2⟩
end
section
attribute [local go_sem] Oper.semAt_some
theorem VT(s:ByteArray)(w:aS):qK 270 #[aB s] w λe w'=>e=aO (aD (bC 309) #[] #[qP w 0])/\w'=w.alloc (aK #[aB s] 9):=by go_enter func270,ntmps270;go_wp2;go_ret;exact⟨rfl,rfl⟩
theorem B9{c B:Array aT}{N:List Oper}(U:o.guard=none)(D:aX)(x v:Operand)(M:o.op=.store D x v)
  (f:J.eval x=qP w 0)(Z:J.eval v=aH B)(W:(P.info? D).map (·.size)=some B.size)(Y:c.size=B.size)(O:B.all (·.oneCell')=true)
  (h:wpListIn F m P ops Q N (J.put o.dst aY) (w.alloc (aK B D))):wpListIn F m P ops Q (o::N) J (w.alloc (aK c D)):=by
 refine wpListIn_plain U λj R=>?_;unfold Oper.wpIn;refine⟨?_,?_⟩
 .simp[Oper.about,M]
 .rw[Oper.semAt_plain F _ _ (by rw[M];intro c S;cases S)];have X:=run_storeAt_new (P:=P) w D c B W Y O;simp only[execOp,M,f,Z,Sem.run_bind,X,Result.andThen_ok];exact R _ _ h
theorem aBq{t:aX}{M:Nat->Prop}(r s u x y A B C e f g i j k m n:Int)(h:qB W b (fR [r,s,u,x,y,A,B,C]) t)(q:eZ M U W)(d:M b):
  qB (qS (qS (qS (qS (qS (qS (qS (qS W (b,0) (aC aQ e)) (b,1) (aC aQ f)) (b,2) (aC aQ g)) (b,3) (aC aQ i)) (b,4) (aC aQ j)) (b,5) (aC aQ k)) (b,6) (aC aQ m)) (b,7) (aC aQ n)) b (fR [e,f,g,i,j,k,m,n]) t/\eZ M U (qS (qS (qS (qS (qS (qS (qS (qS W (b,0) (aC aQ e)) (b,1) (aC aQ f)) (b,2) (aC aQ g)) (b,3) (aC aQ i)) (b,4) (aC aQ j)) (b,5) (aC aQ k)) (b,6) (aC aQ m)) (b,7) (aC aQ n)):=
 ⟨gJ (gJ (gJ (gJ (gJ (gJ (gJ (gJ h 0 e) 1 f) 2 g) 3 i) 4 j) 5 k) 6 m) 7 n,(((((((q.set (.inl d) _).set (.inl d) _).set (.inl d) _).set (.inl d) _).set (.inl d) _).set (.inl d) _).set (.inl d) _).set (.inl d) _⟩
def yS(x:List UInt8):List Int:=x.map λb=>(b.toNat:Int)
theorem aFj(x:List UInt8):GH x=zJ (yS x):=by unfold GH zJ yS;rw[List.map_map];rfl
def vN(l:List (List UInt8)):List Int:=l.foldl (λh x=>o9 h (yS x)) F2
theorem D2(s b:List Int):(o9 s b).length=s.length:=by unfold o9;exact wN _ _ _
theorem QI(l:List (List UInt8))(x:List UInt8):vN (l++[x])=o9 (vN l) (yS x):=by unfold vN;rw[List.foldl_append];rfl
theorem JY:∀(l:List (List UInt8))(h:List Int),h.length=8->(l.foldl (λh x=>o9 h (yS x)) h).length=8
 |[],h,e=>e
 |x::l,h,e=>JY l _ (by rw[D2];exact e)
theorem yM(l:List (List UInt8)):(vN l).length=8:=JY l _ rfl
def aDW(s:ByteArray):ByteArray:=s++eH (G5 s.size)
def aB2(s:ByteArray):ByteArray:=eH (WK (vN (nP (aDW s).size (aDW s).data.toList)))
theorem aDQ(s:ByteArray)(w:aS)(hs:s.size<=10000000):qK 213 #[aB s] w (Rt (aB (aB2 s)) w):=by
 have CS:=eC (aB5 w);have ay:¬9223372036854775807<s.size+(eH (G5 s.size)).size:=by
  have h1:(eH (G5 s.size)).size=(G5 s.size).length:=by rw[nX];rfl
  rw[h1,aDE];unfold BI;omega
 obtain⟨T,hT⟩:=eR (s++eH (G5 s.size));have a2:=eC (show aDW s=T from hT);have CP:=eC (λU=>aHg s.size U zO);refine(hH (n:=2)).1 ?_;refine xI func213 rfl trivial ?_ rfl;simp only[ntmps213,pN,Nat.reduceAdd,Nat.reduceSub];unfold fR F2 at CS;simp only[List.map_cons,List.map_nil]at CS;gi_wp2_with(first|(refine⟨trivial,?_⟩;gi_at_call 269;refine(hH.2 CS).mono ?_;rintro e B⟨rfl,al⟩;change Hid _ at al)|(refine⟨trivial,?_⟩;gi_at_call 271;refine(hH.2 (CP _)).mono ?_;rintro e y⟨rfl,am⟩;change Hid _ at am)|(refine⟨trivial,?_⟩;gi_at_call 270;refine(hH.2 (VT _ _)).mono ?_;rintro e w3⟨rfl,ab⟩));subst ab;clear ay;have av:=eC (fG B (aK (fR F2) 402));obtain⟨w0,ar,a4,-,be⟩:=lB B (aK (fR F2) 402);have ah:=eC (show Bl w0 y by rw[<-ar];exact am);rw[ar]at av;clear am ar hT;obtain⟨w3,ab⟩:=eR (y.alloc (aK #[T] 9));have au:Boxed w3 y 9 (aB T):=by rw[<-ab];exact oI y _ _
 have af:=DX ab;have ba:=PC ab;have bf:=ah.size;have a8:=al.size;have ao:Bl w w3:=al.trans ((a4.trans ((ah.mono zO).trans (af.mono zO))).mono a8);have aq:qB w3 B (fR (vN [])) 402:=(af.block _ zO).trans ((ah.block _ zO).trans av);rw[ab];have ai:AY (λ_ k=>k=(y:Nat)) w3 (λ(ag:List (List UInt8))M U=>Bl w U/\U.heap[(B:Nat)]?=some (aK (fR (vN ag)) 402 (0,0))/\¬M B):=by
  rintro ag M M' U U'⟨h1,h2,h3⟩hc hm;have a6:=(fB.1 h2).1;refine⟨⟨hc.os.trans h1.os,hc.tape.trans h1.tape,hc.output.trans h1.output,fA h1.size hc.size,λq hq=>(hc.block q (by have:=h1.size;omega) (λap=>?_)).trans (h1.block q hq)⟩,(hc.block _ a6 (λap=>?_)).trans h2,λh=>?_⟩
  .obtain h|⟨h,_⟩:=ap
   .omega
   .omega
  .obtain h|⟨h,_⟩:=ap
   .omega
   .omega
  .obtain h|h:=hm _ h
   .exact h3 h
   .omega
 refine PU (n:=0) (gf:=309) (lb:=#[qP y 0]) (A:=λ_ k=>k=(y:Nat)) (M0:=λk=>k=(y:Nat)) (Enc:=λ(x:List UInt8)vs _=>vs=#[aH (GH x)]/\x.length=64) rfl (l8 func309 zK rfl)
  (YH y T w3 au) (λk hk=>zO) (λ_ k h=>.inl zO) (λx vs U h=>by rw[h.1];rfl) (λx vs U U' h gg=>h)
  _ ai ⟨ao,aq,λh=>zO⟩
  (λU x vs=>{tmps:=#[s,aY,aB ⟨#[]⟩,qP B 0,qP U 0,aY,aH (fR F2),s,s,qI s.size,aB (eH (G5 s.size)),T,aD (bC 309) #[] #[qP y 0],aH (GH x),aY,aY,aY,aY,aY,aY,aY],defers:=[]})
  (λU x _=>U.alloc (aK (GH x) 407)) (λU _ _=>fL U _) ?_ ?_ ?_
 .rintro lq x vs U K⟨rfl,hx⟩hK;have az:(GH x).size=64:=by simp[GH,hx]
  gi_wp2_with(refine B9 rfl _ _ _ rfl rfl rfl (by rw[az];kernel_rfl) (by rw[az];rfl) (by simp only[GH,List.all_toArray,IR];exact aCk x) ?_);exact hK
 .rintro lq ag x vs M U0 U⟨ac,J,aj⟩bc bb⟨rfl,hx⟩a7 ay ax bg;obtain⟨R,S,W,X,Y,Z,f,u,hq⟩:=wH (yM ag);rw[hq]at J;have ak:=eC J;have d0:qC U B 0 (aC aQ R):=eJ J rfl;have d1:qC U B 1 (aC aQ S):=eJ J rfl;have d2:qC U B 2 (aC aQ W):=eJ J rfl;have d3:qC U B 3 (aC aQ X):=eJ J rfl;have d4:qC U B 4 (aC aQ Y):=eJ J rfl;have d5:qC U B 5 (aC aQ Z):=eJ J rfl;have d6:qC U B 6 (aC aQ f):=eJ J rfl;have d7:qC U B 7 (aC aQ u):=eJ J rfl;have HX:=eC (show U.rangeAt U0 0 (x.map nJ)from λj v hj=>by
   rw[kQ]
   unfold bH
   rw[(ax _ (eX _)).trans (fG U0 _)]
   simp only[GH,List.getElem?_toArray,hj]
   rfl);have a3:=eC (show(x.map nJ).length=64 by rw[rN];exact hx);have CB:=eC (aAB R S W X Y Z f u (yS x) U (by unfold yS;rw[rN];exact hx));rw[<-aFj]at CB;obtain⟨r0,r1,r2,r3,r4,r5,r6,r7,hr⟩:=wH (show(o9 [R,S,W,X,Y,Z,f,u] (yS x)).length=8 by rw[D2];rfl);rw[hr]at CB;have aL:Hid (qK 272 #[aH #[aC aQ R,aC aQ S,aC aQ W,aC aQ X,aC aQ Y,aC aQ Z,aC aQ f,aC aQ u],aH (GH x)] U (Rt (aH #[aC aQ r0,aC aQ r1,aC aQ r2,aC aQ r3,aC aQ r4,aC aQ r5,aC aQ r6,aC aQ r7]) U)):=CB;change Hid _ at hr;clear CB;have HQ:=eC hq;have ae:=eC ac;clear J ac a7 ax hq ai aq au af ba ao
  try dsimp only
  gi_wp2_with(first|(refine⟨trivial,rfl,?_⟩;refine(lP aL).mono ?_;rintro e N⟨rfl,aa⟩;have O:qB N B (fR [R,S,W,X,Y,Z,f,u]) 402:=(aa.block _ (fB.1 ak).1).trans ak;have y0:qC N B 0 (aC aQ R):=eJ O rfl;have y1:qC N B 1 (aC aQ S):=eJ O rfl;have y2:qC N B 2 (aC aQ W):=eJ O rfl;have y3:qC N B 3 (aC aQ X):=eJ O rfl;have y4:qC N B 4 (aC aQ Y):=eJ O rfl;have y5:qC N B 5 (aC aQ Z):=eJ O rfl;have y6:qC N B 6 (aC aQ f):=eJ O rfl;have y7:qC N B 7 (aC aQ u):=eJ O rfl;have x0:=tK O;change Hid _ at O aa)|(refine uC rfl _ _ rfl U0 0 rfl (x.map nJ) _ HX underlying407 rfl (by rw[a3];kernel_rfl) ?_));obtain⟨z1,z2⟩:=aBq R S W X Y Z f u r0 r1 r2 r3 r4 r5 r6 r7 O (eZ.of (M:=λq=>q=(B:Nat)) aa) rfl;refine⟨tD.chg z2 (λk hk hm=>aj (by rw[<-hk];exact hm)) (λk hk _=>by subst hk;exact⟨_,ak,rfl⟩),ae.trans (z2.below ae.size (λk hk=>zO)),?_,aj⟩;rw[z1,QI,HQ,hr]
 .rintro D U hD⟨ac,J,aj⟩hK;obtain⟨R,S,W,X,Y,Z,f,u,hq⟩:=wH (yM (nP T.size T.data.toList));rw[hq]at J;have d0:qC U B 0 (aC aQ R):=eJ J rfl;have d1:qC U B 1 (aC aQ S):=eJ J rfl;have d2:qC U B 2 (aC aQ W):=eJ J rfl;have d3:qC U B 3 (aC aQ X):=eJ J rfl;have d4:qC U B 4 (aC aQ Y):=eJ J rfl;have d5:qC U B 5 (aC aQ Z):=eJ J rfl;have d6:qC U B 6 (aC aQ f):=eJ J rfl;have d7:qC U B 7 (aC aQ u):=eJ J rfl;have CB:=eC (UP R S W X Y Z f u U);have bd:=IZ;have a1:=eC (show aB2 s=eH (WK [R,S,W,X,Y,Z,f,u])by unfold aB2;rw[a2,hq]);have a0:=eC (fB.1 hK).1;have ae:=eC ac;have HK:=eC hK;clear J hq ac ai aq au af ao
  try dsimp only
  gi_wp2_with(refine⟨trivial,?_⟩;refine(hH.2 CB).mono ?_;rintro e N⟨rfl,aa⟩;change Hid _ at aa);have aw:=(aa.block D a0).trans HK;refine⟨zS,.inl ⟨_,_,rfl,E6 aw,?_⟩⟩;refine⟨_,results_tmp rfl _ _ _,by rw[a1];rfl,?_⟩;have a5:=fC ae aa;exact a5.trans (belowK_b (w:=w) (eX _) N D _ _ zO aw rfl rfl)
end
section
attribute [local go_sem] Oper.semAt_some
def QV(x:Int×Int×Int):List Int:=[x.1,x.2.1,x.2.2]
def rY(r:Rn):List Int:=r.ev.flatMap QV++[r.out.1,r.out.2]
def FB(r:Rn)(d:Option Addr)(e:Nat):Array aT:=#[aC aP r.out.1,aC aP r.out.2,aC aP r.st,aA d r.ev.length e]
theorem Q8(v:Array aT)(w:aS)(k s n:Int)(B:Option Addr)(J D:Nat)(M:v=#[qI k,qI s,qI n,aA B J D]):qK 274 #[aH v] w λe w'=>e=aO (aD (bC 313) #[] #[qP w 0])/\w'=w.alloc (aK v 243):=by subst M;go_enter func274,ntmps274;go_wp2;go_ret;exact⟨rfl,rfl⟩
theorem SV(D:Nat)(r:Rn)(R:Option Addr)(ec:Nat)(w:aS)(hB:qB w D (FB r R ec) 243)(hE:eS kT w R r.ev)(br:r.ev.length<=100000):
  aCm prog 313 #[qP D 0] (λ(x:Int)vs _=>vs=#[qI x]) (rY r) (λ_ _=>False) (λk=>k=D\/∃ad,R=some ad/\r.ev≠[]/\k=ad.block) w:=by
 intro lp J W aj bs hJ f aq;refine callsIn_of_wp func313 rfl trivial ?_ rfl;simp only[ntmps313,pN,Nat.reduceAdd,Nat.reduceSub];have bb:=(fB.1 hB).1;have ap:qB W D (FB r R ec) 243:=(aj.block _ bb).trans hB;have a6:=hE.later aj;obtain⟨B,af⟩:∃B:Nat->Prop,(λk=>k=D\/∃ad,R=some ad/\r.ev≠[]/\k=ad.block)=B:=⟨_,rfl⟩;rw[af]at f aq|-;have m1:B D:=by rw[<-af];exact .inl rfl
 have m2:∀ad,R=some ad->r.ev≠[]->B ad.block:=λad h bi=>by rw[<-af];exact .inr ⟨ad,h,bi,rfl⟩
 have c3:=uG ap;gi_wp2;gi_loopw [8] (λi wr=>∃k:Nat,k<=r.ev.length/\i=qI k/\Hid (J ((r.ev.take k).flatMap QV) B wr/\(W:Nat)<=wr/\∀q,B q->q<(W:Nat)->wr.heap[q]?=W.heap[q]?)) (λi _=>r.ev.length-(aW i).toNat)
 case atStart=>exact⟨0,zO,rfl,eC ⟨aq,eX _,λ_ _ _=>rfl⟩⟩
 case round=>
  obtain⟨k,hk,rfl,M⟩:=hrel;by_cases hlt:k<r.ev.length
  .have bh:(k:Int)<(r.ev.length:Int):=zO;obtain⟨x,hx⟩:∃x,r.ev[k]?=some x:=⟨_,lJ hlt⟩;obtain⟨b,X,vs,be,ba,bj,ak⟩:=a6.at hx;subst be;obtain⟨x0,x1,x2⟩:=x;obtain rfl:vs=[qI x0,qI x1,qI x2]:=bj;have al:wr.heap[b]?=W.heap[b]?:=M.out.2.2 b (m2 _ rfl (λh=>by rw[h]at hlt;simp at hlt)) ba;have d0:qC wr b (X+k*3) (qI x0):=(lA (w:=W) (a:=(b,X+k*3)) al).trans (by have:=ak 0 _ rfl;exact this);have d1:qC wr b (X+k*3+1) (qI x1):=(lA (w:=W) (a:=(b,X+k*3+1)) al).trans (ak 1 _ rfl);have d2:qC wr b (X+k*3+2) (qI x2):=(lA (w:=W) (a:=(b,X+k*3+2)) al).trans (ak 2 _ rfl);have wk:aP.wrap ((k:Int)+1)=(k:Int)+1:=by rw[iA];omega
   obtain⟨O,bq,ar,U,bu⟩:=lB wr (aK #[qI x0,qI x1,qI x2] 434);have e0:=nS U;obtain⟨M1,ag⟩:∃M1:Nat->Prop,(λq=>B q\/((wr:Nat)<=q/\q<(O:Nat)))=M1:=⟨_,rfl⟩;have Z:J ((r.ev.take k).flatMap QV) M1 O:=by rw[<-ag];exact hJ.grow M.out.1 ar
   have av:∀q,B q->M1 q:=λq h=>by rw[<-ag];exact .inl h
   have hmx:M1 (wr:Nat):=by rw[<-ag];exact .inr ⟨eX _,zO⟩
   have aa:(r.ev.take k).flatMap QV++[x0,x1,x2]++((r.ev.drop (k+1)).flatMap QV++[r.out.1,r.out.2])=rY r:=by
    unfold rY;conv=>rhs;rw[<-xH k r.ev,tL hlt]
    rw[List.flatMap_append,List.flatMap_cons];have:r.ev[k]=(x0,x1,x2):=by have:=lJ hlt;rw[hx]at this;exact(Option.some.inj this).symm
    rw[this];simp[QV]
   have hn:(r.ev.take (k+1)).flatMap QV=(r.ev.take k).flatMap QV++[x0]++[x1]++[x2]:=by rw[F4,hx];simp[QV]
   obtain⟨P,hP⟩:=eR ((r.ev.take k).flatMap QV);rw[hP]at Z aa hn;have p0:P++[x0]<+:rY r:=by rw[<-aa];exact⟨[x1,x2]++((r.ev.drop (k+1)).flatMap QV++[r.out.1,r.out.2]),zS⟩
   have p1:P++[x0]++[x1]<+:rY r:=by rw[<-aa];exact⟨[x2]++((r.ev.drop (k+1)).flatMap QV++[r.out.1,r.out.2]),zS⟩
   have p2:P++[x0]++[x1]++[x2]<+:rY r:=by rw[<-aa];exact⟨(r.ev.drop (k+1)).flatMap QV++[r.out.1,r.out.2],zS⟩
   obtain⟨fn,bl,a1,a3,hy,ah⟩:=f P x0 #[qI x0] M1 O Z av rfl p0;have HR:=eC M.out;have ab:=eC U;have ao:=eC (show wr<(O:Nat)from zO);have u:=eC f;have HJ:=eC hJ;have N:=eC av;have am:=eC hmx;have HP:=eC (bG p1 (bG p2 hn));have aL:=eC (λq(h:B q)(hl:q<W)=>show O.heap[q]?=W.heap[q]?from(ar.block q (by have:=M.out.2.1;omega)).trans (M.out.2.2 q h hl));have y:=eC (show W<=(O:Nat)by have:=M.out.2.1;omega);gi_wp2;refine ah.mono ?_;rintro e W3⟨rfl,ac,S⟩;have Y:=(S.own _ am ao).trans ab;have z3:=S.size;have e1:=rI Y;obtain⟨a5,bm,a2,a4,bk,ai⟩:=u (P++[x0]) x1 #[qI x1] M1 W3 ac N rfl HP.1;change Hid _ at S Y;gi_wp2;refine ai.mono ?_;rintro e W4⟨rfl,ae,j⟩;have h4:=(j.own _ am (gV ao z3)).trans Y;have z4:=j.size;have e2:=uI h4;obtain⟨bp,bv,bn,bo,bt,a8⟩:=u (P++[x0]++[x1]) x2 #[qI x2] M1 W4 ae N rfl HP.2.1;change Hid _ at j;gi_wp2;refine a8.mono ?_;rintro e W5⟨rfl,a7,au⟩;have z5:=au.size;have ay:=eC a7;have az:=eC (λq(h:B q)(hl:q<W)=>show W5.heap[q]?=W.heap[q]?from(au.own q (N q h) (by have:=y.out;omega)).trans ((j.own q (N q h) (by have:=y.out;omega)).trans ((S.own q (N q h) (by have:=y.out;omega)).trans (aL q h hl))));gi_wp2;go_roundw
   case rel=>exact⟨k+1,zO,by go_num,eC ⟨by rw[HP.2.2];exact HJ.less ay N,by have:=y.out;omega,az⟩⟩
   case measure=>simp[aW];omega
  .have bf:k=r.ev.length:=zO;subst bf;have bh:¬(r.ev.length:Int)<(r.ev.length:Int):=zO;obtain⟨Z,hz,bg⟩:=M.out;rw[nH (eX _)]at Z;have bd:=bg D m1 (by have:=aj.size;omega);have U:=bd.trans ap;have c0:=nS U;have bc:=(fB.1 U).1;obtain⟨fn,bl,a1,a3,hy,ah⟩:=f (r.ev.flatMap QV) r.out.1 #[r.out.1] B wr Z (λ_ h=>h) rfl ⟨[r.out.2],by simp[rY]⟩;have u:=eC f;have ab:=eC U;have a0:=eC m1;have aw:=eC bc;gi_wp2;refine ah.mono ?_;rintro e W3⟨rfl,ac,S⟩;have Y:=(S.own D a0 aw).trans ab;have e1:=rI Y;obtain⟨a5,bm,a2,a4,bk,ai⟩:=u (r.ev.flatMap QV++[r.out.1]) r.out.2 #[r.out.2] B W3 ac (λ_ h=>h) rfl ⟨[],by simp[rY]⟩;gi_wp2;refine ai.mono ?_;rintro e W4⟨rfl,ae,j⟩;have ax:=eC ae;gi_wp2;go_end0;refine⟨⟨_,rfl⟩,?_⟩;have:=ax.out;rw[jH]at this;exact this
end
section
attribute [local go_sem] Oper.semAt_some
def FD(l:List Int):List UInt8:=l.flatMap λn=>eK (iT n)
def PB(r:Rn):List UInt8:=eK r.ev.length++FD (rY r)
def iC(r:Rn):ByteArray:=aB2 (eH (PB r))
theorem aBF(l:List Int)(n:Int):FD (l++[n])=FD l++eK (iT n):=by simp[FD]
theorem IT:∀(l:List Int),(∀n∈l,rH n)->(FD l).length<=10*l.length
 |[],_=>Nat.le_refl _
 |n::l,h=>by
  have f:=eU (lW (h n zS))
  have g:=IT l (λx d=>h x (by simp[d]))
  have e:FD (n::l)=eK (iT n)++FD l:=by simp[FD]
  rw[e,iR,iW]
  omega
def aAh(r:Rn):Prop:=(∀n∈rY r,rH n)/\r.ev.length<=10000
theorem N4(r:Rn):(rY r).length=3*r.ev.length+2:=by
 unfold rY;rw[iR];have:∀l:List (Int×Int×Int),(l.flatMap QV).length=3*l.length:=λl=>by
  induction l with
  |nil=>rfl
  |cons a r ih=>simp[QV]at ih|-;omega
 rw[this];rfl
theorem YI(r:Rn)(N:Option Addr)(W:Nat)(w:aS)(hE:eS kT w N r.ev)(u:aAh r):qK 214 #[aH (FB r N W)] w (Rt (aB (eH (PB r))) w):=by
 obtain⟨V,hV,a6,ay,y⟩:=lB w (aK (FB r N W) 243);have br:bK.wrap (r.ev.length:Int)=(r.ev.length:Int):=by have:=u.2;rw[sU];omega
 have s3:=rU (uG ay);have bi:=jX V;have aq:=eC y;have a3:=eC (show jG r.ev.length by have:=u.2;unfold jG;omega);change Hid _ at a6 ay;clear y;unfold FB at hV|-;refine(hH (n:=2)).1 ?_;refine xI func214 rfl trivial ?_ rfl;simp only[ntmps214,pN,Nat.reduceAdd,Nat.reduceSub];gi_wp2;refine Code.wpIn_mono (Q:=Exit.then _ (λ_ _ _=>False)) (λe a w h=>by cases e<;>first|exact h|exact h.elim) ?_;refine wpIn_wide.2 ?_;go_region_held3(λU=>Bl V U) (first|(with_reducible assumption)|go_grown) (first
  |(go_at_call 44;refine(lS _ _ _ _ _ _ a4 a3 zS).mono ?_;rintro e B⟨rfl,v2,ao,bj,bo⟩;have ah:Bl V B:=bh.trans (bj.below a4);change Hid _ at ao)
  |(go_at_call 39;refine(pJ _).mono ?_;rintro e w1⟨rfl,ba⟩;have bh:Bl V w1:=(by rw[<-ba];exact bi.alloc (eX _) _);have a4:=eC (show fY w1 V V qN []by rw[<-ba];exact fY.new V.drew _ (eX _))));have a1:=ah.size;have e2:=(ah.block w (by have:=aq.out;omega)).trans ay;obtain⟨c0,c1,c2,c3⟩:=pQ4 e2;have a8:w<(B:Nat):=by have:=aq.out;omega
 have bq:=IZ;change Hid _ at ah e2;gi_wp2_with(refine⟨trivial,?_⟩;gi_at_call 274;refine(hH.2 (Q8 _ _ _ _ _ _ _ _ rfl)).mono ?_;rintro e R⟨rfl,X⟩);subst X;obtain⟨w3,f⟩:=eR (B.alloc (aK #[aD (bC 45) #[qP V 0] #[]] 91));have aL:Boxed w3 B 91 (aD (bC 45) #[qP V 0] #[]):=by rw[<-f];exact oI B _ _
 have au:=DX f;have af:=PC f;rw[f];obtain⟨R,X⟩:=eR (w3.alloc (aK (FB r N W) 243));have a0:R.heap[(B:Nat)+1]?=some (aK (FB r N W) 243 (0,0)):=by rw[<-X,<-af];exact fG w3 _
 have aj:=DX X;have a2:R=(B:Nat)+2:=by rw[<-X,fO,af]
 have ap:w3.alloc (aK #[r.out.1,r.out.2,qI r.st,aA N r.ev.length W] 243)=R:=X;rw[ap];have ai:Bl B R:=au.trans (aj.mono zO);have y:=aq.out;have ak:Bl w R:=a6.trans ((ah.trans (ai.mono a1)).mono zO);have az:fY R V V v2 (eK r.ev.length):=by have:=ao.later ai;simpa using this
 have av:∀ad,N=some ad->r.ev≠[]->ad.block<w:=λad e aw=>by
  obtain h|⟨b,off,rfl,hlt',_⟩:=hE
  .exact absurd h aw
  .cases e;exact hlt'
 have bb:=ao.box.lt;have ax:∀q,v2.ownBlock=some q->(V:Nat)<=q/\q<(B:Nat):=λq e=>ao.row.lt q e;obtain⟨M0,ag⟩:∃M0:Nat->Prop,(λk=>k=(B:Nat)+1\/∃ad,N=some ad/\r.ev≠[]/\k=ad.block)=M0:=⟨_,rfl⟩;have ab:∀k,M0 k->k=(B:Nat)+1\/k<(w:Nat):=λk h=>by
  rw[<-ag]at h;obtain h|⟨ad,e,aw,rfl⟩:=h
  .exact .inl h
  .exact .inr (av ad e aw)
 have am:=SV ((B:Nat)+1) r N W R a0 (hE.later ak) (by have:=u.2;omega);rw[ag]at am;have ar:AY (λ_ _=>False) R (λ(j:List Int)M U=>Bl w U/\Boxed U B 91 (aD (bC 45) #[qP V 0] #[])/\∃v,fY U V V v (eK r.ev.length++FD j)/\¬M (V:Nat)/\∀q,v.ownBlock=some q->¬M q):=by
  rintro j M M' U U'⟨h1,h2,v,h3,h4,h5⟩hc hm;have g:=sJ hc;have bp:=h3.box.lt;refine⟨g.below h1 zO h1.size,g.boxed h2,v,h3.on (λk o J ho=>g.same k o J (.inr ho)),λh=>?_,λq hq h=>?_⟩
  .obtain h|h:=hm _ h
   .exact h4 h
   .omega
  .obtain h|h:=hm _ h
   .exact h5 q hq h
   .have:=(h3.row.lt q hq).2;omega
 refine PU (n:=0) (gf:=313) (lb:=#[qP ((B:Nat)+1) 0]) (A:=λ_ _=>False) (M0:=M0) (Enc:=λ(x:Int)vs _=>vs=#[qI x]) rfl (l8 func313 zK rfl)
  am (λk J=>by obtain h|h:=ab k J<;>omega) (λ_ _ h=>h.elim) (λx vs U h=>by rw[h];rfl) (λx vs U U' h gg=>h)
  _ ar ⟨ak,(aj.block _ zO).trans aL,v2,by simpa[FD]using az,λh=>by obtain h|h:=ab _ h<;>omega,λq hq h=>by have:=ax q hq;obtain h|h:=ab _ h<;>omega⟩
  (λU x vs=>{tmps:=#[aH (FB r N W),qP w 0,aB ⟨#[]⟩,qP V 0,qP B 0,qI x,qP V 0,qP w 3,aA N r.ev.length W,qI r.ev.length,aC .u64 r.ev.length,qP V 0,qP V 0,aD (bC 45) #[qP V 0] #[],aH (FB r N W),aD (bC 313) #[] #[qP ((B:Nat)+1) 0],qI x,aY,aY,aY,aY,aY],defers:=[]})
  (λU _ _=>U) (λU _ _=>iL _ _) ?_ ?_ ?_
 .rintro lq x vs U K rfl hK;clear y af a2 f X ap;gi_wp2;exact hK
 .rintro lq j x vs M U0 U⟨aa,Z,v,Y,ae,ac⟩a5 bg rfl al bl bk bd;have bc:rH x:=u.1 x (al.subset (wM.2 (.inr (rD.2 rfl))));have a7:(eK r.ev.length++FD j).length<=10000000:=by have h1:=eU a3;have h2:=IT j (λn hn=>u.1 n (al.subset (wM.2 (.inl hn))));have h3:=al.length_le;rw[iR,N4]at h3;have:=u.2;rw[iR];omega
  have CI:=eC (yP V V v _ x U Y bc a7);have bn:=Z.cell;have bm:U=(U0:Nat):=bd;have be:=eC (λS v5(k1:fY S V V v5 (eK r.ev.length++FD j++eK (iT x)))(O:Ow V v U S)(k3:nF U v v5)=>show tD M R U S/\Bl w S/\Boxed S B 91 (aD (bC 45) #[qP V 0] #[])/\∃v,fY S V V v (eK r.ev.length++FD (j++[x]))/\¬M (V:Nat)/\∀q,v.ownBlock=some q->¬M q by
   refine⟨⟨O.os,O.tape,O.output,O.size,λk J hl=>O.block k hl (λe=>ae (e▸J)) (λe=>ac k e.symm J),λk o hB J ho=>(O.block k (fB.1 J).1 (λe=>?_) (λe=>?_)).trans J⟩,aa.trans ((O.below Y).mono zO),(O.block _ Z.lt zO (Z.not_row zD Y.row)).trans Z,v5,by rw[aBF,<-jH];exact k1,ae,λq hq hm=>?_⟩
   .have:=Y.box;rw[e]at J;rw[this]at J;cases J;cases ho
   .obtain⟨o',h1,h2⟩:=E7 Y.row e.symm;rw[h1]at J;cases J;rw[h2]at ho;cases ho
   .obtain e|⟨b,e,hb⟩:=k3
    .exact ac q (e▸hq) hm
    .rw[e]at hq;cases hq;have:=a5 _ hm;omega);clear aa Z Y ae ac a5 bg al bl bk bd bm bc a7 ar am aL au a0 aj ak az av ax y af a2 f X ap ai ab ag a1 a8 bb
  try dsimp only
  gi_wp2_with(refine⟨trivial,rfl,?_⟩;refine(lP CI).mono ?_;rintro e S⟨rfl,v5,k1,O,k3⟩);exact be S v5 k1 O k3
 .rintro D U hD⟨aa,Z,v,Y,ae,ac⟩hK;have CB:=eC (mE _ _ _ _ _ Y);have HK:=eC hK;have bf:=eC (show w<=D from zO);change Hid _ at aa;clear Z Y ae ac ar am aL au a0 aj ak az av ax y af a2 f X ap ai ab ag a1 a8 bb hD
  try dsimp only
  gi_wp2_with(refine⟨trivial,?_⟩;gi_at_call 42;refine(hH.2 CB).mono ?_;rintro e S⟨rfl,rfl⟩);refine⟨zS,.inl ⟨_,_,rfl,E6 HK,?_⟩⟩;refine⟨_,results_tmp rfl _ _ _,rfl,?_⟩;exact aa.trans (belowK_b (w:=w) (eX _) U D _ _ bf HK rfl rfl)
theorem ZM:∀l:List Int,(WK l).length=4*l.length
 |[]=>rfl
 |a::r=>by
  have:=ZM r
  simp[WK,RD]at this|-
  omega
theorem FC(r:Rn):(iC r).size=32:=by unfold iC aB2;rw[nX];show(WK _).length=32;rw[ZM,yM]
theorem KH(r:Rn)(D:Option Addr)(M:Nat)(w:aS)(O:eS kT w D r.ev)(B:aAh r):qK 157 #[aH (FB r D M)] w (Rt (aB (iC r)) w):=by
 obtain⟨V,R,J,S,-⟩:=lB w (aK (FB r D M) 243);obtain⟨x,y,c2,c3⟩:=pQ4 S;have N:=eC (YI r D M V (O.later J) B);have W:(eH (PB r)).size<=10000000:=by
  have Z:(eH (PB r)).size=(PB r).length:=by rw[nX];rfl
  have h2:=eU (show jG r.ev.length by have:=B.2;unfold jG;omega);have f:=IT (rY r) B.1;rw[N4]at f;have:=B.2;rw[Z,PB,iR];omega
 have X:=eC (λU=>aDQ (eH (PB r)) U W);have Y:=eC (show iC r=aB2 (eH (PB r))from rfl);change Hid _ at J;clear W S O B;generalize PB r=L at*;unfold FB at R N|-;go_enter func157,ntmps157;go_wp2_with(first|(rw[R])|(go_at_call 213;refine(X _).mono ?_;rintro e w2⟨rfl,u⟩)|(go_at_call 214;refine N.mono ?_;rintro e w1⟨rfl,j⟩));go_ret;exact⟨by rw[Y];rfl,J.trans ((fC j u).mono J.size)⟩
theorem MH{r:Rn}{n:Int}(h:n∈rY r):(∃e∈r.ev,n=e.1\/n=e.2.1\/n=e.2.2)\/n=r.out.1\/n=r.out.2:=by
 unfold rY at h;obtain h|h:=wM.1 h
 .obtain⟨e,he,d⟩:=List.mem_flatMap.1 h;simp[QV]at d;exact .inl ⟨e,he,d⟩
 .simp at h;exact .inr h
theorem uP.last{p:Pg}{F:Int}(d:P64 p)(f:p.vs.length<=12):∀{n:Nat}{s R:Ms},uP p F n s R->vW p R/\pM F R
 |0,s,R,h=>by
  obtain⟨i,j,_,k⟩:=h
  have e:s=R:=k
  subst e
  exact⟨i,j⟩
 |n+1,s,R,h=>by
  cases ho:s.over with
  |true=>
   have e:=h.over ho
   subst e
   exact⟨h.1,h.2.1⟩
  |false=>
   obtain⟨m,hm,g⟩:=h.step d f ho
   obtain rfl:n=m:=zO
   exact uP.last d f g
theorem aIe{p:Pg}{i:List Int}{F:Int}(k:P64 p)(m:∀x∈i,kS x):aAh (jL p i F):=by
 unfold jL;split
 .exact⟨λn g=>by obtain⟨e,he,_⟩|rfl|rfl:=MH g<;>first|(cases he)|(unfold rH;simp),zS⟩
 .rename_i j;have f:=OQ (Decidable.of_not_not j);obtain⟨R,r,s,q⟩:=NM f.wt m f.kinds f.f0 f.f1;rw[q];have d:=uP.last k f.vl r;exact⟨λn g=>by
   obtain⟨e,he,h|h|h⟩|h|h:=MH g
   .rw[h];exact(d.1.e64 e he).1
   .rw[h];exact(d.1.e64 e he).2.1
   .rw[h];exact(d.1.e64 e he).2.2
   .rw[h];exact d.1.o64.1
   .rw[h];exact d.1.o64.2,by have:=d.2;unfold pM at this;simp only;omega⟩
end
theorem MT(B J D M:Int)(w:aS):qK 156 #[aH #[qI B,qI J],aH #[qI D,qI M]] w (Rt (qI (lE (B,J) (D,M))) w):=by
 have N:Bl w ((w.alloc (aK #[qI B,qI J] 40)).alloc (aK #[qI D,qI M] 40)):=(fL w _).alloc zS _;change Hid _ at N;by_cases h1:B=4
 .subst h1;go_enter func156,ntmps156;go_wp2;go_ret;exact⟨rfl,N⟩
 .by_cases h2:D=4
  .subst h2;have O:(B==4)=false:=by simpa using h1
   have e:lE (B,J) (4,M)=2:=by unfold lE;rw[eE h1,eI rfl]
   rw[e];go_enter func156,ntmps156;go_wp2;go_ret;exact⟨rfl,N⟩
  .have O:(B==4)=false:=by simpa using h1
   have S:(D==4)=false:=by simpa using h2
   have e:lE (B,J) (D,M)=if D=B/\M=J then 0 else 1:=by
    unfold lE;rw[eE h1,eE h2];by_cases h:D=B/\M=J
    .rw[eI h,eE (by obtain⟨rfl,rfl⟩:=h;simp)]
    .rw[eE h,eI (by simpa[Prod.ext_iff]using h)]
   rw[e];by_cases h3:D=B
   .subst h3;by_cases h4:M=J
    .subst h4;rw[eI ⟨rfl,rfl⟩];go_enter func156,ntmps156;go_wp2;go_ret;exact⟨rfl,N⟩
    .rw[eE (λh=>h4 h.2)];have R:(M==J)=false:=by simpa using h4
     go_enter func156,ntmps156;go_wp2;go_ret;exact⟨rfl,N⟩
   .rw[eE (λh=>h3 h.1)];have R:(D==B)=false:=by simpa using h3
    go_enter func156,ntmps156;go_wp2;go_ret;exact⟨rfl,N⟩
def E1(a:Option Addr)(c:Nat)(m:Mt):aT:=aH #[aA a m.d.path.length c,aC aP m.d.op,aC aP m.d.n,aC aP m.v,aC aP m.test,aC aP m.out.1,aC aP m.out.2,aB m.dig]
def zB(a b:Mt):Bool:=jD a.d b.d==0&&a.v==b.v&&a.test==b.test&&a.out.1==b.out.1&&a.out.2==b.out.2&&a.dig.toList==b.dig.toList
theorem FK(M N:Option Addr)(O R:Nat)(a b:Mt)(w:aS)(f:eS kI w M a.d.path)(j:eS kI w N b.d.path)(hm:a.d.path.length<=1000000)(y:b.d.path.length<=1000000):
  qK 9 #[E1 M O a,E1 N R b] w (Rt (.bool (zB a b)) w):=by
 obtain⟨V,Z⟩:=eR ((w.alloc (aK #[aA M a.d.path.length O,a.d.op,a.d.n,a.v,a.test,a.out.1,a.out.2,a.dig] 42)).alloc (aK #[aA N b.d.path.length R,b.d.op,b.d.n,b.v,b.test,b.out.1,b.out.2,b.dig] 42));obtain⟨W,X,J,aa⟩:=iY Z;have Y:=eC (OO M N O R a.d b.d V (f.later J) (j.later J) hm y);have x:=eC (λU(h:Bl V U)=>show qC U w 3 a.v/\qC U w 4 a.test/\qC U w 5 a.out.1/\qC U w 6 a.out.2/\qC U w 7 (aB a.dig)/\qC U ((w:Nat)+1) 3 b.v/\qC U ((w:Nat)+1) 4 b.test/\qC U ((w:Nat)+1) 5 b.out.1/\qC U ((w:Nat)+1) 6 b.out.2/\U.cell? ((w:Nat)+1,7)=some (aB b.dig)by
  have B:=(h.block w zO).trans W
  have D:=(h.block ((w:Nat)+1) zO).trans X
  exact⟨uG B,E0 B,F7 B,L4 B,LI B,uG D,E0 D,F7 D,L4 D,LI D⟩);obtain⟨a0,a1,a2⟩:=pX W;obtain⟨a3,a4,a5⟩:=pX X;have u:=eC (show zB a b=(jD a.d b.d==0&&a.v==b.v&&a.test==b.test&&a.out.1==b.out.1&&a.out.2==b.out.2&&a.dig.toList==b.dig.toList)from rfl);change Hid _ at J;clear f j W X aa;unfold GL at Y;unfold E1;go_enter func9,ntmps9;go_wp2_with(first|(rw[Z])|(go_at_call 8;refine Y.mono ?_;rintro e w1⟨rfl,S⟩;obtain⟨c3,c4,c5,c6,c7,g3,g4,g5,g6,g7⟩:=x w1 S;change Hid _ at S))
 all_goals go_ret;refine⟨?_,fC J S⟩;rw[u];simp[*]
def kM:lL Mt where
 k:=8
 R:=λw m q=>∃v,q=[v,aC aP m.d.op,aC aP m.d.n,aC aP m.v,aC aP m.test,aC aP m.out.1,aC aP m.out.2,aB m.dig]/\eD kI 3 0 w v m.d.path
 len:=λ⟨v,h,_⟩=>by rw[h];rfl
 one:=λ⟨v,h,d⟩u e=>by
  rw[h]at e
  obtain⟨a,c,n,_⟩:=fV d
  simp at e
  obtain rfl|rfl|rfl|rfl|rfl|rfl|rfl|rfl:=e
  .rw[n];rfl
  all_goals rfl
 tags:=λt=>t=3
 on:=λ⟨v,h,d⟩j=>⟨v,h,d.on (λk i=>by obtain⟨f,g⟩:=d.tag k i;exact j k f _ _ g rfl) (λ_ _ _ h=>h)⟩
theorem WJ(a b c:Int)(w:aS):qK 138 #[aH #[qI a,qI b,qI c]] w (Rt (aH #[qI a,qI b,qI c]) w):=by
 go_enter func138,ntmps138;go_wp2;have B:(w.alloc (aK #[qI a,qI b,qI c] 214)).heap.size=w+1:=fO _ _;refine gO (EP rfl _ _ ((w:Nat)+1) 31 #[qI a,qI b,qI c] (0,0) _ rfl ?_ underlying31 rfl zK) rfl ⟨rfl,?_⟩
 .first
  |(rw[<-B];exact fG _ _)
  |skip
 .exact(fL w _).alloc zO _
def mS(k:Int)(l:List Mt):Nat:=(l.filter λm=>m.v==k).length
theorem aAE(k:Int)(l:List Mt)(m:Mt):mS k (l++[m])=mS k l+if m.v=k then 1 else 0:=by unfold mS;rw[List.filter_append,iR];by_cases h:m.v=k<;>simp[h]
def aEr(l:List Mt):Array aT:=#[aC aP (mS 0 l:Nat),aC aP (mS 1 l:Nat),aC aP (mS 2 l:Nat)]
theorem IF(k:Int)(l:List Mt):mS k l<=l.length:=List.length_filter_le _ _
theorem DL(a:Option Addr)(c:Nat)(l:List Mt)(w:aS)(hl:eS kM w a l)(hm:l.length<=1000000):qK 61 #[aA a l.length c] w λe w'=>e=aO (aH (aEr l))/\aV w w w':=by
 obtain⟨V,hV⟩:=eR ((w.alloc (aK #[qI 0,qI 0,qI 0] 31)).alloc (aK #[qI 0,qI 0,qI 0] 214));obtain⟨r0,r1,ah,am⟩:=iY hV;have HL:=eC hl;have ar:=eC r0;have au:=eC r1;have af:=eC ah;have x:=eC am;clear hl r0 r1 ah am;go_enter func61,ntmps61;go_wp2;clear hV;go_loopw [8] (λi wr=>∃k:Nat,k<=l.length/\i=qI k/\Hid (qB wr ((w:Nat)+1) (aEr (l.take k)) 214/\eZ (λq=>q=(w:Nat)+1) V wr)) (λi _=>l.length-(aW i).toNat)
 case atStart=>exact⟨0,zO,rfl,eC ⟨au.out,eZ.refl _ _⟩⟩
 case round=>
  obtain⟨k,hk,rfl,M⟩:=hrel;by_cases hlt:k<l.length
  .have ay:(k:Int)<(l.length:Int):=zO;obtain⟨m,hx⟩:∃m,l[k]?=some m:=⟨_,lJ hlt⟩;obtain⟨b,ao,vs,rfl,aw,⟨pv,rfl,ak⟩,ai⟩:=HL.out.at hx;obtain⟨pa,pc,rfl,_⟩:=fV ak;have aj:wr.heap[b]?=w.heap[b]?:=(M.out.2.block b (by have:=x.out;omega) zO).trans (af.out.block b aw);have d:∀j v,[Value.slice pa m.d.path.length pc,m.d.op,m.d.n,m.v,m.test,m.out.1,m.out.2,m.dig][j]?=some v->qC wr b (ao+k*8+j) v:=λj v hj=>(lA (w:=w) (a:=(qP b (ao+k*8+j))) aj).trans (ai j v hj);have d0:=d 0 _ rfl;have d1:=d 1 _ rfl;have d2:=d 2 _ rfl;have d3:=d 3 _ rfl;have d4:=d 4 _ rfl;have d5:=d 5 _ rfl;have d6:=d 6 _ rfl;have d7:=d 7 _ rfl;simp only[yZ]at d0;have Z:=(fB.1 M.out.1).1;obtain⟨n0,n1,n2⟩:=pX M.out.1;have f0:=tK M.out.1;have wk:aP.wrap ((k:Int)+1)=(k:Int)+1:=by rw[iA];omega
   have Y:∀j:Int,mS j (l.take (k+1))=mS j (l.take k)+if m.v=j then 1 else 0:=λj=>by rw[F4,hx];exact aAE j _ m
   have B:=Y 0;have D:=Y 1;have J:=Y 2;clear Y;have f:∀j:Int,mS j (l.take k)<=1000000:=λj=>fA (IF j _) (by rw[jR];omega);have g0:=f 0;have g1:=f 1;have g2:=f 2;have N:=eC M.out;unfold aEr at M N|-;generalize mS 0 (l.take k)=S at*;generalize mS 1 (l.take k)=U at*;generalize mS 2 (l.take k)=W at*;have u0:aP.wrap ((S:Int)+1)=(S:Int)+1:=by rw[iA];omega
   have u1:aP.wrap ((U:Int)+1)=(U:Int)+1:=by rw[iA];omega
   have u2:aP.wrap ((W:Int)+1)=(W:Int)+1:=by rw[iA];omega
   clear hx ai aj d M ak f;have O:m.v=0\/m.v=1\/m.v=2\/(m.v<0)\/(3<=m.v):=zO;obtain O|O|O|O|O:=O
   .rw[O]at d3 B D J;rw[eI rfl]at B;rw[eE zO,yZ]at D;rw[eE zO,yZ]at J;have R:=eC (λo=>show qB ((qS wr ((w:Nat)+1,0) (qI ((S:Int)+1))).alloc o) ((w:Nat)+1) #[qI (mS 0 (l.take (k+1)):Nat),qI (mS 1 (l.take (k+1)):Nat),qI (mS 2 (l.take (k+1)):Nat)] 214/\eZ (λq=>q=(w:Nat)+1) V ((qS wr ((w:Nat)+1,0) (qI ((S:Int)+1))).alloc o)by
     rw[B,D,J]
     exact⟨(heap_alloc_old _ _ (by simpa using Z)).trans (iB wr _ 0 _ _ (qI ((S:Int)+1)) N.out.1),(N.out.2.set (.inl rfl) _).alloc _⟩);clear B D J;go_wp2;exact⟨⟨k+1,zO,by go_num,eC (R.out _)⟩,by simp[aW];omega⟩
   .rw[O]at d3 B D J;rw[eE zO,yZ]at B;rw[eI rfl]at D;rw[eE zO,yZ]at J;have R:=eC (λo=>show qB ((qS wr ((w:Nat)+1,1) (qI ((U:Int)+1))).alloc o) ((w:Nat)+1) #[qI (mS 0 (l.take (k+1)):Nat),qI (mS 1 (l.take (k+1)):Nat),qI (mS 2 (l.take (k+1)):Nat)] 214/\eZ (λq=>q=(w:Nat)+1) V ((qS wr ((w:Nat)+1,1) (qI ((U:Int)+1))).alloc o)by
     rw[B,D,J]
     exact⟨(heap_alloc_old _ _ (by simpa using Z)).trans (iB wr _ 1 _ _ (qI ((U:Int)+1)) N.out.1),(N.out.2.set (.inl rfl) _).alloc _⟩);clear B D J;go_wp2;exact⟨⟨k+1,zO,by go_num,eC (R.out _)⟩,by simp[aW];omega⟩
   .rw[O]at d3 B D J;rw[eE zO,yZ]at B;rw[eE zO,yZ]at D;rw[eI rfl]at J;have R:=eC (λo=>show qB ((qS wr ((w:Nat)+1,2) (qI ((W:Int)+1))).alloc o) ((w:Nat)+1) #[qI (mS 0 (l.take (k+1)):Nat),qI (mS 1 (l.take (k+1)):Nat),qI (mS 2 (l.take (k+1)):Nat)] 214/\eZ (λq=>q=(w:Nat)+1) V ((qS wr ((w:Nat)+1,2) (qI ((W:Int)+1))).alloc o)by
     rw[B,D,J]
     exact⟨(heap_alloc_old _ _ (by simpa using Z)).trans (iB wr _ 2 _ _ (qI ((W:Int)+1)) N.out.1),(N.out.2.set (.inl rfl) _).alloc _⟩);clear B D J;go_wp2;exact⟨⟨k+1,zO,by go_num,eC (R.out _)⟩,by simp[aW];omega⟩
   all_goals
    have b1:m.v≠0:=zO;have b2:m.v≠1:=zO;have b3:m.v≠2:=zO;rw[eE b1,yZ]at B;rw[eE b2,yZ]at D;rw[eE b3,yZ]at J;have R:=eC (λo=>show qB (wr.alloc o) ((w:Nat)+1) #[qI (mS 0 (l.take (k+1)):Nat),qI (mS 1 (l.take (k+1)):Nat),qI (mS 2 (l.take (k+1)):Nat)] 214/\eZ (λq=>q=(w:Nat)+1) V (wr.alloc o)by
     rw[B,D,J]
     exact⟨(heap_alloc_old _ _ Z).trans N.out.1,N.out.2.alloc _⟩);clear B D J b1 b2 b3
    first
     |(
      have b4:¬(3:Int)<=m.v:=zO
      have b5:¬(0:Int)<=m.v:=zO)
     |(
      have b4:¬m.v<3:=zO
      have b5:(0:Int)<=m.v:=zO)
    go_wp2;exact⟨⟨k+1,zO,by go_num,eC (R.out _)⟩,by simp[aW];omega⟩
  .have ax:k=l.length:=zO;subst ax;have ay:¬(l.length:Int)<(l.length:Int):=zO;have y:=M.out.1;rw[nH (eX _)]at y;obtain⟨n0,n1,n2⟩:=pX y;have al:qB wr w #[qI 0,qI 0,qI 0] 31:=(M.out.2.block _ (by have:=x.out;omega) zO).trans ar.out;have aq:=eC (show aV w w wr from af.out.trans (M.out.2.below (by have:=x.out;omega) (λq hq=>zO)));have ag:=eC al;clear M y al;obtain⟨S,ab⟩:∃c,mS 0 l=c:=⟨_,rfl⟩;obtain⟨U,ac⟩:∃c,mS 1 l=c:=⟨_,rfl⟩;obtain⟨W,ae⟩:∃c,mS 2 l=c:=⟨_,rfl⟩;rw[ab]at n0;rw[ac]at n1;rw[ae]at n2;have u:=eC (bG ab (bG ac ae));clear ab ac ae;go_wp2_with(go_at_call 138;refine(WJ _ _ _ _).mono ?_;rintro e w5⟨rfl,aa⟩;have X:=(aa.block _ (fB.1 ag.out).1).trans ag.out;obtain⟨z0,z1,z2⟩:=pX X;have x0:=tK X;have av:=eC (iB _ _ 2 _ _ (qI (W:Int)) (iB _ _ 1 _ _ (qI (U:Int)) (iB _ _ 0 _ _ (qI (S:Int)) X)));have ap:=mG aq aa;clear X aa);exact gO (EP rfl _ _ w 31 _ (0,0) _ rfl av.out underlying31 rfl zK) rfl ⟨by unfold aEr;rw[u.out.1,u.out.2.1,u.out.2.2];rfl,((ap.out.setCell (eX _) _).setCell (eX _) _).setCell (eX _) _⟩
section
attribute [local go_sem] Oper.semAt_some
theorem uD{a:Option Addr}(h:oB w a l):eS kI w a l:=by
 obtain h|⟨b,off,rfl,hlt,h⟩:=h
 .exact .inl h
 .exact .inr ⟨b,off,rfl,hlt,λi x d=>⟨[qI x],rfl,eG.one.2 (by have:=h i x d;rw[show i*kI.k=i from Nat.mul_one i];exact this)⟩⟩
def tJ(p:Pg)(d:List (List Int))(F:Int):List (Nat×Rn):=d.zipIdx.map λx=>(x.2,jL p x.1 F)
def aJD(x:Nat×Rn)(d:Array aT)(W:aS):Prop:=∃ev,d=#[aC aP (x.1:Nat),aH #[aC aP x.2.out.1,aC aP x.2.out.2,aC aP x.2.st,ev]]/\eD kT 434 0 W ev x.2.ev
structure Fit(p:Pg)(tests:List (List Int)):Prop where
 p64:P64 p
 t64:∀l∈tests,(∀x∈l,kS x)/\l.length<=1000000
 vl:p.vs.length<=1000000
 bl:p.bd.length<=100000
 tl:tests.length<=1000000
theorem aFp(p:Pg)(O B J:Option Addr)(R D N M:Nat)(F:Int)(w:aS):qK 254 #[kE O B R D p,aA J N M,qI F] w λe w'=>e=aO (aD (bC 290) #[] #[qP ((w:Nat)+1) 0,qP w 0,qP ((w:Nat)+1+1) 0])/\w'=((w.alloc (aK #[qI p.pa,aA O p.vs.length R,aA B p.bd.length D] 25)).alloc (aK #[aA J N M] 26)).alloc (aK #[qI F] 3):=by unfold kE;go_enter func254,ntmps254;go_wp2;go_ret;exact⟨rfl,rfl⟩
theorem aCy(p:Pg)(f X ta:Option Addr)(j Y tc:Nat)(D:List (List Int))(F:Int)(N w:aS)(B:Nat)(hp:iE N f X j Y p)(ht:gG N ta D)(hf:Fit p D)(ao:Bl N w)
  (h0:qB w B #[qI p.pa,aA f p.vs.length j,aA X p.bd.length Y] 25)(h1:Boxed w (B+1) 26 (aA ta D.length tc))(Z:Boxed w (B+1+1) 3 (qI F)):
  aCm prog 290 #[qP (B+1) 0,qP B 0,qP (B+1+1) 0] aJD (tJ p D F) (λ_ _=>False) (λk=>k<(N:Nat)\/(B<=k/\k<=B+2)) w:=by
 intro lp J W aa a8 hJ hY aj;refine callsIn_of_wp func290 rfl trivial ?_ rfl;simp only[ntmps290,pN,Nat.reduceAdd,Nat.reduceSub];have l2:=Z.lt;have g0:qB W B #[p.pa,aA f p.vs.length j,aA X p.bd.length Y] 25:=(aa.block _ zO).trans h0;have g1:Boxed W (B+1) 26 (aA ta D.length tc):=(aa.block _ zO).trans h1;have g2:Boxed W (B+1+1) 3 (qI F):=(aa.block _ zO).trans Z;have ap:Bl N W:=fC ao aa;obtain⟨M,ac⟩:∃M:Nat->Prop,(λk=>k<(N:Nat)\/(B<=k/\k<=B+2))=M:=⟨_,rfl⟩;rw[ac]at hY aj|-;have ay:∀k,k<(N:Nat)->M k:=λk h=>by rw[<-ac];exact .inl h
 have mb:∀k,B<=k->k<=B+2->M k:=λk h1 Z=>by rw[<-ac];exact .inr ⟨h1,Z⟩
 have c1:=g1.cell;have bb:B+2<(W:Nat):=by have:=g2.lt;omega
 have HG:=eC (λ(U:aS)(h:∀q,M q->q<(W:Nat)->U.heap[q]?=W.heap[q]?)=>show qC U B 0 p.pa/\qC U B 1 (aA f p.vs.length j)/\qC U B 2 (aA X p.bd.length Y)/\U.cell? (B+1+1,0)=some (qI F)by
  have e0:=(h B (mb _ zO zO) zO).trans g0
  have e2:Boxed U (B+1+1) 3 (qI F):=(h (B+1+1) (mb _ zO zO) zO).trans g2
  exact⟨nS e0,rI e0,uI e0,e2.cell⟩);have a1:=eC ht;have HP:=eC hp;have S:=eC hf;have HY:=eC hY;have HJ:=eC hJ;have aL:=eC ap;have HM:=eC ay;clear hY hJ hp ht hf ao h0 h1 Z l2 g0 g1 g2 mb ap ay;gi_wp2;gi_loopw [11] (λi wr=>∃k:Nat,k<=D.length/\i=qI k/\Hid (J ((tJ p D F).take k) M wr/\Bl N wr/\(W:Nat)<=wr/\∀q,M q->q<(W:Nat)->wr.heap[q]?=W.heap[q]?)) (λi _=>D.length-(aW i).toNat)
 case atStart=>exact⟨0,zO,rfl,eC ⟨aj,aL,eX _,λ_ _ _=>rfl⟩⟩
 case round=>
  obtain⟨k,hk,rfl,O⟩:=hrel;by_cases hlt:k<D.length
  .have a3:(k:Int)<(D.length:Int):=zO;obtain⟨l,hx⟩:∃l,D[k]?=some l:=⟨_,lJ hlt⟩;have ax:(tJ p D F)[k]?=some (k,jL p l F):=by unfold tJ;rw[oY,List.getElem?_zipIdx,hx];simp
   have aw:=a1.later O.out.2.1;obtain⟨b,ai,rfl,a7,av⟩:∃b ai,ta=some ⟨b,ai,none⟩/\b<(wr:Nat)/\∀i l,D[i]?=some l->∃pa c,wr.cell? (qP b (ai+i))=some (aA pa l.length c)/\oB wr pa l:=by
    obtain h|h:=aw
    .rw[h]at hlt;simp at hlt
    .exact h
   obtain⟨pa,pc,d0,ar⟩:=av k l hx;obtain⟨q0,q1,q2,q3⟩:=HG wr O.out.2.2.2;have wk:aP.wrap ((k:Int)+1)=(k:Int)+1:=by have:=S.tl;rw[iA];omega
   have ah:=S.t64 l (iG hx);have CR:=eC (TG p F l f X pa j Y pc wr (HP.later O.out.2.1) (uD ar) S.p64 ah.1 S.vl S.bl ah.2);unfold kE at CR;have ab:(tJ p D F).take (k+1)=(tJ p D F).take k++[(k,jL p l F)]:=by rw[F4,ax];rfl
   have a4:Hid ((tJ p D F).take k++[(k,jL p l F)]<+:tJ p D F):=eC (by rw[<-ab];exact List.take_prefix _ _);replace ab:=eC ab;clear aw av ar ah hx ax;gi_wp2_with(refine⟨trivial,?_⟩;gi_at_call 155;refine(hH.2 CR).mono ?_;rintro e u⟨⟨ev,rfl,ag⟩,aq⟩;obtain⟨ea,ec,rfl,_⟩:=fV ag;obtain⟨y,am⟩:=eR (u.alloc (aK #[qI (jL p l F).out.1,qI (jL p l F).out.2,qI (jL p l F).st,aA ea (jL p l F).ev.length ec] 243));have ae:Bl u y:=(by rw[<-am];exact fL u _);have au:qB y u #[qI (jL p l F).out.1,qI (jL p l F).out.2,qI (jL p l F).st,aA ea (jL p l F).ev.length ec] 243:=(by rw[<-am];exact fG u _);have af:Bl wr y:=fC aq ae;obtain⟨fn,bd,a5,a6,hy,al⟩:=HY _ (k,jL p l F) _ M y (HJ.below O.out.1 af) (λ_ h=>h) ⟨_,rfl,(ag.later ae).mono (kU _)⟩ a4;obtain⟨r0,r1,r2,r3⟩:=pQ4 au;have az:=eC af;clear ag aq ae au af);have HR:=eC O.out.2;clear O d0 q0 q1 q2 q3;refine al.mono ?_;rintro e W3⟨rfl,ak,R⟩;have z3:=R.size;have a0:=eC (show J ((tJ p D F).take (k+1)) M W3/\Bl N W3/\W<=(W3:Nat)/\∀q,M q->q<(W:Nat)->W3.heap[q]?=W.heap[q]?by
    obtain⟨x1,x2,x3⟩:=HR.out
    have y1:=az.out
    have x:=fC x1 y1
    have zz:=y1.size
    refine⟨by rw[ab];exact ak,⟨R.os.trans x.os,R.tape.trans x.tape,R.output.trans x.output,fA x.size z3,λq hq=>(R.own q (HM q hq) (by have:=x1.size;omega)).trans (x.block q hq)⟩,zO,λq hq hl=>(R.own q hq zO).trans ((y1.block q zO).trans (x3 q hq hl))⟩);clear hy al ak R r0 r1 r2 r3;gi_wp2;go_roundw
   case rel=>exact⟨k+1,zO,by go_num,a0⟩
   case measure=>simp[aW];omega
  .have a2:k=D.length:=zO;subst a2;have a3:¬(D.length:Int)<(D.length:Int):=zO;have HX:=eC (show J (tJ p D F) M wr by
    have:=O.out.1
    rwa[nH (by unfold tJ;simp)]at this);clear O;gi_wp2;go_end0;exact⟨⟨_,rfl⟩,HX⟩
end
section
attribute [local go_sem] Oper.semAt_some
def kO:lL (Int×Int) where
 k:=2
 R:=λ_ x e=>e=[aC aP x.1,aC aP x.2]
 len:=λh=>by rw[h];rfl
 one:=λh u d=>by rw[h]at d;simp at d;obtain rfl|rfl:=d<;>rfl
 tags:=λ_=>False
 on:=λh _=>h
theorem aJ5:gY prog 140 40 2 16:=gY.of underlying140 zK zO zO
def rW(p:Pg)(d:List (List Int))(F:Int):List (Int×Int):=d.map λl=>(jL p l F).out
theorem aBD(p:Pg)(d:List (List Int))(F:Int):(tJ p d F).map (λx=>x.2.out)=rW p d F:=by unfold tJ rW;rw[List.map_map];apply List.ext_getElem?;intro i;rw[oY,List.getElem?_zipIdx,oY];cases d[i]?<;>simp
def aHO(p:Pg)(d:List (List Int))(F:Int)(w:aS)(e:Ending)(w':aS):Prop:=(∃v,e=aO (.tuple #[v,aC aP 0])/\eD kO 40 (w:Nat) w' v (rW p d F))/\aV (w:Nat) w w'
theorem aD8(p:Pg)(R N X:Option Addr)(S O Y:Nat)(J:List (List Int))(F:Int)(w:aS)(hp:iE w R N S O p)(ht:gG w X J)(hf:Fit p J)(hk:gH p=0)(hc:pW p.pa J F=0):
  qK 205 #[kE R N S O p,aA X J.length Y,qI F] w (aHO p J F w):=by
 obtain⟨V,hV,ai,a7,bf⟩:=lB w (aK #[qI p.pa,aA R p.vs.length S,aA N p.bd.length O] 25);have CK:=qO R N S O p V (hp.later ai) hf.vl hf.bl;rw[hk]at CK;replace CK:=eC CK;have CC:=eC (λU(h:aV V V U)=>show qK 43 #[qI p.pa,aA X J.length Y,qI F] U λe w'=>e=aO (qI 0)/\aV U U w' by
  have h2:=sI p.pa X Y J F U (ht.later (ai.trans (h.mono zO))) (by have:=hf.tl;unfold aZ;omega)
  rw[hc]at h2
  exact h2);have HX:=eC (λU(h:aV V V U)=>show qC U w 0 (qI p.pa)/\qC U w 1 (aA R p.vs.length S)/\U.cell? (w,2)=some (aA N p.bd.length O)by
  have e0:=(h.block w zO).trans a7
  exact pX e0);obtain⟨a0,a1,a2⟩:=HX.out V (iL _ _);have bi:=eC ai;have ap:=eC bf;have HP:=eC hp;have HT:=eC ht;have HF:=eC hf;obtain⟨Q,hQ⟩:=eR (aHO p J F w);rw[hQ];have HQ:=eC hQ;clear ai a7 bf hp ht hf hk hc hQ;unfold kE at CK|-;refine(hH (n:=2)).1 ?_;refine xI func205 rfl trivial ?_ rfl;simp only[ntmps205,pN,Nat.reduceAdd,Nat.reduceSub];gi_wp2_with(first
  |(rw[hV])
  |(refine⟨trivial,?_⟩;gi_at_call 254;refine(hH.2 (aFp p R N X S O J.length Y F _)).mono ?_;rintro e w4⟨rfl,bp⟩)
  |(refine⟨trivial,?_⟩;gi_at_call 43;refine(hH.2 (CC.out w1 ah)).mono ?_;rintro e j⟨rfl,ar⟩;have ag:aV V V j:=fC ah ar;obtain⟨c0,c1,c2⟩:=HX.out j ag;have bw:w<(j:Nat):=(by have:=ag.size;have:=ap.out;omega);replace ar:=eC ar)
  |(refine⟨trivial,?_⟩;gi_at_call 37;refine(hH.2 CK.out).mono ?_;rintro e w1⟨rfl,ah⟩;obtain⟨b0,b1,b2⟩:=HX.out w1 ah));subst bp;have ao:=eC ag;clear ag ah hV b0 b1 b2 c0 c1 c2 a0 a1 a2;obtain⟨u,ab⟩:=eR (j.alloc (aK #[qN] 140));have aw:Boxed u j 140 qN:=by rw[<-ab];exact oI j _ _
 have aa:=DX ab;have af:=PC ab;rw[ab];obtain⟨w5,ae⟩:=eR (((u.alloc (aK #[qI p.pa,aA R p.vs.length S,aA N p.bd.length O] 25)).alloc (aK #[aA X J.length Y] 26)).alloc (aK #[qI F] 3));obtain⟨g0,g1,g2,aL,am⟩:=SI ae;rw[ae];rw[<-af];rw[af]at am;have aj:aV w w w5:=bi.out.trans ((ao.out.trans ((aa.trans (aL.mono zO)).mono ao.out.size)).mono (by have:=ap.out;omega));have ax:=ao.out.size;have ay:=ap.out;have av:=aCy p R N X S O Y J F w w5 u HP.out HT.out HF.out aj g0 g1 g2;have aq:AY (λ_ _=>False) w5 (λ(W:List (Nat×Rn))M U=>aV w w U/\∃v,V9 kO 40 140 w j M (W.map λx=>x.2.out) v U):=(NJ zO (eX _)).and (ZP _ _ _ _ _ _ _);have bj:=eC (show w<=(j:Nat)from zO);have bk:=eC (aBD p J F);have bn:Hid (∀W:List (Nat×Rn),W<+:tJ p J F->W.length<=1000000):=eC (λW h=>by
  have h1:=h.length_le
  have h2:=HF.out.tl
  unfold tJ at h1
  rw[rN,List.length_zipIdx]at h1
  omega);refine PU (n:=0) (gf:=290) (lb:=#[qP ((u:Nat)+1) 0,qP u 0,qP ((u:Nat)+1+1) 0]) (A:=λ_ _=>False) (Enc:=aJD) rfl (l8 func290 zK rfl)
  av (λk hk=>by obtain h|h:=hk<;>omega) (λ_ _ h=>h.elim) (λx f U⟨_,h,_⟩=>by rw[h];rfl) (λx f U U'⟨v,h,hh⟩gg=>⟨v,h,gg.ownLs hh⟩)
  _ aq ⟨aj,qN,⟨(aL.block _ zO).trans aw,eD.nil _ _ _ _⟩,λh=>by obtain h|h:=h<;>omega,λq h=>by cases h⟩
  (λU x f=>{tmps:=#[aH #[qI p.pa,aA R p.vs.length S,aA N p.bd.length O],aA X J.length Y,qI F,qP w 0,aY,aY,qN,qI 0,qI 0,qI 0,qP j 0,aY,qP U 0,aH #[qI p.pa,aA R p.vs.length S,aA N p.bd.length O],qI 0,qI 0,false,aY,qP w 0,qI p.pa,aA X J.length Y,qI F,qI 0,qI 0,false,aY,aH #[qI p.pa,aA R p.vs.length S,aA N p.bd.length O],aA X J.length Y,qI F,aD (bC 290) #[] #[qP ((u:Nat)+1) 0,qP u 0,qP ((u:Nat)+1+1) 0],f.getD 0 aY,f.getD 1 aY,aY,aY,aY,aY,aY,aY],defers:=[]})
  (λU x f=>match f.getD 1 aY with|aH cs=>U.alloc (aK cs 243)|_=>U) (λU x f=>by
   split
   .exact fL U _
   .exact iL _ _) ?_ ?_ ?_
 .rintro lq⟨i,r⟩f U K⟨ev,rfl,ho⟩hK;obtain⟨ea,ec,rfl,_⟩:=fV ho;clear ay ax af am ab ae ho;gi_wp2
  first|exact hK|simpa using hK
 .rintro lq W⟨i,r⟩f M U0 U⟨ac,v,y⟩az bl⟨ev,rfl,a5⟩a6 bo a8 bg;obtain⟨ea,ec,rfl,_⟩:=fV a5;have be:qB U U0 #[qI r.out.1,qI r.out.2,qI r.st,aA ea r.ev.length ec] 243:=(a8 _ (eX _)).trans (fG U0 _);have bq:U=(U0:Nat)+1:=bg.trans (fO _ _);obtain⟨k0,k1⟩:=pQ2 be;have bt:=xA y.o.1;have bm:Hid (∀q,M q->q<(U:Nat)):=eC (λq h=>by have:=az q h;omega);have HA:=eC (y.o.later ((iL _ U).alloc (eX _) (aK #[qI r.out.1,qI r.out.2] 40)));have a4:Hid ((W.map λx:Nat×Rn=>x.2.out).length+1<=10000000):=eC (by
   have h1:=bn.out _ a6
   rw[iR]at h1
   rw[rN]
   omega);have bd:Hid (w<=(U:Nat)):=eC ac.size;have bb:Hid ((W.map λx:Nat×Rn=>x.2.out)++[r.out]=(W++[(i,r)]).map λx:Nat×Rn=>x.2.out):=eC zS;have HO:=eC y;have bh:=eC ac;have br:=eC (show U0<(U:Nat)from zO);clear y ac az bl a6 bo a8 bg bq a5 be ay ax af am ab ae aq av aw aa aj;generalize(W.map λx:Nat×Rn=>x.2.out)=Z at HO HA a4 bb
  try dsimp only
  gi_wp2_with(refine D4 aJ5 rfl _ _ rfl w v _ rfl HA.out.2 U r.out [qI r.out.1,qI r.out.2] rfl rfl (eG.new _ _ _) a4.out (by have:=bd.out;simp;omega) (λh=>h) ?_;intro v3 W3 al ak a3 au;obtain⟨g3,bs,rfl⟩:=al.form;replace ak:=eC ak;replace au:=eC au;have aa:=HA.out.grown zD ak.out;have bu:=xA aa;have bv:=Boxed.frozen aa;replace al:=eC al;replace aa:=eC aa;replace a3:=eC a3);obtain⟨s1,s2,s3,s4⟩:=HO.out.step zD (λh=>h) bm.out al.out ak.out au.out;exact⟨s2 _,s3 _ _ bj.out (eX _) bd.out bh.out,_,by rw[<-bb.out];exact s1⟩
 .rintro D U hD⟨ac,v,y⟩hK;have hc:=xA y.o.1;have HR:=eC ((fD.put (B:=(w5:Nat)) (aM none) hD hK rfl).ownLs y.o.2);have HB:=eC (ac.trans (belowK_b (w:=w) (eX _) U D _ (aM none) zO hK rfl rfl));clear y ac ay ax af am ab ae aq av aw aa aj
  try dsimp only
  gi_wp2;refine⟨zS,.inl ⟨_,_,rfl,E6 hK,?_⟩⟩;rw[<-HQ.out];refine⟨_,results_tmp2 rfl _ _ _,⟨v,rfl,?_⟩,HB.out⟩;rw[<-bk.out];exact HR.out
end
theorem jZ{α:Type}{K:lL α}{S E:aX}{ab:Nat}(EO:gY P S E K.k ab)(af:¬K.tags E){B:Act}{KK:Act->aS->Prop}{EE:Prop}(ac:o.guard=none)(s x:Operand)
  (ho:o.op=.call {callee:=.builtin .append,args:=#[s,x],argTypes:=#[S,S]})(n:Nat)(v:aT)(L:List α)(hs:B.eval s=v)(aa:eD K E n w v L)
  (M:Option Addr)(c:Nat)(D:List α)(hx:B.eval x=aA M D.length c)(hy:eS K w M D)(ae:L.length+D.length<=10000000)(hb:n<=w)
  (h:∀J w',eD K E n w' J (L++D)->w.grownBy w' v.ownBlock->aV n w w'->KK (B.put o.dst J) w'):if Region.wanted o (yielded ops B.tmps)=true then Oper.wp P o B w KK Q else EE:=by
 have hw:Region.wanted o (yielded ops B.tmps)=true:=by simp[Region.wanted,ac]
 rw[eI hw];obtain⟨J,w',ag,h1,h2⟩:=sN (P:=P) EO af w o.type n v L aa M c D hy ae hb;unfold Oper.wp;simp[execOp,ho,resolve,invoke,builtin,hs,hx,ag,Result.andThen];exact h J w' h1 h2 ((iL n w).grown h2 hb (λk hk=>(aa.lt k hk).1))
theorem aBR(b o:Nat)(n:Int)(w:aS)(h:w.cell? (b,o)=some (qI n)):qK 158 #[qP b o] w λe w'=>e=aO (qI n)/\w=w':=by have B:=run_call_load (P:=prog) func215 zK zK zK aP zK h;go_enter func158,ntmps158;go_wp2;go_ret;exact⟨rfl,rfl⟩
theorem aFd(b o:Nat)(n d s:Int)(w:aS)(B:aP.wrap (n+d)=s)(h:w.cell? (b,o)=some (qI n))(hf:w.frozen? (b,o)=false):qK 76 #[qP b o,qI d] w λe w'=>e=aO (qI s)/\w'=qS w (b,o) (qI s):=by have D:=run_call_add (P:=prog) func159 zK zK zK aP zK (y:=d) (s:=s) h hf (by rw[<-B];simp[go_sem]);clear B;go_enter func76,ntmps76;go_wp2;go_ret;exact⟨rfl,rfl⟩
theorem MN(B:Nat)(n:Int)(w:aS)(h:w.cell? (B,6)=some (qI n)):qK 75 #[qP B 0] w λe w'=>e=aO (qI n)/\w=w':=by go_enter func75,ntmps75;go_wp2_with(go_at_call 158;refine(aBR B 6 n _ h).mono ?_;rintro e D⟨rfl,rfl⟩);go_ret;exact⟨rfl,rfl⟩
theorem NK(D:Nat)(n:Int)(J:Option Addr)(B M:Nat)(w:aS)(h:w.cell? (qP D 6)=some (aC aP n))(R:w.cell? (qP D 5)=some (aA J B M))(S:0<=n)(W:n<=B)(hd:B<=1000000):qK 73 #[qP D 0] w λe w'=>e=aO (aC aP ((B:Int)-n))/\w'=w.drew:=by
 have O:=eC (MN D n w.drew (by rw[World.cell?_drew];exact h));have hw:aP.wrap ((B:Int)-n)=(B:Int)-n:=by rw[iA];omega
 go_enter func73,ntmps73;go_wp2;go_region_held3(λU=>U.cell? (qP D 5)=some (aA J B M)) (first|(with_reducible assumption)|exact R) ((go_at_call 75;refine O.mono ?_;rintro e X⟨rfl,N⟩;rw[<-N];clear N));go_wp2;go_ret;exact⟨rfl,rfl⟩
theorem KG(p:Pg)(O D:Option Addr)(R J:Nat)(w:aS)(hp:iE w O D R J p)(hv:p.vs.length<=1000000)(hb:p.bd.length<=1000000):qK 71 #[kE O D R J p] w λe w'=>(∃v1 v2,e=aO (aH #[qI p.pa,v1,v2])/\eD kI 3 w w' v1 p.vs/\eD kP 54 w w' v2 p.bd)/\Bl w w':=by
 obtain⟨V,hV⟩:=eR ((w.alloc (aK #[p.pa,aA O p.vs.length R,aA D p.bd.length J] 25)).alloc (aK #[qI 0,qN,qN] 25));obtain⟨Z,r1,M,N⟩:=iY hV;have s0:∀U,aV ((w:Nat)+1) V U->qC U w 0 p.pa:=λU h=>kG U _ 0 _ _ _ ((h.block _ zO).trans Z);have s1:∀U,aV ((w:Nat)+1) V U->qC U w 1 (aA O p.vs.length R):=λU h=>kG U _ 1 _ _ _ ((h.block _ zO).trans Z);have s2:∀U,aV ((w:Nat)+1) V U->qC U w 2 (aA D p.bd.length J):=λU h=>kG U _ 2 _ _ _ ((h.block _ zO).trans Z);have ac:=jX V;have HP:=eC (hp.later (fC M ac));have ai:Hid (0+p.vs.length<=10000000/\0+p.bd.length<=10000000):=eC ⟨zO,zO⟩;change Hid _ at r1 M N;clear Z hp;unfold kE;go_enter func71,ntmps71;have aq:aV ((w:Nat)+1) V V.drew:=ac.mono (by have:=N.out;omega);have ag:Hid (w+1<=(V:Nat)):=eC (by have:=N.out;omega);have B:w+1<=(w:Nat)+1:=eX _;go_wp2_with(rw[hV]);clear hV;go_region_held_law(λU=>aV ((w:Nat)+1) V U) (first|(with_reducible assumption)|exact W.setCell B _|exact(W.setCell B _).setCell B _|exact((W.setCell B _).setCell B _).setCell B _|go_grown) ((first
  |(refine jZ (K:=kP) (o:=⟨some 10,_,_,_,_,_⟩) FA (λh=>h) rfl (.const qN) (.tmp 9) zR V qN [] zR (eD.nil _ _ _ _) D J p.bd zR ((nG.1 HP.2.1).later X) (by simpa using ai.out.2) (by exact X.size) ?_;intro v2 S ab af ae;obtain⟨u,y,rfl,_⟩:=fV ab;have W:aV ((w:Nat)+1) V S:=ap.trans (ae.mono ag);have am:=eC (gA ah (λh=>h) (eD.nil kP 54 V w1) zD af);have h5:=(X.trans (ae.mono (eX _))).block ((w:Nat)+1) (by have:=N.out;show w+1<(V:Nat);omega);have f:=eC (h5.trans r1);obtain⟨y0,y1,y2⟩:=pX f;have x0:=tK f;change Hid _ at ab;clear h5 af)
  |(refine jZ (K:=kI) (o:=⟨some 7,_,_,_,_,_⟩) rV (λh=>h) rfl (.const qN) (.tmp 6) zR V qN [] zR (eD.nil _ _ _ _) O R p.vs zR HP.1 (by simpa using ai.out.1) (eX _) ?_;intro v1 w1 ah ar X;obtain⟨j,x,rfl,_⟩:=fV ah;have ap:aV ((w:Nat)+1) V w1:=aq.trans (X.mono ag))));have ao:=eC (iB _ _ 2 _ _ (aA u p.bd.length y) (iB _ _ 1 _ _ (aA j p.vs.length x) (iB _ _ 0 _ _ (qI p.pa) f)));have aa:∀q,(V:Nat)<=q->q<(S:Nat)->(qS (qS (qS S ((w:Nat)+1,0) (qI p.pa)) ((w:Nat)+1,1) (aA j p.vs.length x)) ((w:Nat)+1,2) (aA u p.bd.length y)).heap[q]?=S.heap[q]?:=λq hq _=>by have:=N.out;rw[eF _ zO,eF _ zO,eF _ zO]
 have aj:=eC ((eW am (λ_ h=>h) aa).mono (show w<=(V:Nat)from M.size));have ak:=eC ((eW ab (λ_ h=>h) aa).mono (show w<=(V:Nat)from M.size));have Y:w<=(w:Nat)+1:=zO;have al:=eC (show Bl w (qS (qS (qS S ((w:Nat)+1,0) (qI p.pa)) ((w:Nat)+1,1) (aA j p.vs.length x)) ((w:Nat)+1,2) (aA u p.bd.length y))from(((M.trans (W.mono Y)).setCell Y _).setCell Y _).setCell Y _);clear aa;go_wp2;exact gO (EP rfl _ _ ((w:Nat)+1) 25 _ (0,0) _ rfl ao underlying25 rfl zK) rfl ⟨⟨_,_,rfl,aj,ak⟩,al⟩
end Go.Proofs.YtgmjilingndloaaGreatDoor
