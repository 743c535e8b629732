/- Part 8 of the proof of TopFuel. No conditions. -/
import Derived.Test.YtgmjilingndloaaGreatDoorZ7
import Derived.Deep.DeepCutAuto
open ByteArray renaming data_extract->dJ,size_append->dO
open Go renaming Value->aT,World->aS,maxLen->aZ,undef->aY
open Go.Ending renaming returned->aO
open Go.Fn renaming func->bC
open Go.IntKind renaming i64->aP,u64->bK,wrap_u8->cK
open Go.Obj renaming cells->aK
open Go.RowKit renaming Below->aV,intOf->aW,wrap64->a9
open Go.Value renaming func->aD,int->aC,ownBlock->bY,pointer->aE,slice->aA,string->aB,tuple->aF
open Go.World renaming cell?->bH
open List renaming getElem?_cons_succ->cH,take_left'->dM
open Option renaming getD_some->cN
open UInt8 renaming ofNat->bI
namespace Go.Proofs.YtgmjilingndloaaGreatDoor
set_option linter.unusedVariables false
set_option linter.unusedSimpArgs false
set_option maxRecDepth 100000
set_option maxHeartbeats 20000000
open Go Go.RowKit Go.Proofs.Tryz Go.Shelf
variable{w W w' u:aS}{n r K a e f i j k N b o p:Nat}{d s g:ByteArray}{l q A:List UInt8}{v:aT}{x:Int}
def iN(e:Int)(d:ByteArray):List UInt8:=bI (e%256).toNat::eK d.size
def iM(e:Int)(d:ByteArray):List UInt8:=iN e d++d.data.toList++gQ (iN e d++d.data.toList)
def fE(e:Int)(d:ByteArray):Nat:=if e<0\/255<e then 1 else if 1048576<d.size then 4 else 0
def fS(e:Int)(d:ByteArray):ByteArray:=if fE e d=0 then eH (iM e d)else⟨#[]⟩
abbrev FG:=(Nat×ByteArray)×Int×Nat
def yU(a:Int)(e:Nat):FG:=((0,⟨#[]⟩),a,e)
def fGo(s:ByteArray)(a n d e:Nat):FG:=
 if e≠0 then yU a e else if 1048576<n then yU a 4 else if s.size<d+n+4 then yU a 2
 else if kY (s.extract a (d+n+4)).data.toList=true then((lO s a,s.extract d (d+n)),((d+n+4:Nat):Int),0)else yU a 6
def vA(s:ByteArray)(a:Int):FG:=
 if a<0\/(s.size:Int)<a then yU a 1 else if(s.size:Int)=a then yU a 2
 else fGo s a.toNat (gN s (a.toNat+1)) (gT s (a.toNat+1)) (gE s (a.toNat+1))
theorem sS{a b:ByteArray}(h:a.data.toList=b.data.toList):a=b:=ByteArray.ext (Array.toList_inj.1 h)
theorem rL(s:ByteArray):s.data.toList.length=s.size:=rfl
theorem oR(l:List UInt8):(eH l).data.toList=l:=rfl
theorem jT(l:List UInt8):(eH l).size=l.length:=rfl
theorem aFP(s:ByteArray):eH s.data.toList=s:=sS rfl
theorem BB(s:ByteArray)(i j:Nat):(s.extract i j).data.toList=(s.data.toList.drop i).take (j-i):=by rw[dJ,Array.toList_extract,List.extract_eq_take_drop]
theorem rX(a b:ByteArray):(a++b).data.toList=a.data.toList++b.data.toList:=by rw[ByteArray.data_append,Array.toList_append]
theorem ER{p r:List UInt8}(h:s.data.toList=p++(q++r))(d:p.length=i)(e:i+q.length=j):s.extract i j=eH q:=by apply sS;rw[BB,h,oR,List.drop_left' d,dM zO]
theorem OW(e:Int)(d:ByteArray):(iN e d).length=1+(iF d.size).size:=by unfold iN eK;rw[oV];simp;omega
theorem aBH(e:Int)(d:ByteArray)(x:List UInt8)(j:x.length=d.size+4)(hd:d.size<=1048576)(a b:ByteArray):
  vA (a++eH (iN e d++x)++b) a.size=if kY (iN e d++x)=true then(((e%256).toNat,eH (x.take d.size)),((a.size+(iN e d++x).length:Nat):Int),0)else yU a.size 6:=by
 have C:jG d.size:=by unfold jG;omega
 obtain⟨S,k⟩:=eR (a++eH (iN e d++x)++b);have f:S.data.toList=a.data.toList++((bI (e%256).toNat::eK d.size)++x++b.data.toList):=by rw[<-k,rX,rX,oR];unfold iN;simp only[jH]
 have A:(eK d.size).length=(iF d.size).size:=by unfold eK;rw[oV];simp
 have D:S.size=a.size+1+(iF d.size).size+d.size+4+b.size:=by rw[<-rL,f];simp only[iR,iW,rL,A,j];omega
 have B:S=(a++eH [bI (e%256).toNat])++iF d.size++(eH x++b):=by apply sS;rw[f,rX,rX,rX,rX,oR,oR];show _=a.data.toList++[bI (e%256).toNat]++eK d.size++(x++b.data.toList);simp only[jH,rO,uS]
 have i:iZ S ((a.size+1:Nat):Int)=(d.size,((a.size+1:Nat):Int)+((iF d.size).size:Nat),0):=by have h:=GJ (a++eH [bI (e%256).toNat]) C (eH x++b);rw[<-B]at h;rw[show(a++eH [bI (e%256).toNat]).size=a.size+1 by rw[dO];rfl]at h;exact h
 have u:gN S (a.size+1)=d.size:=by unfold gN;rw[i]
 have s:gE S (a.size+1)=0:=by unfold gE;rw[i]
 have y:gT S (a.size+1)=a.size+1+(iF d.size).size:=by unfold gT;rw[i];simp only;omega
 rw[k];have g:=OW e d;unfold vA;rw[eE zO,eE zO,xC,u,s,y];unfold fGo;rw[eE zS,eE zO,eE zO];have m:S.extract a.size (a.size+1+(iF d.size).size+d.size+4)=eH (iN e d++x):=ER (p:=a.data.toList) (r:=b.data.toList) (by rw[f];unfold iN;simp only[jH,rO]) (by rw[rL]) (by rw[iR,g,j];omega);have n:S.extract (a.size+1+(iF d.size).size) (a.size+1+(iF d.size).size+d.size)=eH (x.take d.size):=by refine ER (p:=a.data.toList++iN e d) (r:=x.drop d.size++b.data.toList) ?_ (by rw[iR,g,rL];omega) (by rw[jR];omega);rw[f,<-jH (List.take _ _),xH];unfold iN;simp only[jH]
 have e3:lO S a.size=(e%256).toNat:=by unfold lO;rw[f,vT,CQ (show a.data.toList.length<=a.size from eX _),rL,Nat.sub_self];simp only[rO,aIJ,cN];exact pL zO
 rw[m,n,e3,oR];have q:((a.size+1+(iF d.size).size+d.size+4:Nat):Int)=((a.size+(iN e d++x).length:Nat):Int):=by rw[iR,g,j];omega
 rw[q]
theorem aHH{e:Int}(h:fE e d=0):0<=e/\e<=255/\d.size<=1048576:=by
 unfold fE at h;split at h
 .cases h
 .split at h
  .cases h
  .omega
theorem BW(e:Int)(d:ByteArray):(iM e d).length=(iN e d).length+d.size+4:=by unfold iM;rw[iR,iR,m9,rL]
theorem aBV{e:Int}(h:fE e d=0)(a b:ByteArray):vA (a++eH (iM e d)++b) a.size=((e.toNat,d),((a.size+(iM e d).length:Nat):Int),0):=by obtain⟨g,i,f⟩:=aHH h;have:=aBH e d (d.data.toList++gQ (iN e d++d.data.toList)) (by rw[iR,m9,rL]) f a b;rw[<-jH]at this;rw[show iM e d=iN e d++d.data.toList++gQ (iN e d++d.data.toList)from rfl];rw[this,eI (QF _),dM (rL d),aFP,show(e%256).toNat=e.toNat by omega]
theorem aBx{at' toQ:Int}{ty:Nat}(h:vA s at'=((ty,d),toQ,0)):
  ∃a t:Nat,at'=a/\toQ=t/\a<t/\t<=s.size/\fE ty d=0/\s.extract a t=eH (iM ty d):=by
 unfold vA at h;by_cases c1:at'<0\/(s.size:Int)<at'
 .rw[eI c1]at h;simp[yU]at h
 rw[eE c1]at h;by_cases c2:(s.size:Int)=at'
 .rw[eI c2]at h;simp[yU]at h
 rw[eE c2]at h;obtain⟨a,rfl⟩:=qJ (show 0<=at' from zO);rw[xC]at h;obtain⟨g,F,G,J,K⟩:=A0 s (a+1) zO;unfold fGo at h;by_cases c3:gE s (a+1)≠0
 .rw[eI c3]at h;simp only[yU,Prod.mk.injEq]at h;exact absurd h.2.2 c3
 rw[eE c3]at h;have m:gE s (a+1)=0:=zO;by_cases c4:1048576<gN s (a+1)
 .rw[eI c4]at h;simp[yU]at h
 rw[eE c4]at h;by_cases c5:s.size<gT s (a+1)+gN s (a+1)+4
 .rw[eI c5]at h;simp[yU]at h
 rw[eE c5]at h;by_cases c6:kY (s.extract a (gT s (a+1)+gN s (a+1)+4)).data.toList=true
 .rw[eI c6]at h;simp only[Prod.mk.injEq,and_true]at h;obtain⟨⟨k,hd⟩,D⟩:=h;rw[m]at g;obtain⟨a',E,L,O,r,R,S,i⟩:=zL g;have q:a'=a+1:=zO;have C:E=gT s (a+1):=zO;subst q;rw[C]at i r;generalize gT s (a+1)=T at*;generalize gN s (a+1)=n at*;have A:d.size=n:=by rw[<-hd,LZ];omega
  have N:ty<256:=by rw[<-k];exact UInt8.toNat_lt _
  refine⟨a,T+n+4,rfl,D.symm,zO,zO,?_,?_⟩
  .unfold fE;rw[eE zO,eE zO]
  ·
   obtain⟨l,e⟩:=eR s.data.toList;have M:l.length=s.size:=by rw[<-e];rfl
   have B:(l.drop a).take (T-a)=iN ty d:=by
    unfold iN;have j:a<l.length:=zO;rw[tL j,show T-a=(T-(a+1))+1 from zO,List.take_succ_cons];have u:l[a]=bI ((ty:Int)%256).toNat:=by apply UInt8.toNat_inj.1;rw[pL zO,<-k];unfold lO;rw[e,vT,lJ j,cN];have:=(l[a]).toNat_lt;omega
    have x:(l.drop (a+1)).take (T-(a+1))=eK d.size:=by have:=congrArg (λb:ByteArray=>b.data.toList) i;simp only[BB,e]at this;rw[<-this,A];rfl
    rw[u,x]
   have y:(l.drop T).take n=d.data.toList:=by rw[<-hd,BB,e];congr 1;omega
   have f:(s.extract a (T+n+4)).data.toList=iN ty d++d.data.toList++(l.drop (T+n)).take 4:=by rw[BB,e,show T+n+4-a=(T-a)+(n+4)from zO,List.take_add,B,List.drop_drop,show a+(T-a)=T from zO,List.take_add,y,List.drop_drop,jH]
   rw[f,JA _ _ (by rw[jR,sB];omega)]at c6;apply sS;rw[f,oR];unfold iM;rw[of_decide_eq_true c6]
 .rw[eE c6]at h;simp[yU]at h
structure jO(r K n:Nat)(w w':aS):Prop where
 os:w'.os=w.os
 tape:w'.tape=w.tape
 output:w'.output=w.output
 size:(w:Nat)<=(w':Nat)
 block:∀k,k<(w:Nat)->k≠r->k≠K->k≠n->w'.heap[k]?=w.heap[k]?
theorem jO.refl(r K n:Nat)(w:aS):jO r K n w w:=⟨rfl,rfl,rfl,eX _,λ_ _ _ _ _=>rfl⟩
theorem jO.trans{r K n:Nat}{u v w:aS}(h:jO r K n u v)(k:jO r K n v w):jO r K n u w:=
 ⟨k.os.trans h.os,k.tape.trans h.tape,k.output.trans h.output,fA h.size k.size,λi g d e f=>(k.block i (gV g h.size) d e f).trans (h.block i g d e f)⟩
theorem eN.three(h:eN r w w')(K n:Nat):jO r K n w w':=⟨h.os,h.tape,h.output,h.size,λk e d _ _=>h.block k e d⟩
theorem jO.setK(h:jO r K n u w)(o:Nat)(v:aT):jO r K n u (qS w (K,o) v):=
 h.trans ⟨rfl,rfl,rfl,zS,λk e _ d _=>pU w (K,o) v k d⟩
theorem jO.setN(h:jO r K n u w)(o:Nat)(v:aT):jO r K n u (qS w (n,o) v):=
 h.trans ⟨rfl,rfl,rfl,zS,λk e _ _ d=>pU w (n,o) v k d⟩
theorem jO.drewN(h:jO r K n u w)(k:Nat):jO r K n u (w.drewN k):=⟨h.os,h.tape,h.output,h.size,h.block⟩
theorem jO.pre(h:jO r K n (u.drewN k) w):jO r K n u w:=⟨h.os,h.tape,h.output,h.size,h.block⟩
theorem jO.below(h:jO r K n w w')(d:N<=r)(e:N<=K)(f:N<=n)(g:N<=w):aV N w w':=
 ⟨h.os,h.tape,h.output,h.size,λk i=>h.block k zO zO zO zO⟩
theorem Below.three(h:Bl w w'):jO r K n w w':=⟨h.os,h.tape,h.output,h.size,λk d _ _ _=>h.block k d⟩
theorem eV.past{d:Nat}(h:eV w r s a d)(e:r≠b):eV (qS w (b,o) v) r s a d:=h.at (pU w (b,o) v r e)
structure fK(w:aS)(r K Bc:Nat)(s:ByteArray)(a er ty:Nat)(d tl:ByteArray):Prop where
 rd:eV w r s a er
 blk:w.heap[K]?=some (aK #[aE (some ⟨r,0,none⟩),aB s,aC aP ty,aB d,aB tl] 373 (0,0))
 box:w.heap[Bc]?=some (aK #[aE (some ⟨K,0,none⟩)] 371 (0,0))
 rK:r≠K
 rB:r≠Bc
 KB:K≠Bc
def kH(w:aS)(n:Nat)(x:Int):Prop:=w.heap[n]?=some (aK #[aC aP x] 3 (0,0))
theorem fK.b0(h:fK w r K e s a f i d g):w.cell? ⟨e,0,none⟩=some (aE (some ⟨K,0,none⟩)):=by simp[bH,h.box]
theorem fK.k0(h:fK w r K e s a f i d g):w.cell? ⟨K,0,none⟩=some (aE (some ⟨r,0,none⟩)):=by simp[bH,h.blk]
theorem fK.k1(h:fK w r K e s a f i d g):w.cell? (K,1)=some (aB s):=by simp[bH,h.blk]
theorem fK.k2{g:Nat}{i:ByteArray}(h:fK w r K f s a g e d i):w.cell? (K,2)=some (qI e):=by simp[bH,h.blk]
theorem fK.k3(h:fK w r K e s a f i d g):w.cell? (K,3)=some (aB d):=by simp[bH,h.blk]
theorem fK.k4{g:Nat}{e:ByteArray}(h:fK w r K f s a g i d e):w.cell? (K,4)=some (aB e):=by simp[bH,h.blk]
theorem fK.fr(h:fK w r K e s a f i d g)(o:Nat):w.frozen? (K,o)=false:=by simp[World.frozen?,h.blk]
theorem fK.ltK(h:fK w r K e s a f i d g):K<w:=(fB.1 h.blk).1
theorem fK.ltB(h:fK w r K e s a f i d g):e<w:=(fB.1 h.box).1
theorem fK.read{a':Nat}{i:ByteArray}(h:fK w r K e s a k j d i)(m:eV w' r s a' f)(g:eN r w w'):fK w' r K e s a' f j d i:=
 ⟨m,(g.block K h.ltK h.rK.symm).trans h.blk,(g.block e h.ltB h.rB.symm).trans h.box,h.rK,h.rB,h.KB⟩
theorem fK.later{w w':aS}{r K e:Nat}{s:ByteArray}{a f j:Nat}{d i:ByteArray}(h:fK w r K e s a f j d i)(g:Bl w w'):fK w' r K e s a f j d i:=h.read (h.rd.later g) (Below.only g)
theorem fK.drewN{w:aS}{r K e:Nat}{s:ByteArray}{a f i:Nat}{d g:ByteArray}(h:fK w r K e s a f i d g)(k:Nat):fK (w.drewN k) r K e s a f i d g:=⟨h.rd.drewN k,h.blk,h.box,h.rK,h.rB,h.KB⟩
theorem fK.setTy(h:fK w r K e s a f j d g)(i:Nat):fK (qS w (K,2) (qI i)) r K e s a f i d g:=
 ⟨h.rd.past h.rK,tT h.blk 2 _,(pU w (K,2) _ e h.KB.symm).trans h.box,h.rK,h.rB,h.KB⟩
theorem fK.setD{g:Nat}{i:ByteArray}(h:fK w r K e s a g j d i)(f:ByteArray):fK (qS w (K,3) (aB f)) r K e s a g j f i:=
 ⟨h.rd.past h.rK,tT h.blk 3 _,(pU w (K,3) _ e h.KB.symm).trans h.box,h.rK,h.rB,h.KB⟩
theorem fK.setTl{j:ByteArray}(h:fK w r K e s a f i d j)(g:ByteArray):fK (qS w (K,4) (aB g)) r K e s a f i d g:=
 ⟨h.rd.past h.rK,tT h.blk 4 _,(pU w (K,4) _ e h.KB.symm).trans h.box,h.rK,h.rB,h.KB⟩
theorem fK.setN(h:fK w r K e s a f i d g)(v:aT)(j:n≠r)(k:n≠K)(m:n≠e):fK (qS w (n,0) v) r K e s a f i d g:=
 ⟨h.rd.past j.symm,(pU w (n,0) _ K k.symm).trans h.blk,(pU w (n,0) _ e m.symm).trans h.box,h.rK,h.rB,h.KB⟩
def wrF(d:Nat):Nat:=if d=5 then 0 else d
theorem aGY(s:ByteArray)(a d:Nat):(if pH s a d=5 then 0 else pH s a d)=wrF d:=by
 unfold pH wrF;split
 .rename_i h;rw[h.1];rfl
 .rfl
theorem AQ(r K J:Nat)(s:ByteArray)(a B N:Nat)(d M:ByteArray)(w:aS)(h:fK w r K J s a B N d M):
  qK 237 #[qP K 0] w λe w'=>e=aO (qI (wrF B:Nat))/\∃m,w'=w.drewN m:=by
 have R:=h.k0;have D:=eC (aAQ r s a B w h.rd);have hw:=aGY s a B;clear h;generalize pH s a B=E at D hw;rw[<-hw];clear hw;by_cases h5:E=5
 .subst h5;go_enter func237,ntmps237;go_wp2_with fail;refine D.mono ?_;rintro e O⟨rfl,m,rfl⟩;go_wp2_with fail;go_ret;exact⟨rfl,_,rfl⟩
 .rw[eE h5];have hd:((E:Int)==5)=false:=zT;go_enter func237,ntmps237;go_wp2_with fail;refine D.mono ?_;rintro e O⟨rfl,m,rfl⟩;go_wp2_with fail;go_ret;exact⟨rfl,_,rfl⟩
def JD(r K d:Nat)(w':aS):Prop:=w'.cell? ⟨d,0,none⟩=some (aE (some ⟨K,0,none⟩))/\w'.cell? ⟨K,0,none⟩=some (aE (some ⟨r,0,none⟩))/\(w'.frozen? ⟨K,2,none⟩=false/\w'.frozen? ⟨K,3,none⟩=false/\w'.frozen? ⟨K,4,none⟩=false)/\K≠d
theorem fK.look(h:fK w r K e s a f i d g):JD r K e w:=⟨h.b0,h.k0,⟨h.fr 2,h.fr 3,h.fr 4⟩,h.KB⟩
theorem JD.set{d:Nat}(h:JD r K d w)(o:Nat)(v:aT)(m:0<o):JD r K d (qS w (K,o) v):=by obtain⟨e,f,⟨g,i,j⟩,k⟩:=h;exact⟨(q9 _ _ _ _ zS).trans e,(q9 _ _ _ _ (by first|(simp;done)|(simp;omega))).trans f,⟨by rw[World.frozen?_setCell];exact g,by rw[World.frozen?_setCell];exact i,by rw[World.frozen?_setCell];exact j⟩,k⟩
theorem aJh(s:ByteArray)(a d:Nat):bV s a d<=255:=by
 unfold bV tk lO;split
 .have:=(s.data.toList.getD a 0).toNat_lt;omega
 .omega
theorem aBO(r K B n:Nat)(s:ByteArray)(u:Nat)(d O:ByteArray)(w:aS)(h:fK w r K B s 0 0 u d O)(f:s.size<=aZ):
  qK 236 #[qP B 0] w λe w'=>e=aO (qI (wrF (xM 0 (wE s 0 1)):Nat))/\fK w' r K B s (uF 0 0 (wT s 0 1) (wE s 0 1)) (xM 0 (wE s 0 1)) (bV s 0 0) d O/\jO r K n w w':=by
 have hS:=h.look;have H:=eC h;have D:=eC (λW h=>NZ r s 0 0 W h f (kU _));clear h;generalize uF 0 0 (wT s 0 1) (wE s 0 1)=y at D|-;generalize xM 0 (wE s 0 1)=z at D|-;have S:=aJh s 0 0;generalize bV s 0 0=x at D S|-;have ac:aP.wrap (x:Int)=x:=IntWalk.i64_in (x:Int) zO;have j:a9 (x:Int)=x:=IntWalk.wrap64_in (x:Int) zO;have HW:=eC j;clear S;have l0:∀w',JD r K B w'->qC w' B 0 (qP K 0):=λ_ h=>h.1;have l1:∀w',JD r K B w'->qC w' K 0 (qP r 0):=λ_ h=>h.2.1;have l2:∀w',JD r K B w'->qF w' K 2:=λ_ h=>h.2.2.1.1;go_enter func236,ntmps236;go_wp2_with fail;go_region_held3(λw'=>JD r K B w') (first|assumption|exact JD.drew zA|exact JD.set zA 2 _ zD)
  ((go_at_call 124;(with_reducible refine(D.out _ (H.out.rd.at (w':=w.drew) rfl)).mono ?_);rintro e U⟨rfl,Z,R⟩;have N:=(H.out.drewN 1).read Z R;have aa:=N.look;have ab:=N.k2))
 all_goals go_wp2_with fail
 have J:=N.setTy x;have M:jO r K n w (qS U (K,2) (qI x)):=((R.three K n).setK 2 _).pre (k:=1);generalize qS U (K,2) (qI x)=W4 at J M|-;refine(AQ r K B s y z x d O _ J).mono ?_;rintro e w5⟨rfl,m,rfl⟩;have Y:=eC (J.drewN m);have X:=eC (M.drewN m);clear J M;go_wp2_with fail;go_ret;exact⟨rfl,Y.out,X.out⟩
theorem aKn(s:ByteArray)(a:Nat):gE s a<=3:=by
 unfold gE iZ uL;repeat' split
 all_goals first|(simp only;omega)|(simp only;split<;>omega)
theorem kH.c0(h:kH w n x):w.cell? (n,0)=some (qI x):=by unfold kH at h;simp[bH,h]
theorem kH.f0(h:kH w n x):w.frozen? (n,0)=false:=by unfold kH at h;simp[World.frozen?,h]
theorem kH.lt(h:kH w n x):n<w:=(fB.1 h).1
theorem kH.read(h:kH w n x)(d:n≠r)(e:eN r w w'):kH w' n x:=(e.block n h.lt d).trans h
theorem kH.set(h:kH w n x)(y:Int):kH (qS w (n,0) (qI y)) n y:=tT h 0 _
theorem aBI(r K M n:Nat)(s:ByteArray)(a ty:Nat)(x:Int)(d tl:ByteArray)(w:aS)(h:fK w r K M s a 0 ty d tl)(hn:kH w n x)(Y:n≠r)(y:n≠K)(n3:n≠M)(hs:s.size<=aZ)(ha:a<=s.size):
  qK 238 #[qP M 0,qP n 0] w λe w'=>e=aO (qI (cE s a 1048576:Nat))/\(cE s a 1048576=0->fK w' r K M s (gT s a) 0 ty d tl/\kH w' n (gN s a:Nat))/\jO r K n w w':=by
 have X:=eC (λW=>aH3 s a W hs ha);have R:=eC (λW h=>JJ r s a 0 1048576 W h hs ha zD);have HA:=eC (λW h=>aEM r s a 0 W h);have U:cE s a 1048576=if gE s a=0/\1048576<gN s a then 4 else gE s a:=by
  unfold cE;by_cases h1:gE s a=0/\1048576<gN s a
  .rw[eI h1,eI ⟨h1.1,.inr zO⟩]
  .rw[eE h1,eE zO]
 have aa:=aKn s a;have H:=eC h;have b0:=h.b0;have k0:=h.k0;have k1:=h.k1;change Hid _ at hn;clear h;generalize cE s a 1048576=E at R U|-;generalize gN s a=N at R X U|-;generalize gT s a=T at R X|-;generalize gE s a=G at X U aa;by_cases hA:G=0/\1048576<N
 .obtain⟨rfl,u⟩:=hA;rw[eI ⟨rfl,u⟩]at U;subst U;have d1:decide ((1048576:Int)<N)=true:=zT;clear R aa u;go_enter func238,ntmps238;go_wp2_with fail;go_quiet (first|(go_at_call 239;exact JE (HA _ (H.rd.drewN _)))|(go_at_call 229;exact JE (X _)));go_wp2_with fail;go_ret;exact⟨rfl,λh=>zO,(jO.refl _ _ _ _).drewN _⟩
 .rw[eE hA]at U;have HW:Hid (wrF (xM 0 E)=E):=eC (by unfold wrF xM;rw[eI rfl,eE zO]);subst U;have HT:Hid (∀W,eV W r s (uF a 0 T E) (xM 0 E)->E=0->eV W r s T 0):=eC (λW h D=>by
   rw[D]at h;exact h);have hV:E=0->tk 0 E (a9 (N:Int)) 0=(N:Int):=λD=>by subst D;unfold tk;rw[eI ⟨rfl,rfl⟩];exact IntWalk.wrap64_in (N:Int) zO
  change Hid _ at hA hV;generalize tk 0 E (a9 (N:Int)) 0=v at R hV;by_cases D:E=0
  .have u:¬1048576<N:=λh=>hA ⟨D,h⟩;have d1:decide ((1048576:Int)<N)=false:=zT;subst D;clear u aa;go_enter func238,ntmps238;go_wp2_with fail;go_quiet (first|(go_at_call 239;exact JE (HA _ (H.rd.drewN _)))|(go_at_call 229;exact JE (X _)));go_wp2_with fail;refine(R _ (H.rd.drewN _)).mono ?_;rintro e j⟨rfl,f,J⟩;have S:=(H.drewN nq).read f J;have O:=(show kH (w.drewN nq) n x from hn).read Y J;have c3:=O.c0;have f3:=O.f0;have m0:qC (qS j (n,0) (qI v)) M 0 (qP K 0):=(S.setN (qI v) Y y n3).b0;have B:=eC (S.setN (qI v) Y y n3);have ab:=eC (O.set v);have Z:=eC (((J.three K n).setN 0 (qI v)).pre (k:=nq));clear S O J f;go_wp2_with fail;generalize qS j (n,0) (qI v)=W4 at B ab Z m0|-;refine(AQ r K M s _ _ ty d tl _ B).mono ?_;rintro e w5⟨rfl,m,rfl⟩;rw[HW];go_wp2_with fail;go_ret;exact⟨rfl,λD=>⟨⟨HT _ (B.rd.drewN m) D,B.blk,B.box,B.rK,B.rB,B.KB⟩,by have:=ab.out;rw[hV D]at this;exact this⟩,Z.drewN m⟩
  .have d0:((E:Int)==0)=false:=zT;go_enter func238,ntmps238;go_wp2_with fail;go_quiet (first|(go_at_call 239;exact JE (HA _ (H.rd.drewN _)))|(go_at_call 229;exact JE (X _)));go_wp2_with fail;refine(R _ (H.rd.drewN _)).mono ?_;rintro e j⟨rfl,f,J⟩;have S:=(H.drewN nq).read f J;have O:=(show kH (w.drewN nq) n x from hn).read Y J;have c3:=O.c0;have f3:=O.f0;have m0:qC (qS j (n,0) (qI v)) M 0 (qP K 0):=(S.setN (qI v) Y y n3).b0;have B:=eC (S.setN (qI v) Y y n3);have Z:=eC (((J.three K n).setN 0 (qI v)).pre (k:=nq));clear S O J f;go_wp2_with fail;generalize qS j (n,0) (qI v)=W4 at B Z m0|-;refine(AQ r K M s _ _ ty d tl _ B).mono ?_;rintro e w5⟨rfl,m,rfl⟩;rw[HW];go_wp2_with fail;go_ret;exact⟨rfl,λh=>absurd h D,Z.drewN m⟩
def C5(r K d n:Nat)(x:Int)(w':aS):Prop:=JD r K d w'/\w'.cell? ⟨n,0,none⟩=some (aC aP x)/\n≠K
theorem C5.set{r K d n:Nat}{x:Int}{w:aS}(h:C5 r K d n x w)(o:Nat)(v:aT)(e:0<o):C5 r K d n x (qS w (K,o) v):=
 ⟨h.1.set o v e,(q9 _ _ _ _ zS).trans h.2.1,h.2.2⟩
def e3(s:ByteArray)(a n:Nat):Nat:=if a+n+4<=s.size then 0 else 2
theorem Q6(s:ByteArray)(a n:Nat)(j:a<=s.size):
  wrF (xM (xM 0 (wE s a n)) (wE s (uF a 0 (wT s a n) (wE s a n)) 4))=e3 s a n/\xM (xM 0 (wE s a n)) (wE s (uF a 0 (wT s a n) (wE s a n)) 4)=e3 s a n/\
  (e3 s a n=0->uF (uF a 0 (wT s a n) (wE s a n)) (xM 0 (wE s a n)) (wT s (uF a 0 (wT s a n) (wE s a n)) 4) (wE s (uF a 0 (wT s a n) (wE s a n)) 4)=a+n+4/\tk 0 (wE s a n) (wS s a n) ⟨#[]⟩=s.extract a (a+n)):=by
 have e:∀q m:Nat,wE s q m=if q+m<=s.size then 0 else 2:=λq m=>by unfold wE pE;rw[eE zO,xC]
 have hT:∀q m:Nat,wT s q m=if q+m<=s.size then q+m else q:=λq m=>by unfold wT pT;rw[eE zO,xC]
 have f:∀q:Nat,wE s q 4=if q+4<=s.size then 0 else 2:=λq=>e q 4;have g:∀q:Nat,wT s q 4=if q+4<=s.size then q+4 else q:=λq=>hT q 4;by_cases h1:a+n<=s.size
 .have d:wE s a n=0:=by rw[e,eI h1]
  have t1:wT s a n=a+n:=by rw[hT,eI h1]
  have i:uF a 0 (wT s a n) (wE s a n)=a+n:=by rw[d,t1];rfl
  rw[i,d,f,g];by_cases h2:a+n+4<=s.size
  .rw[eI h2,eI h2];have:e3 s a n=0:=by unfold e3;rw[eI h2]
   rw[this];refine⟨rfl,rfl,λ_=>⟨rfl,?_⟩⟩;unfold tk wS pS;rw[eI ⟨rfl,rfl⟩,eE zO,xC,eI h1]
  .rw[eE h2,eE h2];have:e3 s a n=2:=by unfold e3;rw[eE h2]
   rw[this];exact⟨rfl,rfl,λh=>by cases h⟩
 .have d:wE s a n=2:=by rw[e,eE h1]
  have:e3 s a n=2:=by unfold e3;rw[eE zO]
  rw[this,d];exact⟨rfl,rfl,λh=>by cases h⟩
theorem aBl(r K B n:Nat)(s:ByteArray)(a ty x:Nat)(d tl:ByteArray)(w:aS)(h:fK w r K B s a 0 ty d tl)(u:kH w n x)(n1:n≠r)(y:n≠K)(n3:n≠B)(hs:s.size<=aZ)(O:a<=s.size)(hx:x<=1048576):
  qK 240 #[qP B 0,qP n 0] w λe w'=>e=aO (qI (e3 s a x:Nat))/\(e3 s a x=0->∃ac,fK w' r K B s (a+x+4) 0 ty (s.extract a (a+x)) ac)/\jO r K n w w':=by
 have h2:uF a 0 (wT s a x) (wE s a x)<=s.size:=(XK O (aJ6 O)).2;have N:=eC (λW h=>EG r s a 0 (x:Int) W h hs O zO);have D:=eC (λW h=>EG r s (uF a 0 (wT s a x) (wE s a x)) (xM 0 (wE s a x)) 4 W h hs h2 zD);obtain⟨R,S,M⟩:=Q6 s a x O;have H:=eC h;have hS:C5 r K B n x w:=⟨h.look,u.c0,y⟩;change Hid _ at R S M u;clear h h2;generalize e3 s a x=E at R S M|-;generalize uF (uF a 0 (wT s a x) (wE s a x)) (xM 0 (wE s a x)) (wT s (uF a 0 (wT s a x) (wE s a x)) 4) (wE s (uF a 0 (wT s a x) (wE s a x)) 4)=y2 at D M;generalize xM (xM 0 (wE s a x)) (wE s (uF a 0 (wT s a x) (wE s a x)) 4)=z2 at D R S;generalize tk (xM 0 (wE s a x)) (wE s (uF a 0 (wT s a x) (wE s a x)) 4) (wS s (uF a 0 (wT s a x) (wE s a x)) 4) ⟨#[]⟩=u2 at D;generalize tk 0 (wE s a x) (wS s a x) ⟨#[]⟩=u1 at N M;generalize uF a 0 (wT s a x) (wE s a x)=y1 at N D;generalize xM 0 (wE s a x)=z1 at N D;have l0:∀w',C5 r K B n x w'->qC w' B 0 (qP K 0):=λ_ h=>h.1.1;have l1:∀w',C5 r K B n x w'->qC w' K 0 (qP r 0):=λ_ h=>h.1.2.1;have l2:∀w',C5 r K B n x w'->qF w' K 3:=λ_ h=>h.1.2.2.1.2.1;have l3:∀w',C5 r K B n x w'->qF w' K 4:=λ_ h=>h.1.2.2.1.2.2;have l4:∀w',C5 r K B n x w'->qC w' n 0 (qI x):=λ_ h=>h.2.1;go_enter func240,ntmps240;go_wp2_with fail;go_region_held3(λw'=>C5 r K B n x w') (first|assumption|exact C5.drew zA|exact C5.set zA 3 _ zD|exact C5.set zA 4 _ zD)
  (first|(go_at_call 185;(with_reducible refine(N.out _ (H.out.rd.at (w':=w.drew) rfl)).mono ?_);rintro e w3⟨rfl,j,Z⟩;have U:=(H.out.drewN 1).read j Z;have Y:=(show kH (w.drewN 1) n x from u.out).read n1 Z;have ae:C5 r K B n x w3:=⟨U.look,Y.c0,y⟩)|(go_at_call 185;(with_reducible refine(D.out _ j).mono ?_);rintro e w4⟨rfl,ab,f⟩;have J:=U.read ab f;have aa:=Y.read n1 f;have af:C5 r K B n x w4:=⟨J.look,aa.c0,y⟩;have ag:=J.k3;have ah:=J.k4))
 all_goals go_wp2_with fail
 have X:=eC ((J.setD u1).setTl u2);have O5:jO r K n w (qS (qS w4 (K,3) (aB u1)) (K,4) (aB u2)):=((((Z.three K n).trans (f.three K n)).setK 3 _).setK 4 _).pre (k:=1);generalize qS (qS w4 (K,3) (aB u1)) (K,4) (aB u2)=W5 at X O5|-;refine(AQ r K B s y2 z2 ty u1 u2 _ X.out).mono ?_;rintro e w6⟨rfl,m,rfl⟩;rw[R.out];clear l0 l1 l2 l3 l4 hS ab J aa j U Y;go_wp2_with fail;go_ret;refine⟨rfl,λh0=>⟨u2,?_⟩,O5.drewN m⟩;obtain⟨q1,q2⟩:=M.out h0;have hz:z2=0:=S.out.trans h0;have q:=X.out.drewN m;rw[q1,q2,hz]at q;exact q
theorem aB6(r K M:Nat)(s:ByteArray)(a Y:Nat)(d X:ByteArray)(w:aS)(h:fK w r K M s a 0 Y d X)(O:s.size<=aZ)(f:a<=s.size):
  qK 241 #[qP M 0] w (Rt (qI ((if kY (s.extract 0 a).data.toList=true then 0 else 6:Nat):Int)) w):=by
 have R:(s.extract 0 a).size<=9223372036854775807:=by rw[LZ];unfold aZ at O;omega
 have J:=eC (λW=>aEX (s.extract 0 a) W R);have CA:=eC (λW h=>PT r s a 0 W h);have H:=eC h;have Z:=iL w w;have x:∀w',Bl w w'->qC w' M 0 (qP K 0):=λ_ B=>(h.later B).b0;have y:∀w',Bl w w'->qC w' K 0 (qP r 0):=λ_ B=>(h.later B).k0;have l2:∀w',Bl w w'->qC w' K 1 (aB s):=λ_ B=>(h.later B).k1;have j:(0:Int)<=(a:Int):=zO;have u:(a:Int)<=(s.size:Int):=zO;clear h R O;cases hg:kY (s.extract 0 a).data.toList with
 |true=>
  rw[hg]at J;clear hg;go_enter func241,ntmps241;go_wp2_with fail;go_region_held3(λw'=>Bl w w') (first|assumption|go_grown)
   (first|(go_at_call 239;refine(CA _ (H.rd.later zG)).mono ?_;rintro e N⟨rfl,rfl⟩)|(go_at_call 242;refine(J _).mono ?_;rintro e N⟨rfl,D⟩;obtain⟨S,U⟩:=UR zG D;clear D))
  all_goals go_wp2_with fail
  all_goals go_ret
  all_goals exact⟨rfl,zG⟩
 |false=>
  rw[hg]at J;clear hg;go_enter func241,ntmps241;go_wp2_with fail;go_region_held3(λw'=>Bl w w') (first|assumption|go_grown)
   (first|(go_at_call 239;refine(CA _ (H.rd.later zG)).mono ?_;rintro e N⟨rfl,rfl⟩)|(go_at_call 242;refine(J _).mono ?_;rintro e N⟨rfl,D⟩;obtain⟨S,U⟩:=UR zG D;clear D))
  all_goals go_wp2_with fail
  all_goals go_ret
  all_goals exact⟨rfl,zG⟩
theorem G2(s:ByteArray)(a q:Nat)(h:a<=s.size):eT (s.extract a s.size) q=eT s (a+q):=by unfold eT;rw[BB,nH (by rw[sB,rL];omega),List.drop_drop]
theorem aHB(s:ByteArray)(a q:Nat)(h:a+q<=s.size):gN (s.extract a s.size) q=gN s (a+q)/\gE (s.extract a s.size) q=gE s (a+q)/\gT (s.extract a s.size) q+a=gT s (a+q):=by
 have d:(s.extract a s.size).size=s.size-a:=by rw[LZ];omega
 unfold gN gE gT iZ;rw[eE zO,eE zO];simp only[xC];rw[G2 s a q zO];exact⟨rfl,rfl,zO⟩
def fT(t:ByteArray)(a:Nat):FG:=
 if t.size=0 then yU a 2 else if cE t 1 1048576≠0 then yU a (cE t 1 1048576)else if e3 t (gT t 1) (gN t 1)≠0 then yU a (e3 t (gT t 1) (gN t 1))
 else if kY (t.extract 0 (gT t 1+gN t 1+4)).data.toList=true then((bV t 0 0,t.extract (gT t 1) (gT t 1+gN t 1)),((a+(gT t 1+gN t 1+4):Nat):Int),0)else yU a 6
theorem aCG(s:ByteArray)(a:Nat):cE s a 1048576=if gE s a=0/\1048576<gN s a then 4 else gE s a:=by
 unfold cE;by_cases h1:gE s a=0/\1048576<gN s a
 .rw[eI h1,eI ⟨h1.1,.inr zO⟩]
 .rw[eE h1,eE zO]
theorem Z4(s:ByteArray)(a i j:Nat)(h:a<=s.size)(d:a+j<=s.size):(s.extract a s.size).extract i j=s.extract (a+i) (a+j):=by apply sS;rw[BB,BB,BB,nH (l:=List.drop a _) (by rw[sB,rL];omega),List.drop_drop];congr 1;omega
theorem aKh(s:ByteArray)(a:Nat)(h:a<=s.size):fT (s.extract a s.size) a=vA s a:=by
 have f:(s.extract a s.size).size=s.size-a:=by rw[LZ];omega
 by_cases h0:s.size=a
 .unfold fT vA;rw[eI (show(s.extract a s.size).size=0 from zO),eE (show¬((a:Int)<0\/(s.size:Int)<a)from zO),eI (show(s.size:Int)=a from zO)]
 have i:vA s a=fGo s a (gN s (a+1)) (gT s (a+1)) (gE s (a+1)):=by unfold vA;rw[eE (show¬((a:Int)<0\/(s.size:Int)<a)from zO),eE (show¬(s.size:Int)=a from zO),xC]
 rw[i];unfold fT;rw[eE (show¬(s.extract a s.size).size=0 from zO)];obtain⟨g,k,q⟩:=aHB s a 1 zO;obtain⟨_,m,n,_,_⟩:=A0 s (a+1) zO;have d:=aCG (s.extract a s.size) 1;rw[g,k]at d;unfold fGo;by_cases c1:gE s (a+1)=0
 .rw[eE (show¬(gE s (a+1)≠0)from zO)];by_cases c2:1048576<gN s (a+1)
  .rw[eI ⟨c1,c2⟩]at d;rw[d,eI (show 4≠0 from zD),eI c2]
  .rw[eE (show¬(gE s (a+1)=0/\1048576<gN s (a+1))from zO),c1]at d;rw[d,eE (show¬(0≠0)from zD),eE c2,g];by_cases c3:s.size<gT s (a+1)+gN s (a+1)+4
   .have e:e3 (s.extract a s.size) (gT (s.extract a s.size) 1) (gN s (a+1))=2:=by unfold e3;rw[f,eE zO]
    rw[e,eI (show 2≠0 from zD),eI c3]
   .have e:e3 (s.extract a s.size) (gT (s.extract a s.size) 1) (gN s (a+1))=0:=by unfold e3;rw[f,eI zO]
    rw[e,eE (show¬(0≠0)from zD),eE c3];rw[Z4 s a _ _ h zO,Z4 s a _ _ h zO,yZ];rw[show a+(gT (s.extract a s.size) 1+gN s (a+1)+4)=gT s (a+1)+gN s (a+1)+4 from zO,show a+gT (s.extract a s.size) 1=gT s (a+1)from zO,show a+(gT (s.extract a s.size) 1+gN s (a+1))=gT s (a+1)+gN s (a+1) by omega];have j:bV (s.extract a s.size) 0 0=lO s a:=by unfold bV tk;rw[eI ⟨rfl,by rw[FM,eI (by rw[f];omega)]⟩];unfold lO;rw[BB,nH (by rw[sB,rL];omega)];simp only[vT,List.getElem?_drop,yZ]
    rw[j]
 .rw[eE (show¬(gE s (a+1)=0/\1048576<gN s (a+1))from zO)]at d;rw[d,eI c1,eI c1]
def FV(g:FG):aT:=aF #[.agg #[aC aP g.1.1,aB g.1.2],aC aP g.2.1,aC aP g.2.2]
def two(w:aS)(g:Nat)(e:Nat)(d:ByteArray):Prop:=w.heap[g]?=some (aK #[aC aP e,aB d] 75 (0,0))
theorem two.cells{g:Nat}(h:two w g e d):w.cell? (g,0)=some (qI e)/\w.cell? (g,1)=some (aB d)/\w.frozen? (g,0)=false/\w.frozen? (g,1)=false:=by unfold two at h;refine⟨?_,?_,?_,?_⟩<;>first|(unfold bH;rw[h];rfl)|(unfold World.frozen?;rw[h];simp)
theorem WE(w:aS)(d e f g:Obj):((((w.alloc d).alloc e).alloc f).alloc g).drew.heap[(w:Nat)]?=some d/\((((w.alloc d).alloc e).alloc f).alloc g).drew.heap[(w:Nat)+1]?=some e/\((((w.alloc d).alloc e).alloc f).alloc g).drew.heap[(w:Nat)+1+1]?=some f/\((((w.alloc d).alloc e).alloc f).alloc g).drew.heap[(w:Nat)+1+1+1]?=some g/\Bl w ((((w.alloc d).alloc e).alloc f).alloc g).drew:=by
 have m:(w.alloc d).heap.size=w+1:=by simp
 have n:((w.alloc d).alloc e).heap.size=w+1+1:=by simp
 have q:(((w.alloc d).alloc e).alloc f).heap.size=w+1+1+1:=by simp
 have k:=fG w d;have h:=fG (w.alloc d) e;have i:=fG ((w.alloc d).alloc e) f;have j:=fG (((w.alloc d).alloc e).alloc f) g;rw[m]at h;rw[n]at i;rw[q]at j;refine⟨?_,?_,?_,j,(((((fL w _).alloc zO _).alloc zO _).alloc zO _)).drew⟩
 .exact(iI _ _ _ zO).trans ((iI _ _ _ zO).trans ((iI _ _ _ zO).trans k))
 .exact(iI _ _ _ zO).trans ((iI _ _ _ zO).trans h)
 .exact(iI _ _ _ zO).trans i
theorem two.read{g:Nat}(h:two w g e d)(k:jO r K n w w')(f:g≠r)(i:g≠K)(j:g≠n):two w' g e d:=(k.block g (fB.1 h).1 f i j).trans h
theorem two.store{g:Nat}(h:two w g i d)(f:Nat)(e:ByteArray):two (qS (qS w (g,0) (qI f)) (g,1) (aB e)) g f e:=tT (tT h 0 _) 1 _
theorem tI{g:Nat}(d:aV N w w')(f:N<=g)(u v:aT):aV N w (qS (qS w' (g,0) u) (g,1) v):=
 ⟨d.os,d.tape,d.output,by simpa using d.size,λk e=>(pU _ (g,1) v k (show k≠g from zO)).trans ((pU w' (g,0) u k (show k≠g from zO)).trans (d.block k e))⟩
theorem jO.weak(h:jO r K K w w'):jO r K n w w':=⟨h.os,h.tape,h.output,h.size,λk f e d _=>h.block k f e d d⟩
theorem fK.setG{i:ByteArray}(h:fK w r K e s a f j d i){g:Nat}(k:g≠r)(m:g≠K)(n:g≠e):fK (qS w (g,o) v) r K e s a f j d i:=
 ⟨h.rd.past k.symm,(pU w (g,o) _ K m.symm).trans h.blk,(pU w (g,o) _ e n.symm).trans h.box,h.rK,h.rB,h.KB⟩
def aKx(t:ByteArray)(r K d n k:Nat)(w:aS):Prop:=
 (k=0/\fK w r K d t 0 0 0 ⟨#[]⟩ ⟨#[]⟩/\kH w n 0)\/
 (k=1/\t.size≠0/\fK w r K d t 1 0 (bV t 0 0) ⟨#[]⟩ ⟨#[]⟩/\kH w n 0)\/
 (k=2/\t.size≠0/\cE t 1 1048576=0/\fK w r K d t (gT t 1) 0 (bV t 0 0) ⟨#[]⟩ ⟨#[]⟩/\kH w n (gN t 1:Nat))\/
 (k=3/\t.size≠0/\cE t 1 1048576=0/\e3 t (gT t 1) (gN t 1)=0/\∃e,fK w r K d t (gT t 1+gN t 1+4) 0 (bV t 0 0) (t.extract (gT t 1) (gT t 1+gN t 1)) e)\/
 (k=4/\gT t 1+gN t 1+4<=t.size/\∃e,fK w r K d t (gT t 1+gN t 1+4) 0 (bV t 0 0) (t.extract (gT t 1) (gT t 1+gN t 1)) e/\∀a,fT t a=((bV t 0 0,t.extract (gT t 1) (gT t 1+gN t 1)),((a+(gT t 1+gN t 1+4):Nat):Int),0))
def aEU(w:aS)(g d n:Nat):Prop:=w.heap[g]?=some (aK #[aD (bC 236) #[] #[aE (some ⟨d,0,none⟩)],aD (bC 238) #[] #[aE (some ⟨d,0,none⟩),aE (some ⟨n,0,none⟩)],aD (bC 240) #[] #[aE (some ⟨d,0,none⟩),aE (some ⟨n,0,none⟩)],aD (bC 241) #[] #[aE (some ⟨d,0,none⟩)]] 156 (0,0))
theorem aEU.cells{g d:Nat}(h:aEU w g d n):w.cell? (g,0)=some (aD (bC 236) #[] #[qP d 0])/\w.cell? (g,1)=some (aD (bC 238) #[] #[qP d 0,qP n 0])/\w.cell? (g,2)=some (aD (bC 240) #[] #[qP d 0,qP n 0])/\w.cell? (g,3)=some (aD (bC 241) #[] #[qP d 0]):=by unfold aEU at h;refine⟨?_,?_,?_,?_⟩<;>(unfold bH;rw[h];rfl)
theorem aG4(s:ByteArray)(a:Nat)(w:aS)(hs:s.size<=aZ)(ha:a<=s.size):
  qK 187 #[aB s,qI a] w λe w'=>e=aO (FV (fT (s.extract a s.size) a))/\aV w w w':=by
 have ba:=IZ;have d0:decide ((a:Int)<0)=false:=by simp
 have d1:decide ((s.size:Int)<a)=false:=zT;have a4:decide (s.size<a)=false:=zT;have a7:(a:Int)<=(s.size:Int):=zO;have HS:=eC hs;have OF:=eC (λW=>zM (s.extract a s.size) W);go_enter func187,ntmps187;go_upto_region 3 with fail;go_cut [7] (λs7 wx=>∃r K B:Nat,s7=qP B 0/\fK wx r K B (s.extract a s.size) 0 0 0 ⟨#[]⟩ ⟨#[]⟩/\w<r/\w<K/\w<B/\two wx w 0 ⟨#[]⟩/\aV w w wx)
 case first=>
  go_region_with(go_at_call 123;refine(OF _).mono ?_;rintro e w2⟨rfl,rfl⟩)
  all_goals go_wp2_with fail
  all_goals go_meet
  .obtain⟨h0,h1,R,X,hb⟩:=WE w (aK #[qI 0,aB ⟨#[]⟩] 75) (aK #[aB (s.extract a s.size),qI 0,qI 0] 189) (aK #[qP ((w:Nat)+1) 0,aB (s.extract a s.size),qI 0,aB ⟨#[]⟩,aB ⟨#[]⟩] 373) (aK #[qP ((w:Nat)+1+1) 0] 371);exact⟨_,_,_,rfl,⟨⟨h1⟩,R,X,zO,zO,zO⟩,zO,zO,zO,h0,hb⟩
  .obtain⟨h0,h1,R,X,hb⟩:=WE w (aK #[qI 0,aB ⟨#[]⟩] 75) (aK #[aB (s.extract a s.size),qI 0,qI 0] 189) (aK #[qP ((w:Nat)+1+1+1) 0] 371) (aK #[qP ((w:Nat)+1) 0,aB (s.extract a s.size),qI 0,aB ⟨#[]⟩,aB ⟨#[]⟩] 373);exact⟨_,_,_,rfl,⟨⟨h1⟩,X,R,zO,zO,zO⟩,zO,zO,zO,h0,hb⟩
  .obtain⟨h0,h1,R,X,hb⟩:=WE w (aK #[qI 0,aB ⟨#[]⟩] 75) (aK #[qP ((w:Nat)+1+1+1) 0] 371) (aK #[aB (s.extract a s.size),qI 0,qI 0] 189) (aK #[qP ((w:Nat)+1+1) 0,aB (s.extract a s.size),qI 0,aB ⟨#[]⟩,aB ⟨#[]⟩] 373);exact⟨_,_,_,rfl,⟨⟨R⟩,X,h1,zO,zO,zO⟩,zO,zO,zO,h0,hb⟩
 case rest=>
  obtain⟨r,K,B,rfl,hC,hr,hK,a5,R,hb⟩:=hcut;have av:fK ((wc.alloc (aK #[qI 0] 3)).alloc (aK #[aD (bC 236) #[] #[qP B 0],aD (bC 238) #[] #[qP B 0,qP wc 0],aD (bC 240) #[] #[qP B 0,qP wc 0],aD (bC 241) #[] #[qP B 0]] 156)) r K B (s.extract a s.size) 0 0 0 ⟨#[]⟩ ⟨#[]⟩:=hC.later ((fL _ _).alloc zS _);have aw:aEU ((wc.alloc (aK #[qI 0] 3)).alloc (aK #[aD (bC 236) #[] #[qP B 0],aD (bC 238) #[] #[qP B 0,qP wc 0],aD (bC 240) #[] #[qP B 0,qP wc 0],aD (bC 241) #[] #[qP B 0]] 156)) ((wc:Nat)+1) B (wc:Nat):=by have:=fG (wc.alloc (aK #[qI 0] 3)) (aK #[aD (bC 236) #[] #[qP B 0],aD (bC 238) #[] #[qP B 0,qP wc 0],aD (bC 240) #[] #[qP B 0,qP wc 0],aD (bC 241) #[] #[qP B 0]] 156);rw[fO]at this;exact this
  have ay:kH ((wc.alloc (aK #[qI 0] 3)).alloc (aK #[aD (bC 236) #[] #[qP B 0],aD (bC 238) #[] #[qP B 0,qP wc 0],aD (bC 240) #[] #[qP B 0,qP wc 0],aD (bC 241) #[] #[qP B 0]] 156)) wc 0:=(iI _ _ _ zS).trans (fG wc _);have aL:aV w w ((wc.alloc (aK #[qI 0] 3)).alloc (aK #[aD (bC 236) #[] #[qP B 0],aD (bC 238) #[] #[qP B 0,qP wc 0],aD (bC 240) #[] #[qP B 0,qP wc 0],aD (bC 241) #[] #[qP B 0]] 156)):=(hb.alloc hb.size _).alloc (by have:=hb.size;simp;omega) _;have au:two ((wc.alloc (aK #[qI 0] 3)).alloc (aK #[aD (bC 236) #[] #[qP B 0],aD (bC 238) #[] #[qP B 0,qP wc 0],aD (bC 240) #[] #[qP B 0,qP wc 0],aD (bC 241) #[] #[qP B 0]] 156)) w 0 ⟨#[]⟩:=by have hl:=(fB.1 R).1;exact(iI _ _ _ zT).trans ((iI _ _ _ hl).trans R)
  have ap:(wc:Nat)+1<((wc.alloc (aK #[qI 0] 3)).alloc (aK #[aD (bC 236) #[] #[qP B 0],aD (bC 238) #[] #[qP B 0,qP wc 0],aD (bC 240) #[] #[qP B 0,qP wc 0],aD (bC 241) #[] #[qP B 0]] 156)).heap.size:=by simp
  have nr:wc≠r:=by have:=hC.rd.lt;omega
  have nK:wc≠K:=by have:=hC.ltK;omega
  have nB:wc≠B:=by have:=hC.ltB;omega
  have lr:=hC.rd.lt;have lK:=hC.ltK;have lw:=(fB.1 R).1;have al:=eC av;have am:=eC aw;have ao:=eC ay;have ai:=eC aL;have ak:=eC au;go_wp2_with fail;generalize(wc.alloc (aK #[qI 0] 3)).alloc (aK #[aD (bC 236) #[] #[qP B 0],aD (bC 238) #[] #[qP B 0,qP wc 0],aD (bC 240) #[] #[qP B 0,qP wc 0],aD (bC 241) #[] #[qP B 0]] 156)=WL at al am ao ai ak ap|-;generalize(wc:Nat)=n at*;generalize ht:s.extract a s.size=t at*;go_loopw [37] (λi wr=>∃k:Nat,k<=4/\i=qI k/\aKx t r K B n k wr/\jO r K n WL wr) (λi _=>4-(aW i).toNat)
  case atStart=>exact⟨0,zO,rfl,.inl ⟨rfl,al,ao⟩,jO.refl _ _ _ _⟩
  case round=>
   obtain⟨k,hk,rfl,hW,hO⟩:=hrel;have a3:t.size<=aZ:=by rw[<-ht,LZ];have:=HS.out;omega
   have hF:aEU wr (n+1) B n:=(hO.block (n+1) ap zO zO zO).trans am;have R:two wr w 0 ⟨#[]⟩:=ak.read hO zO zO zO;have hB:aV w w wr:=ai.trans (hO.below zO zO zO ai.size);obtain⟨f0,f1,f2,f3⟩:=hF.cells;have ag:=eC a3;have HO:=eC hO;have HT:=eC ht;have H2:=eC R;have HB:=eC hB;obtain⟨rfl,hC,hN⟩|⟨rfl,x,hC,hN⟩|⟨rfl,x,hce,hC,hN⟩|⟨rfl,x,hce,X,tl,hC⟩|⟨rfl,a8,tl,hC,a0⟩:=hW
   .have O:=λW h=>aBO r K B K t 0 ⟨#[]⟩ ⟨#[]⟩ W h ag;by_cases x:t.size=0
    .have e1:wE t 0 1=2:=by rw[FM,eE zO]
     have e2:wrF (xM 0 2)=2:=rfl;rw[e1,e2]at O;have HV:Hid (fT t a=yU a (2)):=eC (by unfold fT;rw[eI x]);have S:=eC O;have J:=eC hC;go_wp2_with fail;refine(S _ J).mono ?_;rintro e Z⟨rfl,u,M⟩;have j:=H2.read M zO zO zO;obtain⟨c0,c1,q0,q1⟩:=j.cells;have aa:=j.store 0 ⟨#[]⟩;have U:=eC (tI (HB.trans (M.below (N:=(w:Nat)) zO zO zO HB.size)) (eX _) (qI 0) (aB ⟨#[]⟩));have f:=eC aa;go_wp2_with fail;generalize qS (qS Z (w,0) (qI 0)) (w,1) (aB ⟨#[]⟩)=W4 at U f|-;obtain⟨z0,z1,_,_⟩:=f.cells;rw[HT,HV];exact gO (v:=FV (yU a (2))) (by simp[results,results187,go_sem,FV,yU,z0,z1]) rfl ⟨rfl,U⟩
    .have e1:wE t 0 1=0:=by rw[FM,eI zO]
     have e2:wrF (xM 0 0)=0:=rfl;have e3:uF 0 0 (wT t 0 1) 0=1:=by unfold uF wT pT;rw[eI ⟨rfl,rfl⟩,eE zO,eI (zT)];rfl
     have e4:xM 0 0=0:=rfl;rw[e1,e2,e3,e4]at O;have S:=eC O;have J:=eC hC;have y:=eC hN;have HZ:=eC x;go_wp2_with fail;refine(S _ J).mono ?_;rintro e Z⟨rfl,u,M⟩;have ax:=(M.block n y.lt nr nK nK).trans y;have ab:=eC u;have ar:=eC ax;have ac:=eC M;go_wp2_with fail;go_roundw
     case rel=>exact⟨1,zO,by go_num,.inr (.inl ⟨rfl,HZ,ab,ar⟩),HO.trans ac.weak⟩
     case measure=>simp[aW]
   .have O:=λW h hn=>aBI r K B n t 1 (bV t 0 0) 0 ⟨#[]⟩ ⟨#[]⟩ W h hn nr nK nB ag zO;by_cases hce:cE t 1 1048576=0
    .rw[hce]at O;have S:=eC O;have J:=eC hC;have y:=eC hN;have HZ:=eC x;have aj:=eC hce;go_wp2_with fail;refine(S _ J y).mono ?_;rintro e Z⟨rfl,u,M⟩;have ab:=eC (u (by trivial));have ac:=eC M;go_wp2_with fail;go_roundw
     case rel=>exact⟨2,zO,by go_num,.inr (.inr (.inl ⟨rfl,HZ,aj,ab.1,ab.2⟩)),HO.trans ac⟩
     case measure=>simp[aW]
    .have y:=eC hN;have hd:((cE t 1 1048576:Int)==0)=false:=zT;have ae:Hid (fT t a=yU a (cE t 1 1048576)):=eC (by unfold fT;rw[eE x,eI hce]);generalize cE t 1 1048576=E at O hd ae;have HV:=eC (ae);have S:=eC O;have J:=eC hC;go_wp2_with fail;refine(S _ J y).mono ?_;rintro e Z⟨rfl,u,M⟩;have j:=H2.read M zO zO zO;obtain⟨c0,c1,q0,q1⟩:=j.cells;have aa:=j.store 0 ⟨#[]⟩;have U:=eC (tI (HB.trans (M.below (N:=(w:Nat)) zO zO zO HB.size)) (eX _) (qI 0) (aB ⟨#[]⟩));have f:=eC aa;go_wp2_with fail;generalize qS (qS Z (w,0) (qI 0)) (w,1) (aB ⟨#[]⟩)=W4 at U f|-;obtain⟨z0,z1,_,_⟩:=f.cells;rw[HT,HV];exact gO (v:=FV (yU a (E))) (by simp[results,results187,go_sem,FV,yU,z0,z1]) rfl ⟨rfl,U⟩
   .have ah:=(A0 t 1 zO).2.2.1;have a1:gN t 1<=1048576:=by
     rw[aCG]at hce;by_cases c:gE t 1=0/\1048576<gN t 1
     .rw[eI c]at hce;omega
     .rw[eE c]at hce;omega
    have O:=λW h hn=>aBl r K B n t (gT t 1) (bV t 0 0) (gN t 1) ⟨#[]⟩ ⟨#[]⟩ W h hn nr nK nB ag ah a1;by_cases X:e3 t (gT t 1) (gN t 1)=0
    .rw[X]at O;have S:=eC O;have J:=eC hC;have y:=eC hN;have HZ:=eC x;have aj:=eC hce;have H3:=eC X;go_wp2_with fail;refine(S _ J y).mono ?_;rintro e Z⟨rfl,u,M⟩;have ab:=eC (u (by trivial));have ac:=eC M;go_wp2_with fail;go_roundw
     case rel=>obtain⟨tl,u⟩:=ab.out;exact⟨3,zO,by go_num,.inr (.inr (.inr (.inl ⟨rfl,HZ,aj,H3,tl,u⟩))),HO.trans ac⟩
     case measure=>simp[aW]
    .have y:=eC hN;have hd:((e3 t (gT t 1) (gN t 1):Int)==0)=false:=zT;have ae:Hid (fT t a=yU a (e3 t (gT t 1) (gN t 1))):=eC (by unfold fT;rw[eE x,eE zO,eI X]);generalize e3 t (gT t 1) (gN t 1)=E at O hd ae;have HV:=eC (ae);have S:=eC O;have J:=eC hC;go_wp2_with fail;refine(S _ J y).mono ?_;rintro e Z⟨rfl,u,M⟩;have j:=H2.read M zO zO zO;obtain⟨c0,c1,q0,q1⟩:=j.cells;have aa:=j.store 0 ⟨#[]⟩;have U:=eC (tI (HB.trans (M.below (N:=(w:Nat)) zO zO zO HB.size)) (eX _) (qI 0) (aB ⟨#[]⟩));have f:=eC aa;go_wp2_with fail;generalize qS (qS Z (w,0) (qI 0)) (w,1) (aB ⟨#[]⟩)=W4 at U f|-;obtain⟨z0,z1,_,_⟩:=f.cells;rw[HT,HV];exact gO (v:=FV (yU a (E))) (by simp[results,results187,go_sem,FV,yU,z0,z1]) rfl ⟨rfl,U⟩
   .have ah:gT t 1+gN t 1+4<=t.size:=by
     unfold e3 at X;by_cases c:gT t 1+gN t 1+4<=t.size
     .exact c
     .rw[eE c]at X;cases X
    have O:=λW h=>(aB6 r K B t (gT t 1+gN t 1+4) (bV t 0 0) (t.extract (gT t 1) (gT t 1+gN t 1)) tl W h ag ah).mono (R':=λe w'=>e=aO (qI ((if kY (t.extract 0 (gT t 1+gN t 1+4)).data.toList=true then 0 else 6:Nat):Int))/\aV W W w'/\jO r K n W w') λe w'⟨h1,R⟩=>⟨h1,R,Below.three R⟩;have aq:=eC ah;by_cases hg:kY (t.extract 0 (gT t 1+gN t 1+4)).data.toList=true
    .rw[eI hg]at O;have af:Hid (∀a,fT t a=((bV t 0 0,t.extract (gT t 1) (gT t 1+gN t 1)),((a+(gT t 1+gN t 1+4):Nat):Int),0)):=eC (λa=>by
      unfold fT;rw[eE x,eE zO,eE zO,eI hg]);have S:=eC O;have J:=eC hC;go_wp2_with fail;refine(S _ J).mono ?_;rintro e Z⟨rfl,az,M⟩;have ab:=eC (J.later az);have ac:=eC M;go_wp2_with fail;go_roundw
     case rel=>exact⟨4,zO,by go_num,.inr (.inr (.inr (.inr ⟨rfl,aq,tl,ab,af⟩))),HO.trans ac⟩
     case measure=>simp[aW]
    .rw[eE hg]at O;have ae:Hid (fT t a=yU a 6):=eC (by unfold fT;rw[eE x,eE zO,eE zO,eE hg]);have HV:=eC (ae);have S:=eC O;have J:=eC hC;go_wp2_with fail;refine(S _ J).mono ?_;rintro e Z⟨rfl,u,M⟩;have j:=H2.read M zO zO zO;obtain⟨c0,c1,q0,q1⟩:=j.cells;have aa:=j.store 0 ⟨#[]⟩;have U:=eC (tI (HB.trans (M.below (N:=(w:Nat)) zO zO zO HB.size)) (eX _) (qI 0) (aB ⟨#[]⟩));have f:=eC aa;go_wp2_with fail;generalize qS (qS Z (w,0) (qI 0)) (w,1) (aB ⟨#[]⟩)=W4 at U f|-;obtain⟨z0,z1,_,_⟩:=f.cells;rw[HT,HV];exact gO (v:=FV (yU a (6))) (by simp[results,results187,go_sem,FV,yU,z0,z1]) rfl ⟨rfl,U⟩
   .have c2:=hC.k2;have c3:=hC.k3;have b0:=hC.b0;have k0:=hC.k0;obtain⟨c0,c1,q0,q1⟩:=H2.cells;have J:=eC hC;have af:=eC (a0 a);have CA:=eC (λW h=>PT r t (gT t 1+gN t 1+4) 0 W h);have a2:aP.wrap ((a:Int)+((gT t 1+gN t 1+4:Nat):Int))=((a+(gT t 1+gN t 1+4):Nat):Int):=by
     have h1:t.size=s.size-a:=by rw[<-HT,LZ];omega
     have R:=HS.out;unfold aZ at R;rw[Int.natCast_add a];exact IntWalk.i64_in _ zO
    generalize gT t 1+gN t 1+4=A at J CA af a2;generalize t.extract (gT t 1) (gT t 1+gN t 1)=D at J af c3;generalize bV t 0 0=Y at J af c2;have a6:=J.out;have gr:w≠r:=zO;have gK:w≠K:=zO;have gB:w≠B:=zO;have l0:∀w',fK w' r K B t A 0 Y D tl->qC w' B 0 (qP K 0):=λ_ h=>h.b0;have l1:∀w',fK w' r K B t A 0 Y D tl->qC w' K 0 (qP r 0):=λ_ h=>h.k0;have l2:∀w',fK w' r K B t A 0 Y D tl->qC w' K 2 (qI Y):=λ_ h=>h.k2;have l3:∀w',fK w' r K B t A 0 Y D tl->qC w' K 3 (aB D):=λ_ h=>h.k3;have aa:=eC (H2.store Y D);have U:=eC (tI HB (eX _) (qI Y) (aB D));go_wp2_with fail;go_region_held3(λw'=>fK w' r K B t A 0 Y D tl) (first|assumption|exact fK.drewN zA 1|exact fK.setG (fK.setG zA gr gK gB) gr gK gB)
     ((go_at_call 239;refine(CA _ (fK.rd zA)).mono ?_;rintro e Z⟨rfl,rfl⟩))
    all_goals go_wp2_with fail
    generalize qS (qS wr (w,0) (qI Y)) (w,1) (aB D)=W4 at aa U|-;obtain⟨z0,z1,_,_⟩:=aa.cells;rw[HT,af];exact gO (v:=FV ((Y,D),((a+A:Nat):Int),0)) (by simp[results,results187,go_sem,FV,z0,z1]) rfl ⟨rfl,U.drew⟩
theorem aDe(s:ByteArray)(a:Int)(w:aS)(O:s.size<=aZ)(N:a<0\/(s.size:Int)<a):
  qK 187 #[aB s,qI a] w (Rt (FV (yU a 1)) w):=by
 unfold aZ at O;have D:=eC (show two (w.alloc (aK #[qI 0,aB ⟨#[]⟩] 75)) w 0 ⟨#[]⟩from fG w _);have B:=eC ((iL _ w).alloc (eX _) (aK #[qI 0,aB ⟨#[]⟩] 75));by_cases h:a<0
 .have d0:decide (a<0)=true:=zT;clear N;go_enter func187,ntmps187;go_wp2_with fail;generalize w.alloc (aK #[qI 0,aB ⟨#[]⟩] 75)=W4 at D B|-;obtain⟨J,M,_,_⟩:=D.cells;exact gO (v:=FV (yU a 1)) (by simp[results,results187,go_sem,FV,yU,J,M]) rfl ⟨rfl,B⟩
 .have d0:decide (a<0)=false:=zT;have d1:decide ((s.size:Int)<a)=true:=zT;clear N h;go_enter func187,ntmps187;go_wp2_with fail;generalize w.alloc (aK #[qI 0,aB ⟨#[]⟩] 75)=W4 at D B|-;obtain⟨J,M,_,_⟩:=D.cells;exact gO (v:=FV (yU a 1)) (by simp[results,results187,go_sem,FV,yU,J,M]) rfl ⟨rfl,B⟩
theorem aDy(s:ByteArray)(a:Int)(w:aS)(d:s.size<=aZ):
  qK 187 #[aB s,qI a] w (Rt (FV (vA s a)) w):=by
 by_cases h:a<0\/(s.size:Int)<a
 .have:=aDe s a w d h;have e:vA s a=yU a 1:=by unfold vA;rw[eI h]
  rw[e];exact this
 .obtain⟨n,rfl⟩:=qJ (show 0<=a from zO);have:=aG4 s n w d zO;rw[aKh s n zO]at this;exact this
theorem aCV(n:Int):IntKind.u8.wrap n=((bI (n%256).toNat).toNat:Int):=by rw[cK,pL zO];omega
theorem gM{d:List UInt8}{e:Ending}(f:aV n u w)(g:n<=w)(hw:fY w n p v l)(h:sL n p v d w e w'):e=aO (qP p 0)/\aV n u w'/\n<=w'/\∃i,fY w' n p i d:=
 ⟨h.1,f.trans (h.2.choose_spec.2.1.below hw),fA g h.2.choose_spec.2.1.size,_,h.2.choose_spec.1⟩
theorem fY.fresh(V:aS)(n:Nat)(d:V=n):fY (V.alloc (aK #[qN] 175)).drew n n qN []/\n<=(V.alloc (aK #[qN] 175)).drew.heap.size:=by subst d;exact⟨fY.new V.drew V (eX _),by rw[World.size_drew,fO];omega⟩
theorem SD(B:Int)(d:ByteArray)(w:aS)(hd:d.size<=1000000000):
  qK 167 #[.agg #[qI B,aB d]] w (Rt (aB (eH (iN B d))) w):=by
 have N:jG d.size:=by unfold jG;omega
 have ac:bK.wrap (d.size:Int)=(d.size:Int):=by rw[sU];omega
 have O:=aCV B;have R:B%256=((bI (B%256).toNat).toNat:Int):=by rw[<-O,cK]
 obtain⟨q,hq⟩:=eR (bI (B%256).toNat);have U:=eC (show iN B d=[]++[q]++eK d.size by unfold iN;rw[hq];rfl);rw[hq]at O R;rw[U];change Hid _ at N R;clear hq;go_enter func167,ntmps167;go_wp2_with fail;have S:(w.alloc (aK #[qI B,d] 75)).heap.size=w+1:=by simp
 have W:∀w',aV ((w:Nat)+1) (w.alloc (aK #[qI B,d] 75)) w'->qC w' w 0 (qI B):=λw' h=>(h.cell (p:=(w,0)) zS).trans zS;have X:∀w',aV ((w:Nat)+1) (w.alloc (aK #[qI B,d] 75)) w'->qC w' w 1 (aB d):=λw' h=>(h.cell (p:=(w,1)) zS).trans zS;have D:=eC ((iL _ w).alloc (eX _) (aK #[qI B,d] 75));generalize w.alloc (aK #[qI B,d] 75)=V at S W X D|-;have j:=iL ((w:Nat)+1) V;go_region_held3(λw'=>aV ((w:Nat)+1) V w') (first|assumption|go_grown)
  (first|(go_at_call 39;refine(pJ _).mono ?_;rintro e w2⟨rfl,rfl⟩;obtain⟨J,y⟩:=fY.fresh V _ S)|(go_at_call 40;refine(qD _ _ _ _ q _ J zS).mono ?_;rintro e w3 Z;obtain⟨rfl,u,aa,v3,M⟩:=gM zG zA J Z)|(go_at_call 44;refine(lS _ _ _ _ d.size _ M N zS).mono ?_;rintro e w4 f;obtain⟨rfl,x,ab,v4,Y⟩:=gM zG zA M f)|(go_at_call 42;refine(mE _ _ _ _ _ Y).mono ?_;rintro e w5⟨rfl,rfl⟩))
 all_goals go_wp2_with fail
 all_goals go_ret
 all_goals exact⟨rfl,D.trans (Below.mono zA (sA _))⟩
theorem aCp{V d e:aS}(h:aV n V d/\n<=d)(f:Bl d e):aV n V e/\n<=e:=⟨h.1.trans (f.mono h.2),fA h.2 f.size⟩
theorem aJV{e:Int}(h:fE e d=0):eH (iN e d)++d++rS (gQ (eH (iN e d)++d).data.toList)=fS e d:=by unfold fS;rw[eI h];apply sS;rw[rX,rX,LG,oR];rfl
theorem aKP{e:ByteArray}{d:Nat}(f:s=e)(g:b=d):aO (aF #[aB s,qI (b:Int)])=aO (aF #[aB e,qI (d:Int)]):=by rw[f,g]
theorem aEm(B:Int)(d:ByteArray)(w:aS)(hd:d.size<=9223372036854775807):
  qK 103 #[.agg #[qI B,aB d]] w (Rt (aF #[aB (fS B d),qI (fE B d:Nat)]) w):=by
 have M:=eC ((iL _ w).alloc (eX _) (aK #[qI B,d] 75));by_cases N:B<0
 .have D:fE B d=1:=by unfold fE;rw[eI (.inl N)]
  have J:fS B d=⟨#[]⟩:=by unfold fS;rw[D];rfl
  rw[D,J];have d0:decide (B<0)=true:=zT;clear D J;go_enter func103,ntmps103;go_wp2_with fail;go_ret2;exact⟨rfl,M⟩
 have d0:decide (B<0)=false:=zT;by_cases h2:255<B
 .have D:fE B d=1:=by unfold fE;rw[eI (.inr h2)]
  have J:fS B d=⟨#[]⟩:=by unfold fS;rw[D];rfl
  rw[D,J];have d1:decide (255<B)=true:=zT;clear D J;go_enter func103,ntmps103;go_wp2_with fail;go_ret2;exact⟨rfl,M⟩
 have d1:decide (255<B)=false:=zT;by_cases h3:1048576<d.size
 .have D:fE B d=4:=by unfold fE;rw[eE zO,eI h3]
  have J:fS B d=⟨#[]⟩:=by unfold fS;rw[D];rfl
  rw[D,J];have d2:decide ((1048576:Int)<d.size)=true:=zT;clear D J;go_enter func103,ntmps103;go_wp2_with fail;go_ret2;exact⟨rfl,M⟩
 have d2:decide ((1048576:Int)<d.size)=false:=zT;have D:fE B d=0:=by unfold fE;rw[eE zO,eE zO]
 have O:=eC (aJV D);have X:=eC (λW=>SD B d W zO);have u:=OW B d;have x:(iF d.size).size<=10:=by rw[oV];exact tP zO
 have S:(eH (iN B d)).size+d.size<=9223372036854775807:=by rw[jT];omega
 have R:=eC (λW=>K8 (eH (iN B d)++d) W (by rw[dO];exact S));have Z:(rS (gQ (eH (iN B d)++d).data.toList)).size=4:=rfl;have U:(eH (iN B d)++d).size+(rS (gQ (eH (iN B d)++d).data.toList)).size<=9223372036854775807:=by rw[dO,jT,Z];omega
 rw[D];clear N h2 h3 u x D Z;generalize eH (iN B d)=hd at O X S R U;generalize rS (gQ (hd++d).data.toList)=tl at O R U;have f:∀w',aV ((w:Nat)+1) (w.alloc (aK #[qI B,d] 75)) w'->qC w' w 0 (qI B):=λw' h=>(h.cell (p:=(w,0)) zS).trans zS;have N:∀w',aV ((w:Nat)+1) (w.alloc (aK #[qI B,d] 75)) w'->qC w' w 1 (aB d):=λw' h=>(h.cell (p:=(w,1)) zS).trans zS;have y:(w.alloc (aK #[qI B,d] 75)).heap.size=w+1:=by simp
 go_enter func103,ntmps103;go_wp2_with fail;generalize w.alloc (aK #[qI B,d] 75)=V at y f N M|-;have aa:=iL ((w:Nat)+1) V;have ra:=λW=>run_string_add_sum (P:=prog) W hd d S;have rb:=λW=>run_string_add_sum (P:=prog) W (hd++d) tl U;go_region_held3(λw'=>aV ((w:Nat)+1) V w') (first|assumption|go_grown)
  (first|(go_at_call 167;refine(X _).mono ?_;rintro e w2⟨rfl,Y⟩;obtain⟨ab,ac⟩:=aCp ⟨zG,(by first|assumption|(simp only[World.size_drew];omega))⟩ Y;clear Y))
 all_goals go_wp2_with fail
 all_goals refine(R _).mono ?_
 all_goals rintro e w3⟨rfl,j⟩
 all_goals go_wp2_with fail
 all_goals go_ret2
 all_goals exact⟨aKP O rfl,M.trans (Below.mono (aCp ⟨zA,zA⟩ j).1 (sA _))⟩
abbrev jJ:=Int×ByteArray
def xJ(L:List jJ):Nat:=(L.map λx=>x.2.size).sum
def jP(x:jJ):Nat:=(iN x.1 x.2).length+x.2.size+4
def jB(L:List jJ):Nat:=(L.map jP).sum
theorem sG(x:jJ)(L:List jJ):jB (x::L)=jP x+jB L:=by simp[jB]
theorem JZ(L M:List jJ):jB (L++M)=jB L+jB M:=by simp[jB]
def PN(n:Int):Nat:=(n%18446744073709551616).toNat
def iO:Nat->List jJ->List (Nat×jJ)
 |_,[]=>[]
 |a,x::L=>(a,x)::iO (a+jP x) L
def FI(p:Nat×jJ):List UInt8:=eK (PN p.2.1)++eK p.1++eK (jP p.2)
def lG(L:List jJ):List UInt8:=eK L.length++((iO 7 L).map FI).flatten
def aAx(L:List jJ):Nat:=7+jB L
def UC:List UInt8:=[69,78,68,46]
def jI:List UInt8:=[77,85,84,65,82,67,1]
def i9(L:List jJ):List UInt8:=lG L++gQ (lG L)++lF (aAx L)++UC
def fW(L:List jJ):List UInt8:=(L.map λx=>iM x.1 x.2).flatten
def p9(L:List jJ):List UInt8:=jI++fW L++i9 L
def mF:Int->List jJ->Bool
 |_,[]=>true
 |p,x::L=>decide (p<x.1)&&(decide (x.1<=255)&&mF x.1 L)
def BT(L:List jJ):Bool:=mF 0 L&&(decide (1<=L.length)&&decide (L.length<=16))
theorem F9(a:Nat)(L:List jJ):(iO a L).length=L.length:=by
 induction L generalizing a with
 |nil=>rfl
 |cons x L ih=>simp[iO,ih]
theorem XY(a:Nat)(L:List jJ)(k:Nat){x:jJ}(h:L[k]?=some x):(iO a L)[k]?=some (a+jB (L.take k),x):=by
 induction L generalizing a k with
 |nil=>simp at h
 |cons y L ih=>
  cases k with
  |zero=>simp at h;subst h;simp[iO,jB]
  |succ k=>have:=ih (a+jP y) k (by simpa using h);rw[iO,cH,this,List.take_succ_cons,sG,Nat.add_assoc]
theorem GM(x:jJ):(iM x.1 x.2).length=jP x:=BW ..
theorem tY(L:List jJ):(fW L).length=jB L:=by
 induction L with
 |nil=>rfl
 |cons x L ih=>
  have:fW (x::L)=iM x.1 x.2++fW L:=by simp[fW]
  rw[this,iR,ih,sG,GM]
theorem DM(x:jJ)(L:List jJ):fW (x::L)=iM x.1 x.2++fW L:=by simp[fW]
theorem RK(L M:List jJ):fW (L++M)=fW L++fW M:=by simp[fW]
theorem XL{p:Int}{L:List jJ}(h:mF p L=true):∀x∈L,p<x.1/\x.1<=255:=by
 induction L generalizing p with
 |nil=>intro x d;cases d
 |cons y L ih=>
  simp only[mF,BV,AX]at h;intro x d;obtain rfl|d:=xD.1 d
  .exact⟨h.1,h.2.1⟩
  .have:=ih h.2.2 x d;exact⟨zO,this.2⟩
theorem PW{L:List jJ}(h:BT L=true):(∀x∈L,0<x.1/\x.1<=255)/\1<=L.length/\L.length<=16:=by simp only[BT,BV,AX]at h;exact⟨XL h.1,h.2.1,h.2.2⟩
theorem D8{L:List jJ}{x:jJ}(h:x∈L):x.2.size<=xJ L:=by
 induction L with
 |nil=>cases h
 |cons y L ih=>
  have e:xJ (y::L)=y.2.size+xJ L:=by simp[xJ]
  obtain rfl|h:=xD.1 h
  .omega
  .have:=ih h;omega
theorem aCQ{x:jJ}(h:x.2.size<=1000000000):jP x<=15+x.2.size:=by unfold jP iN;have:=eU (m:=x.2.size) (by unfold jG;omega);simp only[iW];omega
theorem Y7{L:List jJ}(h:∀x∈L,x.2.size<=1000000000):jB L<=15*L.length+xJ L:=by
 induction L with
 |nil=>simp[jB]
 |cons y L ih=>
  have e:xJ (y::L)=y.2.size+xJ L:=by simp[xJ]
  have:=ih λx d=>h x (BP _ d);have:=aCQ (h y (DZ ..));rw[sG,e,iW];omega
theorem jK(L:List jJ):xJ L+5*L.length<=jB L:=by
 induction L with
 |nil=>simp[xJ,jB]
 |cons y L ih=>
  have e:xJ (y::L)=y.2.size+xJ L:=by simp[xJ]
  have d:y.2.size+5<=jP y:=by unfold jP iN;simp only[iW];omega
  rw[sG,e,iW];omega
theorem SN(n:Int):jG (PN n):=by unfold jG PN;omega
theorem aCZ{p:Nat×jJ}(g:p.1<=1000000000)(h:jP p.2<=1000000000):(FI p).length<=30:=by unfold FI;have d:=eU (SN p.2.1);have e:=eU (m:=p.1) (by unfold jG;omega);have f:=eU (m:=jP p.2) (by unfold jG;omega);simp only[iR];omega
theorem BR{L:List jJ}:∀p∈iO a L,p.1+jP p.2<=a+jB L:=by
 induction L generalizing a with
 |nil=>intro p d;cases d
 |cons x L ih=>
  intro p d;rw[sG];obtain rfl|d:=xD.1 d
  .simp only;omega
  .have:=ih p d;omega
theorem aGz(M:List (Nat×jJ))(h:∀p∈M,(FI p).length<=30):(M.map FI).flatten.length<=30*M.length:=by
 induction M with
 |nil=>simp
 |cons p M ih=>have:=ih λq hq=>h q (BP _ hq);have:=h p (DZ ..);simp only[List.map_cons,L3,iR,iW];omega
theorem ZT{L:List jJ}(j:jB L<=100000000){d:List (Nat×jJ)}(h:d<+:iO 7 L):(eK L.length++(d.map FI).flatten).length<=10+30*L.length:=by
 have hd:=jK L;have g:=eU (m:=L.length) (by unfold jG;omega);have i:=aGz d λp f=>by have:=BR p (h.subset f);exact aCZ zO zO
 have e:=h.length_le;rw[F9]at e;simp only[iR];omega
theorem KF{L:List jJ}(d:jB L<=100000000):(lG L).length<=10+30*L.length:=ZT d (List.prefix_refl _)
theorem yJ(L:List jJ):(i9 L).length=(lG L).length+12:=by unfold i9;simp only[iR,m9];rfl
theorem vM(L:List jJ):(p9 L).length=7+jB L+((lG L).length+12):=by unfold p9;rw[iR,iR,tY,yJ];rfl
def mI(S:ByteArray):Nat->Nat->Option (List jJ)
 |0,_=>some []
 |k+1,p=>if S.size<=p then some []else if(vA S p).2.2=0 then(mI S k (vA S p).2.1.toNat).map (((vA S p).1.1,(vA S p).1.2)::·)else none
def AT(s:ByteArray)(p:Nat):Nat:=lO s p+256*lO s (p+1)+65536*lO s (p+2)+16777216*lO s (p+3)
def cOk(s:ByteArray):Bool:=decide (15<=s.size)&&(decide (s.extract 0 7=eH jI)&&decide (s.extract (s.size-4) s.size=eH UC))
def oX(s:ByteArray):List jJ×Nat:=
 if cOk s=true then
  if 7<=AT s (s.size-8)/\AT s (s.size-8)<=s.size-8 then
   match mI (s.extract 0 (AT s (s.size-8))) s.size 7 with
   |none=>([],8)
   |some L=>if BT L=true then(if s.extract (AT s (s.size-8)) s.size=eH (i9 L)then(L,0)else([],9))else([],20)
  else([],9)
 else([],7)
theorem WZ{P:ByteArray}{x:jJ}{R:List UInt8}(d:fE x.1 x.2=0)(k:Nat):mI (P++eH (iM x.1 x.2++R)) (k+1) P.size=(mI (P++eH (iM x.1 x.2++R)) k (P.size+(iM x.1 x.2).length)).map (x::·):=by
 have h:=aBV d P (eH R);have e:P++eH (iM x.1 x.2)++eH R=P++eH (iM x.1 x.2++R):=by apply sS;rw[rX,rX,rX,oR,oR,oR,jH]
 rw[e]at h;have f:=aHH d;have g:0<(iM x.1 x.2).length:=by rw[BW];omega
 have i:(P++eH (iM x.1 x.2++R)).size=P.size+((iM x.1 x.2).length+R.length):=by rw[dO,jT,iR]
 rw[mI,eE zO,h];simp only[eI];rw[xC,show((x.1.toNat:Nat):Int)=x.1 by omega]
theorem VN(L:List jJ)(d:∀x∈L,fE x.1 x.2=0):∀(P:ByteArray)(k:Nat),(fW L).length<=k->mI (P++eH (fW L)) k P.size=some L:=by
 induction L with
 |nil=>
  intro P k _;have n:(P++eH (fW [])).size=P.size:=by rw[dO];rfl
  cases k with
  |zero=>rfl
  |succ k=>rw[mI,eI zO]
 |cons x L ih=>
  intro P k f;have g:=d x (DZ ..);rw[DM,iR]at f;have m:0<(iM x.1 x.2).length:=by rw[BW];omega
  obtain⟨k,rfl⟩:∃j,k=j+1:=⟨k-1,zO⟩;rw[DM,WZ g];have h:=ih (λy i=>d y (BP _ i)) (P++eH (iM x.1 x.2)) k zO;have e:P++eH (iM x.1 x.2)++eH (fW L)=P++eH (iM x.1 x.2++fW L):=by apply sS;rw[rX,rX,rX,oR,oR,oR,jH]
  rw[e,dO,jT]at h;rw[h];rfl
theorem XT{B:List UInt8}(k:n<4294967296)(h:s.data.toList=A++(lF n++B)):AT s A.length=n:=by
 have e:∀i,i<4->lO s (A.length+i)=((lF n)[i]?.getD 0).toNat:=by intro i j;unfold lO;rw[h,vT,CQ zO,Nat.add_sub_cancel_left,FU (by rw[DC];exact j)]
 have d:=e 0 zO;have f:=e 1 zO;have g:=e 2 zO;have e3:=e 3 zO;simp only[lF,aIJ,cH,cN,yZ]at d f g e3;rw[pL zO]at d f g e3;unfold AT;rw[d,f,g,e3];omega
theorem ZK{L:List jJ}(h:BT L=true)(g:xJ L<=1048576):∀x∈L,fE x.1 x.2=0:=by intro x d;have e:=(PW h).1 x d;have f:=D8 d;unfold fE;rw[eE zO,eE zO]
theorem aJP{F:List UInt8}{L:List jJ}(i:s=eH (jI++F++i9 L))(hF:F.length=jB L)(k:jB L<=4000000000):
  cOk s=true/\AT s (s.size-8)=7+F.length/\(7<=AT s (s.size-8)/\AT s (s.size-8)<=s.size-8)/\s.extract 0 (7+F.length)=eH jI++eH F/\s.extract (7+F.length) s.size=eH (i9 L):=by
 have g:=yJ L;have d:jI.length=7:=rfl;have j:UC.length=4:=rfl;have f:s.data.toList=jI++F++i9 L:=by rw[i];rfl
 have m:s.size=7+F.length+((lG L).length+12):=by rw[i,jT,iR,iR,g,d]
 have h:AT s (s.size-8)=7+F.length:=by
  have e:s.data.toList=(jI++F++(lG L++gQ (lG L)))++(lF (aAx L)++UC):=by rw[f];unfold i9;simp only[jH]
  have:=XT (n:=aAx L) (by unfold aAx;omega) e;rw[show(jI++F++(lG L++gQ (lG L))).length=s.size-8 by simp only[iR,m9,d];omega]at this;rw[this];unfold aAx;omega
 refine⟨?_,h,by rw[h];omega,?_,?_⟩
 .unfold cOk;rw[BV,BV,AX,AX,AX];refine⟨zO,?_,?_⟩
  .exact ER (p:=[]) (r:=F++i9 L) (by rw[f];simp only[uS,jH]) rfl (by rw[d])
  .refine ER (p:=jI++F++(lG L++gQ (lG L)++lF (aAx L))) (r:=[]) ?_ ?_ ?_
   .rw[f];unfold i9;simp only[jH,EL]
   .simp only[iR,m9,DC,d];omega
   .rw[j];omega
 .apply sS;rw[BB,f,List.drop_zero,rX,oR,oR,Nat.sub_zero];exact dM (by rw[iR,d])
 .exact ER (p:=jI++F) (r:=[]) (by rw[f,EL]) (by rw[iR,d]) (by rw[g];omega)
theorem X4{L:List jJ}(h:BT L=true)(n:xJ L<=1048576):oX (eH (p9 L))=(L,0):=by
 have m:=ZK h n;have k:jB L<=4000000000:=by
  have:=Y7 (L:=L) λx q=>by have:=D8 q;omega
  have:=(PW h).2.2;omega
 obtain⟨e,f,g,i,j⟩:=aJP (F:=fW L) (L:=L) rfl (tY L) k;have d:=VN L m (eH jI) (eH (p9 L)).size (by rw[jT,vM,tY];omega);rw[show(eH jI).size=7 from rfl,<-i]at d;unfold p9 at d|-;unfold oX;rw[eI e,eI g,f,d];simp only;rw[eI h,eI j]
def mP(w:aS)(a:Option Addr)(L:List jJ):Prop:=L=[]\/∃b d,a=some ⟨b,d,none⟩/\b<(w:Nat)/\∀i x,L[i]?=some x->w.cell? ⟨b,d+i*2,none⟩=some (aC aP x.1)/\w.cell? ⟨b,d+i*2+1,none⟩=some (aB x.2)
theorem mP.below{a:Option Addr}{L:List jJ}(h:mP w a L)(d:aV n w w')(j:w<=n):mP w' a L:=by
 obtain h|⟨b,off,rfl,hlt,h⟩:=h
 .exact .inl h
 .refine .inr ⟨b,off,rfl,gV hlt d.size,λi x g=>?_⟩;obtain⟨e,f⟩:=h i x g;exact⟨(d.cell (p:=(b,off+i*2)) (by show b<n;omega)).trans e,(d.cell (p:=(b,off+i*2+1)) (by show b<n;omega)).trans f⟩
theorem mP.later{a:Option Addr}{L:List jJ}(h:mP w a L)(d:Bl w w'):mP w' a L:=h.below d (eX _)
theorem mP.at{w:aS}{a:Option Addr}{L:List jJ}(h:mP w a L){i:Nat}{x:jJ}(e:L[i]?=some x):∃b d,a=some ⟨b,d,none⟩/\b<(w:Nat)/\w.cell? (qP b (d+i*2))=some (qI x.1)/\w.cell? (qP b (d+i*2+1))=some (aB x.2):=by
 obtain rfl|⟨b,d,rfl,hlt,h⟩:=h
 .simp at e
 .obtain⟨f,g⟩:=h i x e;exact⟨b,d,rfl,hlt,f,g⟩
theorem US{α:Type}{A:List α}(h:k<A.length):∃x,A[k]?=some x:=⟨A[k],lJ h⟩
def FX(x:jJ):aT:=.agg #[aC aP x.1,aB x.2]
theorem sC(e:Int)(w:aS):qK 99 #[.bool true,qI e] w λr w'=>r=aO (aF #[])/\w=w':=by go_enter func99,ntmps99;go_wp2;go_end0;exact⟨rfl,rfl⟩
theorem zX(x:jJ)(w:aS)(hd:x.2.size<=1000000000):
  qK 102 #[FX x] w (Rt (qI (jP x:Nat)) w):=by
 obtain⟨B,d⟩:=x;have N:=eC (λW=>SD B d W hd);have U:=eU (m:=d.size) (by unfold jG;simp only at hd;omega);have S:(iN B d).length<=11:=by unfold iN;simp only[iW];omega
 have O:=eC (show jP (B,d)=(eH (iN B d)).size+d.size+4 from rfl);have X:(eH (iN B d)).size<=11:=S;simp only at hd;generalize eH (iN B d)=H at N O X;unfold FX;simp only;clear U S;go_enter func102,ntmps102;go_wp2_with fail;have D:=fG w (aK #[qI B,d] 75);have J:Bl w (w.alloc (aK #[qI B,d] 75)):=fL w _;have M:(w:Nat)<(w.alloc (aK #[qI B,d] 75)).heap.size:=by simp
 generalize w.alloc (aK #[qI B,d] 75)=V at D J M|-;have u:∀w',Bl V w'->qC w' w 0 (qI B):=λw' h=>(h.cell (p:=(w,0)) M).trans (by unfold bH;rw[D];rfl);have y:∀w',Bl V w'->qC w' w 1 (aB d):=λw' h=>(h.cell (p:=(w,1)) M).trans (by unfold bH;rw[D];rfl);have Y:=iL V V;have j:aP.wrap (aP.wrap ((H.size:Int)+(d.size:Int))+4)=((H.size+d.size+4:Nat):Int):=by rw[iA,iA];omega
 change Hid _ at J;clear D;go_region_held3(λw'=>Bl V w') (first|assumption|go_grown) ((go_at_call 167;refine(N _).mono ?_;rintro e w2⟨rfl,R⟩;obtain⟨Z,f⟩:=UR zG R;clear R));go_wp2_with fail;go_ret;exact⟨congrArg (λx=>aO (qI x)) (by rw[O];omega),J.trans (Below.mono zA J.size)⟩
theorem QQ(L:List jJ)(k:Nat){x:jJ}(h:L[k]?=some x)(p:Int):mF p (L.drop k)=(decide (p<x.1)&&(decide (x.1<=255)&&mF x.1 (L.drop (k+1)))):=by obtain⟨d,he⟩:=gX.1 h;rw[tL d,he];rfl
theorem aAC(w:aS)(x:jJ):(w.alloc (aK #[qI x.1,aB x.2] 75)).cell? (w,0)=some (qI x.1)/\(w.alloc (aK #[qI x.1,aB x.2] 75)).cell? (w,1)=some (aB x.2):=by have d:=fG w (aK #[qI x.1,x.2] 75);unfold bH;rw[d];exact⟨rfl,rfl⟩
theorem GG(Y:Option Addr)(c:Nat)(L:List jJ)(w:aS)(W:mP w Y L)(hm:L.length<=aZ):
  qK 100 #[aA Y L.length c] w (Rt (.bool (BT L)) w):=by
 have Z:=eC W;have N:=eC (show BT L=(mF 0 L&&(decide (1<=L.length)&&decide (L.length<=16)))from rfl);have f:=eC (λk x h p=>QQ L k (x:=x) h p);have j:=eC (show mF 0 L=mF 0 (L.drop 0) by rw[List.drop_zero]);have S:=eC (λp=>show mF p (L.drop L.length)=true by rw[List.drop_length];rfl);have R:=eC (λk(h:k<L.length)=>US (A:=L) h);generalize L.length=n at hm N S R|-;generalize BT L=r at N|-;have hn:n<=9223372036854775807:=hm;clear W hm;go_enter func100,ntmps100;go_wp2_with fail;go_loopw [3,8] (λl i wr=>∃(k:Nat)(p:Int),k<=n/\i=qI k/\l=qI p/\mF 0 L=mF p (L.drop k)/\Bl w wr) (λ_ i _=>n-(aW i).toNat)
 case atStart=>exact⟨0,0,zO,rfl,rfl,j,iL _ _⟩
 case round=>
  obtain⟨k,p,hk,rfl,rfl,J,U⟩:=hrel;have O:=eC J;have D:=eC U;clear J U;by_cases hlt:k<n
  .obtain⟨x,X⟩:=R k hlt;obtain⟨b,ab,hp,aa,u,y⟩:=(Z.later D).at X;have J:=f k x X;obtain⟨M,d⟩:=x;simp only at u y J;subst hp;have HT:=eC (aAC wr (M,d));by_cases h1:p<M
   .have d1:decide (M<=p)=false:=zT;by_cases h2:M<=255
    .have d2:decide (M>255)=false:=zT;have B:=eC (show mF 0 L=mF M (L.drop (k+1)) by rw[O,J,uW h1,uW h2];rfl);clear J O;go_wp2_with fail;go_roundw
     case rel=>exact⟨k+1,M,zO,by go_num,rfl,B,D.alloc D.size _⟩
     case measure=>simp[aW];omega
    .have d2:decide (M>255)=true:=zT;have B:=eC (show r=false by rw[N,O,J,BQ h2];simp);clear J O;go_wp2_with fail;go_ret;exact⟨by rw[B];rfl,D.alloc D.size _⟩
   .have d1:decide (M<=p)=true:=zT;have B:=eC (show r=false by rw[N,O,J,BQ h1];simp);clear J O;go_wp2_with fail;go_ret;exact⟨by rw[B];rfl,D.alloc D.size _⟩
  .obtain rfl:k=n:=zO;by_cases h1:1<=k
   .by_cases h2:k<=16
    .have B:=eC (show r=true by rw[N,O,S,uW h1,uW h2];rfl);have d1:decide ((k:Int)>=1)=true:=zT;have d2:decide ((k:Int)<=16)=true:=zT;go_wp2_with fail;go_ret;exact⟨by rw[B];rfl,D⟩
    .have B:=eC (show r=false by rw[N,BQ h2];simp);have d1:decide ((k:Int)>=1)=true:=zT;have d2:decide ((k:Int)<=16)=false:=zT;go_wp2_with fail;go_ret;exact⟨by rw[B];rfl,D⟩
   .have B:=eC (show r=false by rw[N,BQ h1];simp);have d1:decide ((k:Int)>=1)=false:=zT;go_wp2_with fail;go_ret;exact⟨by rw[B];rfl,D⟩
theorem FT{α:Type}{l:List α}{x:α}(h:l[j]?=some x):l.take (j+1)=l.take j++[x]:=by obtain⟨aa,he⟩:=gX.1 h;rw[TN aa,he]
theorem ND{L:List jJ}{x:jJ}(h:L[k]?=some x):jB (L.take (k+1))=jB (L.take k)+jP x:=by rw[FT h,JZ];simp[jB]
theorem vR(L:List jJ)(k:Nat):jB (L.take k)<=jB L:=by have:=congrArg jB (xH k L);rw[JZ]at this;omega
section
attribute [local go_sem] Oper.semAt_some
def YK(p:Nat×jJ):Array aT:=#[aC aP p.1,FX p.2]
theorem DT(L:List jJ){x:jJ}(h:L[k]?=some x):(iO 7 L).take (k+1)=(iO 7 L).take k++[(7+jB (L.take k),x)]:=FT (XY 7 L k h)
theorem T5(L:List jJ):(iO 7 L).take L.length=iO 7 L:=by rw[nH (by rw[F9];exact eX _)]
theorem RR(L:List jJ){x:jJ}(h:L[k]?=some x):(iO 7 L).take k++[(7+jB (L.take k),x)]<+:iO 7 L:=by rw[<-DT L h];exact List.take_prefix _ _
theorem KL(n D N:Nat)(Y:Option Addr)(c:Nat)(L:List jJ)(Z w:aS)(hB:Boxed w N 69 (aA Y L.length c))(h0:Z=D)(hb:aV D Z w)(hL:mP Z Y L)(hs:jB L<=100000000):
  ZD n prog 218 D N #[qP N 0] YK (iO 7 L) w:=by
 intro l J W hW af ai aq hY ac;refine callsIn_of_wp func218 rfl trivial ?_ rfl;simp only[ntmps218,pN,Nat.reduceAdd,Nat.reduceSub];have ah:Boxed W N 69 (aA Y L.length c):=hW.2.trans hB;have hc:=ah.cell;have HL:=eC (λV(h:aV D W V)=>hL.below ((hb.trans hW.1).trans h) (uU h0));have HT:=eC (λk x h=>DT L (k:=k) (x:=x) h);have HP:=eC (λk x h=>RR L (k:=k) (x:=x) h);have f:=eC (T5 L);have HS:=eC (λk x h=>ND (L:=L) (k:=k) (x:=x) h);have HU:=eC (vR L);have HZ:=eC (λ(k:Nat)(x:jJ)(h:L[k]?=some x)=>show x.2.size<=1000000000 by
  have:=D8 (iG h)
  have:=jK L
  omega);have j:=eC (λk(h:k<L.length)=>US (A:=L) h);have hm:L.length<=100000000:=by have:=jK L;omega
 have ak:=eC af;have HY:=eC hY;have au:D<=W:=ai;generalize L.length=m at hc f j hm;clear hB h0 hb hL hW af hY ai ah;gi_wp2;gi_loopw [3,8] (λap i wr=>∃k:Nat,k<=m/\i=qI k/\ap=qI (7+jB (L.take k):Nat)/\J ((iO 7 L).take k) wr/\sF D N W wr/\D<=wr/\N<wr) (λ_ i _=>m-(aW i).toNat)
 case atStart=>exact⟨0,zO,rfl,rfl,ac,sF.refl _ _ _,au,aq⟩
 case round=>
  obtain⟨k,hk,rfl,rfl,hJ,hK,hn,ar⟩:=hrel;have u:=eC hJ;have y:=eC hK;clear hJ hK ac;by_cases hlt:k<m
  .obtain⟨x,B⟩:=j k hlt;obtain⟨b,a0,hp,ax,c0,c1⟩:=(HL wr y.1).at B;have am:=eC (HP k x B);have ao:=eC (HT k x B);have aa:=eC (HS k x B);have hu:=HU (k+1);rw[aa]at hu;have hz:=HZ k x B;obtain⟨M,d⟩:=x;simp only at c0 c1 hz;subst hp;have X:Bl wr (wr.alloc (aK #[qI M,d] 75)):=fL wr _;have hX:=HY _ _ wr (wr.alloc (aK #[qI M,d] 75)) u X am;obtain⟨fn,a1,av,aw,S,hR⟩:=hX;have HX:=eC B;have aL:jP (M,d)<=100000000:=zO;have hq:7+jB (L.take k)<=100000007:=zO;have CZ:=eC (λW=>zX (M,d) W hz);generalize jB (L.take k)=q at*;generalize jP (M,d)=z at*;unfold YK FX at S;simp only at S;rw[show((7+q:Nat):Int)=7+(q:Int) by omega]at S;clear B hu;gi_wp2;refine hR.mono ?_;rintro e O⟨rfl,ae,ag,ab⟩;have R:O.heap[(wr:Nat)]?=some (aK #[qI M,d] 75):=(ab wr (eX _) zS).trans (fG wr _);have x0:O.cell? (wr,0)=some (qI M):=by unfold bH;rw[R];rfl
   have x1:O.cell? (wr,1)=some (aB d):=by unfold bH;rw[R];rfl
   have ay:=(fB.1 R).1;have aj:=eC ae;have al:=eC ((y.trans (sF.below X hn ar)).trans ag);clear ae ag ab R X hR S;gi_wp2_with(refine⟨trivial,?_⟩;gi_at_call 102;refine(hH.2 (CZ O)).mono ?_;rintro e W4⟨rfl,U⟩);have az:=U.size;go_roundw
   case rel=>exact⟨k+1,zO,by go_num,by rw[aa];go_num,by rw[ao];exact ak _ _ _ aj U,al.trans (sF.below U zO zO),zO,zO⟩
   case measure=>simp[aW];omega
  .obtain rfl:k=m:=zO;have HF:=eC f;gi_wp2;go_end0;exact⟨⟨_,rfl⟩,by rw[<-HF];exact u⟩
theorem NT(B:Option Addr)(m c:Nat)(w:aS)(k:Nat):CallsIn Fence.wide k prog 164 #[aA B m c] w λe w'=>e=aO (aD (bC 218) #[] #[qP w 0])/\w.alloc (aK #[aA B m c] 69)=w':=by refine hH.2 ?_;go_enter func164,ntmps164;go_wp2;go_ret;exact⟨rfl,rfl⟩
end
def nV(W d:aS):Prop:=∀(k:Nat)(o:Obj),W.heap[k]?=some o->o.isCells=true->d.heap[k]?=some o
theorem nV.grown{f:aS}{j:Option Nat}(h:W.grownBy f j)(n:∀r,j=some r->∃o:Obj,W.heap[r]?=some o/\o.isCells=false):nV W f:=λk o d m=>
 (h.block k (fB.1 d).1 (λe=>by obtain⟨q,g,i⟩:=n k e.symm;rw[d]at g;cases g;rw[m]at i;cases i)).trans d
theorem nV.only{f:aS}(h:eN r W f)(j:∃q,W.heap[r]?=some (.loop q)):nV W f:=λk o d i=>
 (h.block k (fB.1 d).1 (λe=>by obtain⟨q,g⟩:=j;rw[e,g]at d;cases d;cases i)).trans d
theorem E7(h:mZ w n v l)(d:v.ownBlock=some k):∃o,w.heap[k]?=some o/\o.isCells=true:=by
 obtain⟨rfl,_⟩|⟨g,f,i,rfl,_,e,_⟩:=h.2
 .simp[bY]at d
 .simp[bY]at d;subst d;exact⟨_,e,rfl⟩
theorem fY.on{d:aS}(h:fY W n p v l)(f:nV W d):fY d n p v l:=
 ⟨h.base,f p _ h.box rfl,h.row.at λk i=>by obtain⟨o,e,g⟩:=E7 h.row i;exact(f k o e g).trans e.symm⟩
def xY(d:aS)(n:Nat)(e:aT)(l:List UInt8)(W:aS):Prop:=∃v,fY W n n v l/\Ow n e d W/\nF (d:Nat) e v
theorem xY.new{d:aS}{e:aT}(h:fY d n n e l):xY d n e l d:=⟨e,h,Ow.refl _ _ _,nF.refl _ _⟩
theorem Below.ow{d:aS}(n:Nat)(v:aT)(h:Bl W d):Ow n v W d:=⟨h.os,h.tape,h.output,h.size,λk e _ _=>h.block k e⟩
theorem xY.later{e W d:aS}{n:Nat}{i:aT}{l:List UInt8}(h:xY e n i l W)(g:Bl W d):xY e n i l d:=by obtain⟨v,j,k,f⟩:=h;exact⟨v,j.later g,k.trans f (Below.ow n v g),f⟩
theorem xY.drew{d:aS}{e:aT}(h:xY d n e l W):xY d n e l W.drew:=h.later (jX _)
theorem xY.wrote{d g:aS}{f:aT}{j:List UInt8}{e:Ending}(s:fY W n n v l)(h:Ow n f d W)(i:nF d f v)(hw:sL n n v j W e g):e=aO (qP n 0)/\xY d n f j g:=by obtain⟨he,r,k,m,q⟩:=hw;exact⟨he,r,k,h.trans i m,i.trans q h.size⟩
theorem YX{f:aS}{i:aT}(h:xY f n i l W)(m:Nat)(hm:jG m)(q:l.length<=10000000):
  qK 44 #[qP n 0,aC .u64 m] W λe d=>e=aO (qP n 0)/\xY f n i (l++eK m) d:=by obtain⟨v,g,j,k⟩:=h;exact(lS n n v l m W g hm q).mono λe d hw=>xY.wrote g j k hw
theorem aE9{f:aS}{i:aT}(h:xY f n i l W)(t:ByteArray)(m:l.length+t.size<=100000000):
  qK 119 #[qP n 0,aB t] W λe d=>e=aO (qP n 0)/\xY f n i (l++t.data.toList) d:=by obtain⟨v,g,j,k⟩:=h;exact(yI n n v l t W g m).mono λe d hw=>xY.wrote g j k hw
theorem QB{f:aS}{i:aT}(h:xY f n i l W)(b:UInt8)(m:l.length<=10000000):
  qK 40 #[qP n 0,aC .u8 b.toNat] W λe d=>e=aO (qP n 0)/\xY f n i (l++[b]) d:=by obtain⟨v,g,j,k⟩:=h;exact(qD n n v l b W g m).mono λe d hw=>xY.wrote g j k hw
theorem aHm{f:aS}{i:aT}(h:xY f n i l W):
  qK 42 #[qP n 0] W λe d=>e=aO (aB (eH l))/\W=d:=by obtain⟨v,g,j,k⟩:=h;exact mE n n v l W g
theorem xY.block{d W:aS}{n:Nat}{e:aT}{l:List UInt8}(h:xY d n e l W){k:Nat}(g:k<d)(i:k≠n)(j:some k≠e.ownBlock):W.heap[k]?=d.heap[k]?:=by obtain⟨v,m,f,q⟩:=h;exact f.block k g i j
theorem xY.size{d W:aS}{n:Nat}{f:aT}{l:List UInt8}(h:xY d n f l W):d<=(W:Nat):=by obtain⟨v,g,e,i⟩:=h;exact e.size
theorem xY.under{d:aS}{e:aT}{g:List UInt8}(h:xY d n e l W)(hw:fY d n n e g):aV n d W:=by obtain⟨v,i,f,j⟩:=h;exact f.below hw
theorem xY.others{f:aS}{m:aT}(h:xY f n m l W)(hw:fY f n n m q):KeepsOthers f W:=by
 refine⟨h.size,λk o d j=>(h.block (fB.1 d).1 (λe=>?_) λe=>?_).trans d⟩
 .rw[e,show f.heap[n]?=_ from hw.box]at d;cases d;cases j
 .obtain⟨r,g,i⟩:=E7 hw.row e.symm;rw[d]at g;cases g;rw[j]at i;cases i
section
attribute [local go_sem] Oper.semAt_some
theorem xV{l:Nat}{P:Program}{f:FuncId}{d:Array aT}{R:Ending->aS->Prop}(h:Calls P f d w R):CallsIn (Fence.wide.inRound l) n P f d w R:=(hH (n:=n)).2 h
def PE(h:aS)(n d:Nat)(e:aT)(f:List UInt8)(g:List (Nat×jJ))(W:aS):Prop:=
 (∃v,fY W n n v (f++(g.map FI).flatten))/\aV n h W/\Boxed W d 79 (aE (some ⟨n,0,none⟩))/\Boxed W (d+1) 69 e
theorem PE.own{i:aS}{B:Nat}{k:aT}(y:n<=B)(D:n=i):OwnFrom B (PE i n j k A):=by rintro s W f C⟨⟨v,m⟩,q,u,x⟩g h;have d:nV W f:=nV.grown g λr e=>(h r e).2;exact⟨⟨v,m.on d⟩,ownFrom_below (β:=Unit) zO y () W f C q g h,d _ _ u rfl,d _ _ x rfl⟩
theorem PE.later{e:aS}{n g:Nat}{i:aT}{q:List UInt8}(u:n=e){r:List (Nat×jJ)}{W f:aS}(h:PE e n g i q r W)(d:Bl W f):PE e n g i q r f:=by obtain⟨⟨v,s⟩,j,k,m⟩:=h;exact⟨⟨v,s.later d⟩,j.trans (d.mono (by have:=j.size;omega)),(d.block _ k.lt).trans k,(d.block _ m.lt).trans m⟩
theorem aBv(M:Option Addr)(c:Nat)(L:List jJ)(w:aS)(hL:mP w M L)(hs:jB L<=1100000):
  CallsIn Fence.wide 2 prog 165 #[aA M L.length c] w (Rt (aB (eH (lG L))) w):=by
 have hm:L.length<=100000000:=by have:=jK L;omega
 refine xI func165 rfl trivial ?_ rfl;simp only[ntmps165,pN,Nat.reduceAdd,Nat.reduceSub];have bh:bK.wrap (L.length:Int)=(L.length:Int):=by rw[sU];omega
 gi_wp2_with(first|(refine⟨trivial,?_⟩;gi_at_call 39;refine(hH.2 (pJ _)).mono ?_;rintro e w1⟨rfl,rfl⟩)|(refine⟨trivial,?_⟩;gi_at_call 44;refine(hH.2 (YX (xY.new (fY.new w w (eX _))) L.length (by unfold jG;omega) zS)).mono ?_;rintro e B⟨rfl,S⟩)|(refine⟨trivial,?_⟩;gi_at_call 164;refine(NT _ _ _ _ _).mono ?_;rintro e w3⟨rfl,rfl⟩));have HL:=eC hL;have a7:=eC S;have aa:Bl w B:=(fL w _).trans (S.under (fY.new w w (eX _)));have f:Bl w ((B.alloc (aK #[qP w 0] 79)).alloc (aK #[aA M L.length c] 69)):=(aa.alloc aa.size _).alloc (by have:=aa.size;simp;omega) _;have ac:Boxed ((B.alloc (aK #[qP w 0] 79)).alloc (aK #[aA M L.length c] 69)) ((B:Nat)+1) 69 (aA M L.length c):=by have:=oI (B.alloc (aK #[qP w 0] 79)) 69 (aA M L.length c);rw[fO]at this;exact this
 have ag:PE w w B (aA M L.length c) (eK L.length) [] ((B.alloc (aK #[qP w 0] 79)).alloc (aK #[aA M L.length c] 69)):=by obtain⟨v,Z,_,_⟩:=S;refine⟨⟨v,?_⟩,f,(oI B _ _).alloc _,ac⟩;have h2:=(Z.later ((iL _ B).alloc (eX _) (aK #[qP w 0] 79)));have h3:=h2.later ((iL _ _).alloc (eX _) (aK #[aA M L.length c] 69));simpa using h3
 refine NB (gf:=218) (n0:=(w:Nat)) (Bn:=(B:Nat)+1) (lb:=#[qP ((B:Nat)+1) 0]) rfl (l8 func218 zK rfl)
  (KL _ _ _ M c L w _ ac rfl f hL zO) zS f.size (λ_=>rfl)
  (PE w w B (aA M L.length c) (eK L.length)) (PE.own f.size rfl) (λY W N h hb=>h.later rfl hb) ag
  (λW p=>{tmps:=#[aA M L.length c,aY,aB ⟨#[]⟩,qP B 0,qI p.1,qP W 0,qP w 0,aA M L.length c,qI L.length,aC .u64 L.length,qP w 0,aA M L.length c,aD (bC 218) #[] #[qP ((B:Nat)+1) 0],qI p.1,FX p.2,aY,aY,aY,aY,aY,aY,aY,aY,aY,aY,aY,aY,aY,aY],defers:=[]})
  (λW p=>W.alloc (aK #[qI p.2.1,p.2.2] 75)) (λW p=>fL W _) ?assign ?body ?done
 case assign=>
  intro l x W K hK;obtain⟨R,J,d⟩:=x;unfold FX at hK;simp only at hK;unfold YK FX;gi_wp2
  first|exact hK|simpa using hK
 case body=>
  rintro l Y⟨R,J,d⟩W0 W O⟨⟨y,am⟩,ao,ap,aq⟩aj az av af ay ar bi;have ae:nV W0 O:=nV.only af av;have hx:O.heap[(W:Nat)]?=some (aK #[qI J,d] 75):=(ar _ (eX _)).trans (fG W _);have u:=am.on ae;have j:Boxed O B 79 (qP w 0):=ae _ _ ap rfl;have ab:Boxed O ((B:Nat)+1) 69 (aA M L.length c):=ae _ _ aq rfl;have a0:=(fB.1 hx).1;have ai:some (B:Nat)≠y.ownBlock:=j.not_row zD u.row;have ah:some ((B:Nat)+1)≠y.ownBlock:=ab.not_row zD u.row;have al:∀k,(W0:Nat)<=k->some k≠y.ownBlock:=λk hk e=>by have:=(am.row.lt k e.symm).2;omega
  have bf:w<(B:Nat):=by have:=S.size;rw[fO]at this;exact this
  have a1:(B.alloc (aK #[qP w 0] 79)).heap.size=B+1:=fO ..;have a2:((B.alloc (aK #[qP w 0] 79)).alloc (aK #[aA M L.length c] 69)).heap.size=B+1+1:=by rw[fO,a1]
  rw[a2]at az af;have KB:=eC (λ(l':List UInt8)(N:aS)(h:xY O w y l' N)=>show N.cell? (B,0)=some (aE (some ⟨w,0,none⟩))/\N.cell? (W,0)=some (qI J)/\N.cell? (W,1)=some (aB d)by
   have e1:=h.block (k:=(B:Nat)) j.lt zO ai
   have e2:=h.block (k:=(W:Nat)) a0 zO (al _ ay)
   have b1:Boxed N B 79 (qP w 0):=e1.trans j
   refine⟨b1.cell,?_,?_⟩
   .unfold bH;rw[e2,hx];rfl
   .unfold bH;rw[e2,hx];rfl);have aw:(R,(J,d))∈iO 7 L:=aj.subset (wM.2 (.inr (rD.2 rfl)));have ax:=BR _ aw;simp only at ax;have au:d.size<=1000000000:=by have:d.size<=jP (J,d):=by{unfold jP;simp only;omega};omega
  have bg:=ZT (L:=L) zO ((List.prefix_append Y [(R,(J,d))]).trans aj);have be:L.length<=220000:=by have:=jK L;omega
  have a3:=eC (λ(N:aS)(h:xY O w y (eK L.length++(Y.map FI).flatten++eK (PN J)++eK R++eK (jP (J,d))) N)=>show KeepsOthers O N/\sF w ((B:Nat)+1) O N/\O3 W0 W O N/\PE w w B (aA M L.length c) (eK L.length) (Y++[(R,(J,d))]) N by
   have hu:=h.under u
   refine⟨h.others u,⟨hu,h.block ab.lt zO ah⟩,λk Z h2=>h.block zO zO (al k Z),?_,?_,?_,?_⟩
   .obtain⟨v,k1,_,_⟩:=h
    refine⟨v,?_⟩
    rw[DO,List.flatten_append]
    simpa[FI,jH]using k1
   .exact(ao.trans (af.below zO zO)).trans hu
   .exact(h.block j.lt zO ai).trans j
   .exact(h.block ab.lt zO ah).trans ab);have hA:=(xY.new u).drew;have HU:=eC (SN J);have bj:bK.wrap J=((PN J:Nat):Int):=by rw[sU];unfold PN;omega
  have bk:bK.wrap (R:Int)=(R:Int):=by rw[sU];omega
  have CZ:=eC (λV=>zX (J,d) V au);have bl:bK.wrap ((jP (J,d):Nat):Int)=((jP (J,d):Nat):Int):=by rw[sU];omega
  have ak:jG R:=by unfold jG;omega
  have aL:jG (jP (J,d)):=by unfold jG;omega
  have l1:=eU HU;have l2:=eU ak;have a4:=eC (show(eK L.length++(Y.map FI).flatten).length<=10000000 from zO);have a5:=eC (show(eK L.length++(Y.map FI).flatten++eK (PN J)).length<=10000000 by rw[iR];omega);have a6:=eC (show(eK L.length++(Y.map FI).flatten++eK (PN J)++eK R).length<=10000000 by rw[iR,iR];omega);have a8:=eC ak;have ba:=eC aL;generalize eK L.length++(Y.map FI).flatten=l0 at*;generalize jP (J,d)=z at*;generalize PN J=q at*;obtain⟨c0,c1,c2⟩:=KB _ _ hA;unfold FX at CZ|-;simp only at CZ|-;generalize(B:Nat)=Wb at*;generalize(W:Nat)=X at*;clear ae hx u j ab a0 ai ah al bf a1 a2 aw ax au bg be l1 l2 ak aL ao ap aq am aj az av af ay ar bi aa f ac ag hL HL a7 S bh hm hs;gi_wp2;refine Code.wpIn_mono (Q:=Exit.then _ (λ_ _ _=>False)) (λe a w h=>by cases e<;>first|exact h|exact h.elim) ?_;refine zgR [0,2,8] (λi U=>match i with|0=>qC U Wb 0 (qP w 0)|2=>qC U X 0 (qI J)|8=>qC U X 0 (qI J)/\qC U X 1 (aB d)|_=>True) (.cons c0 (.cons c1 (.cons ⟨c1,c2⟩ .nil))) ?_;refine BS 0 ?_;refine jV 1 ?_;refine BS 2 ?_;refine jV 3 ?_;refine jV 5 ?_;refine jV 6 ?_;refine BS 8 ?_;refine tG 4 [8] λK hK=>?_;go_simp;have bb:xY O w y l0 O.drew:=hA;refine(YX bb q HU a4.out).mono ?_;rintro e V⟨rfl,hR⟩;obtain⟨-,k1,k2⟩:=KB.out _ _ hR;refine hK _ _ (.cons ⟨k1,k2⟩ .nil) ?_;clear hK K;refine tG 7 [8] λK hK=>?_;go_simp;refine(YX hR R a8.out a5.out).mono ?_;rintro e V2⟨rfl,S⟩;obtain⟨-,k1,k2⟩:=KB.out _ _ S;refine hK _ _ (.cons ⟨k1,k2⟩ .nil) ?_;clear hK K;refine tG 9 [] λK hK=>?_;go_simp;refine(CZ.out _).mono ?_;rintro e V3⟨rfl,hb⟩;have bc:=S.later hb;refine hK _ _ .nil ?_;clear hK K;refine jV 10 ?_;refine tG 11 [] λK hK=>?_;go_simp;refine(YX bc z ba.out a6.out).mono ?_;rintro e V4⟨rfl,bd⟩;refine hK _ _ .nil ?_;clear hK K;refine QU ?_;exact a3.out _ bd
 case done=>rintro D W hD⟨⟨v,Z⟩,h2,h3,h4⟩hK;have hc:=h3.cell;have H1:=eC Z;clear Z h4 ac f aa ag;gi_wp2_with(refine⟨trivial,?_⟩;gi_at_call 42;refine(hH.2 (mE _ _ _ _ _ H1)).mono ?_;rintro e w5⟨rfl,rfl⟩);refine⟨zS,.inl ⟨_,_,rfl,E6 hK,?_⟩⟩;exact⟨_,results_tmp rfl _ _ _,rfl,h2.trans (belowK_b (w:=w) (eX _) W D _ _ (by have:=S.size;simp at this hD;omega) hK rfl rfl)⟩
theorem WU(d:Option Addr)(c:Nat)(L:List jJ)(w:aS)(e:mP w d L)(f:jB L<=1100000):
 qK 165 #[aA d L.length c] w (Rt (aB (eH (lG L))) w):=hH.1 (aBv d c L w e f)
end
end Go.Proofs.YtgmjilingndloaaGreatDoor
