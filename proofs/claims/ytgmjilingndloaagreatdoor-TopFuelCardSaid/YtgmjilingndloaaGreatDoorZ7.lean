/- Part 7 of the proof of TopFuel. No conditions. -/
import Derived.Test.YtgmjilingndloaaGreatDoorZ6
import Derived.Deep.AppendLies
import Derived.Lib.SlBytesConst
import Derived.WalkLawsBesides
open BitVec renaming ofInt->cZ
open Go renaming TypeId->aX,Value->aT,World->aS,maxLen->aZ,undef->aY
open Go.ByteArray renaming toList_eq->bU
open Go.Ending renaming returned->aO
open Go.IntKind renaming i64->aP,u32->aQ,u64->bK
open Go.Obj renaming cells->aK,deferred->aM,loop->aN
open Go.RowKit renaming Below->aV,intOf->aW,wrap64->a9
open Go.Value renaming bool->aG,func->aD,int->aC,slice->aA,string->aB,tuple->aF
open Go.World renaming cell?->bH,cell?_drew->dQ,ownsRow_nil->dY
open List renaming length_take_of_le->dI,mem_map->cG
open Nat renaming le_of_lt->cY,pow_le_pow_right->dW
open UInt8 renaming ofNat->bI,toNat_ofNat'->dR
namespace Go.Proofs.YtgmjilingndloaaGreatDoor
set_option linter.unusedVariables false
set_option linter.unusedSimpArgs false
set_option maxRecDepth 100000
set_option maxHeartbeats 20000000
open Go Go.RowKit Go.Proofs.Tryz Go.Shelf
variable{s:ByteArray}{a n d r k b c p f m:Nat}{v:aT}{l:List UInt8}{W w' e:aS}{Q:Exit->Act->aS->Prop}{ops:Array Oper}{o:Oper}
def val:List Nat->Nat
 |[]=>0
 |b::r=>b%128+128*val r
theorem KJ(p:List Nat)(b:Nat):val (p++[b])=val p+128^p.length*(b%128):=by
 induction p with
 |nil=>simp[val]
 |cons x p ih=>simp only[rO,val,ih,iW,Nat.pow_succ];rw[Nat.mul_add,<-Nat.mul_assoc,Nat.mul_comm 128 (128^p.length)];omega
theorem IV(p:List Nat):val p<128^p.length:=by
 induction p with
 |nil=>simp[val]
 |cons x p ih=>simp only[val,iW,Nat.pow_succ];omega
def fM:Nat->List Nat->Nat
 |0,_=>0
 |_+1,[]=>0
 |f+1,b::r=>if b<128 then 1 else if fM f r=0 then 0 else fM f r+1
theorem BN(k:Nat):∀(f:Nat)(l:List Nat),(∀j,j<k->j<l.length/\128<=l.getD j 0)->fM (f+k) l=if fM f (l.drop k)=0 then 0 else fM f (l.drop k)+k:=by
 induction k with
 |zero=>intro f l _;simp
 |succ k ih=>
  intro f l h;cases l with
  |nil=>have:=(h 0 zO).1;simp at this
  |cons b r=>
   have d:=(h 0 zO).2;simp only[List.getD_cons_zero]at d;have e:=ih f r (λj g=>by have:=h (j+1) zO;simpa using this);rw[show f+(k+1)=(f+k)+1 from zO,fM,eE zO,e,List.drop_succ_cons];by_cases h0:fM f (r.drop k)=0
   .simp[h0]
   .simp only[h0,if_false];rw[eE zO];omega
theorem DQ{l:List Nat}(h:∀j,j<10->j<l.length/\128<=l.getD j 0):fM 10 l=0/\10<=l.length:=by refine⟨?_,by have:=(h 9 zO).1;omega⟩;have:=BN 10 0 l h;simpa[fM]using this
theorem UH{l:List Nat}(g:l.length=k)(e:k<10)(h:∀j,j<k->128<=l.getD j 0):fM 10 l=0:=by have:=BN k (10-k) l (λj d=>⟨zO,h j d⟩);rw[show 10-k+k=10 from zO,List.drop_of_length_le zO]at this;rw[this];obtain⟨f,hf⟩:∃f,10-k=f+1:=⟨9-k,zO⟩;rw[hf];simp[fM]
theorem aDw{l:List Nat}(d:k<l.length)(i:k<10)(h:∀j,j<k->128<=l.getD j 0)(e:l.getD k 0<128):fM 10 l=k+1:=by
 have:=BN k (10-k) l (λj g=>⟨zO,h j g⟩);rw[show 10-k+k=10 by omega]at this;obtain⟨f,hf⟩:∃f,10-k=f+1:=⟨9-k,zO⟩;have hd:l.drop k=l.getD k 0::l.drop (k+1):=by rw[tL d];congr 1;simp[d]
 rw[this,hf,hd,fM,eI e];simp;omega
def uL(l:List Nat):Nat×Nat×Nat:=
 if fM 10 l=0 then(0,0,if l.length<10 then 2 else 3)
 else if(1<fM 10 l/\l.getD (fM 10 l-1) 0=0)\/(fM 10 l=10/\1<l.getD (fM 10 l-1) 0)then(0,0,3)
 else(val (l.take (fM 10 l)),fM 10 l,0)
def eT(s:ByteArray)(k:Nat):List Nat:=(s.data.toList.drop k).map UInt8.toNat
def iZ(s:ByteArray)(d:Int):Nat×Int×Nat:=
 if d<0\/(s.size:Int)<d then(0,d,1)else((uL (eT s d.toNat)).1,d+((uL (eT s d.toNat)).2.1:Nat),(uL (eT s d.toNat)).2.2)
theorem qM(s:ByteArray)(k:Nat):(eT s k).length=s.size-k:=by unfold eT;rw[rN,sB];rfl
theorem JK(s:ByteArray)(k j:Nat)(h:k+j<s.size):(eT s k).getD j 0=s[k+j].toNat:=by
 have d:j<(eT s k).length:=by rw[qM];omega
 rw[vT,lJ d];simp only[eT,List.getElem_map,List.getElem_drop,Option.getD_some];rfl
theorem BY{l:List Nat}(h:k<l.length):l.take (k+1)=l.take k++[l.getD k 0]:=by rw[TN h];congr 2;simp[h]
section
attribute [local go_sem] Oper.semAt_some
theorem aJv:∀a:Fin 256,bits BinOp.or IntKind.u8 ((a.val:Nat):Int) 128=((128+a.val%128:Nat):Int):=by decide+kernel
theorem aFJ(m:Nat):bits BinOp.or IntKind.u8 ((m:Int)%256) 128=((128+m%128:Nat):Int):=by have h:=aJv ⟨m%256,zO⟩;simp only at h;rw[show((m:Int)%256)=((m%256:Nat):Int)from zO,h];congr 1;omega
def XF(B:Nat)(W:aS):Nat:=match W.cell? ⟨B,0,none⟩with|some (aC _ m)=>m.toNat|_=>0
theorem NR{B:Nat}{t:aX}(h:Boxed W B t (aC .u64 m)):XF B W=m:=by unfold XF;rw[h.cell];simp
theorem X6(n B:Nat)(M:Nat)(hm:jG M)(w:aS)(Z:Boxed w B 59 (aC .u64 M)):
  aFf n prog 231 B #[qP B 0] (λx:Nat=>#[aC .u8 x]) (lY M) w:=by
 intro l J W hW aa U Y;refine callsIn_of_wp func231 rfl trivial ?_ rfl;simp only[ntmps231,pN,Nat.reduceAdd,Nat.reduceSub];have f:Boxed W B 59 (aC .u64 M):=hW.trans Z;gi_wp2_with fail;gi_loopw [] (λwr=>∃(N:List Nat)(m:Nat),jG m/\Boxed wr B 59 (aC .u64 m)/\lY M=N++lY m/\J N wr) (λwr=>XF B wr)
 case atStart=>exact⟨[],M,hm,f,rfl,Y⟩
 case round=>
  obtain⟨N,m,ag,D,O,R⟩:=hrel;change Hid _ at O;by_cases hlt:m<128
  .have u:=U N m wr R (by rw[O,qX hlt];exact List.prefix_refl _);obtain⟨fn,ah,ac,ae,hy,S⟩:=u;have hc:=D.cell;clear U aa R hW Z f Y;gi_wp2;refine S.mono ?_;rintro e y⟨rfl,j,_⟩;gi_wp2;go_end0;exact⟨⟨_,rfl⟩,by rw[O,qX hlt];exact j⟩
  .have u:=U N (128+m%128) wr R (by rw[O,r8 hlt];exact⟨lY (m/128),zS⟩);obtain⟨fn,ah,ac,ae,hy,S⟩:=u;have hc:=D.cell;have hf:=D.frozen;have af:=aFJ m;obtain⟨d,hd⟩:=eR (128+m%128);rw[hd]at af hy S;change Hid _ at hd;clear U R hW Z f Y;gi_wp2;refine S.mono ?_;rintro e y⟨rfl,j,ab⟩;have X:Boxed y B 59 (aC .u64 m):=ab.trans D;have ai:=X.cell;have aj:=X.frozen;change Hid _ at D;clear hc hf ab;gi_wp2;go_roundw
   case rel=>exact⟨N++[d],m/128,ag.div 128,X.set _,by rw[O,r8 hlt,hd];simp,aa _ _ _ j⟩
   case measure=>have e:=NR (m:=m/128) (X.set (aC .u64 ((m/128:Nat):Int)));rw[show((m/128:Nat):Int)=(m:Int)/128 by omega]at e;rw[NR D,e];omega
theorem aBa(m:Nat)(w:aS)(k:Nat):CallsIn Fence.wide k prog 183 #[aC .u64 m] w λe w'=>e=aO (aD (.func 231) #[] #[qP w 0])/\w.alloc (aK #[aC .u64 m] 59)=w':=by refine hH.2 ?_;go_enter func183,ntmps183;go_wp2;go_ret;exact⟨rfl,rfl⟩
def iF(n:Nat):ByteArray:=⟨((lY n).map bI).toArray⟩
theorem aDc:(prog.info? 5).map (λi=>(i.zero,i.size,i.bytes))=some (some (aC .u8 0),1,1):=zK
theorem aIo(m:Nat)(hm:jG m)(w:aS):
  CallsIn Fence.wide 2 prog 120 #[aC .u64 m] w (Rt (aB (iF m)) w):=by
 obtain⟨i0,hi,al,am,ao⟩:=info_parts aDc;have ai:=tP hm;refine xI func120 rfl trivial ?_ rfl;simp only[ntmps120,pN,Nat.reduceAdd,Nat.reduceSub];gi_wp2_with(refine⟨trivial,?_⟩;gi_at_call 183;refine(aBa m _ _).mono ?_;rintro e w'⟨rfl,rfl⟩);have Y:Bl w ((w.alloc (aK #[qN] 173)).alloc (aK #[aC .u64 m] 59)):=(fL w _).alloc zS _;have S:Boxed ((w.alloc (aK #[qN] 173)).alloc (aK #[aC .u64 m] 59)) ((w:Nat)+1) 59 (aC .u64 m):=by have:=oI (w.alloc (aK #[qN] 173)) 59 (aC .u64 m);rw[fO]at this;exact this
 have X:=oI w 173 qN;refine aCw (gf:=231) (Bn:=(w:Nat)+1) (lb:=#[qP ((w:Nat)+1) 0]) rfl (l8 func231 zK rfl)
  (X6 _ _ m hm _ S) zS ?hps
  (λN W=>(∃v,Boxed W w 173 v/\W.ownsRow w 5 1 v N.length (N.map λx:Nat=>aC .u8 x)/\True)/\Bl w W/\∃u,Boxed W ((w:Nat)+1) 59 u)
  ?own ?box ⟨⟨_,X.alloc _,dY _ _ _ _,trivial⟩,Y,_,S⟩
  (λx=>{tmps:=#[aC .u64 m,aY,aB ⟨#[]⟩,qP w 0,aC .u8 x,aC .u64 m,aD (.func 231) #[] #[qP ((w:Nat)+1) 0],aC .u8 x,aY,aY,aY,aY,aY,aY],defers:=[]}) ?assign ?body ?done
 case hps=>exact λ_=>rfl
 case own=>refine OwnFrom.and (Own.from (holdsRow_own w w 173 5 1 (λN:List Nat=>N.length) (λN:List Nat=>N.map λx:Nat=>aC .u8 x) (λ_ _=>True)) _) (OwnFrom.and (ownFrom_below (eX _) zT) ?_);rintro s A B ap⟨u,hs⟩hg hr;exact⟨u,Own.from (boxed_own ((w:Nat)+1) 59 (λ_:Unit=>u)) _ () A B ap hs hg hr⟩
 case box=>rintro N W v⟨⟨v',R,M,_⟩,O,u,J⟩;exact⟨⟨v',R.other zO v,M.kept (grownBy_setCell' W _ v) (.inr (J.not_row zD M).symm),trivial⟩,O.setCell (p:=((w:Nat)+1,0)) zS v,v,J.set v⟩
 case assign=>
  intro l x W K hK;gi_wp2
  first|exact hK|simpa using hK
 case body=>
  rintro l N x W⟨⟨v,R,M,_⟩,O,u,J⟩hp;have av:N.length+1<=10:=by have:=hp.length_le;simp at this;omega
  have hc:=R.cell;have HU:=eC J;clear hp J S X Y ai;gi_wp2_with(gi_at_builtin;refine wpListIn_append_own _ rfl _ _ 173 rfl w 5 i0 (aC .u8 0) 1 1 underlying173 hi al am ao rfl zD _ _ _ rfl (M.alloc _) (W,0) 1 1 [aC .u8 x] rfl rfl (cell_one_new _ _ _) (by simp[Value.oneCell']) (by unfold aZ;omega) zO (by have:=O.size;simp;omega) ?_;intro v' w1 ab Z _;obtain⟨g',aq,rfl⟩:=ownsRow_succ ab;obtain⟨ac,ak,aj,ah,af⟩:=R.appended zD M O.size (eX _) ab Z;have ar:=ac.cell;have au:=ac.frozen);have J:=HU.out;have aa:=J.not_row zD M;refine⟨ah,?_,⟨_,ak,by simpa using aj,trivial⟩,O.trans af,u,?_⟩
  .exact(pK zO).trans ((Z.block ((w:Nat)+1) (by have:=J.lt;simp only[fO];omega) aa).trans (iI _ _ _ J.lt))
  .exact(pK zO).trans ((Z.block ((w:Nat)+1) (by have:=J.lt;simp only[fO];omega) aa).trans ((iI _ _ _ J.lt).trans J))
 case done=>
  rintro D W hD⟨⟨v,R,M,_⟩,O,_⟩hK;have hc:=R.cell;obtain⟨k,hk⟩:∃k,(lY m).length=k+1:=⟨(lY m).length-1,by have:=pI m;omega⟩;have f:=M;rw[hk]at f;obtain⟨g,ae,rfl⟩:=ownsRow_succ f;have y:∀j(U:j<((lY m).map bI).length),W.cell? (((g,0):Addr).add j)=some (aC .u8 (((lY m).map bI)[j].toNat:Int)):=by intro j U;simp only[rN]at U;refine M.cells (by simp[Value.ownBlock]) j _ ?_;have hd:=MO m _ (List.getElem_mem U);simp only[oY,lJ U,Option.map_some,List.getElem_map,dR];congr 2;rw[Nat.mod_eq_of_lt (by simpa using hd)]
  have ag:=run_convert_bytes_back (P:=prog) W 173 9 5 (g,0) ae ((lY m).map bI) underlying173 underlying5 underlying9 y;rw[rN,hk]at ag;clear y M f S X Y R;gi_wp2;refine⟨zS,.inl ⟨_,_,rfl,E6 hK,?_⟩⟩;exact⟨_,results_tmp rfl _ _ _,rfl,O.trans (belowK_b (w:=w) (eX _) W D _ _ (by simp at hD;omega) hK rfl rfl)⟩
theorem SR(m:Nat)(hm:jG m)(w:aS):
 qK 120 #[aC .u64 m] w (Rt (aB (iF m)) w):=hH.1 (aIo m hm w)
end
theorem aH8:∀a:Fin 256,bits BinOp.and IntKind.u8 ((a.val:Nat):Int) 127=((a.val%128:Nat):Int):=by decide+kernel
theorem aG5(h:b<256):bits BinOp.and IntKind.u8 (b:Int) 127=((b%128:Nat):Int):=aH8 ⟨b,h⟩
def W64(n:Nat):Nat:=n%18446744073709551616
theorem aCc(q c k:Nat)(hq:q<128^k)(n:k<=9):
  bits BinOp.or bK (q:Int) (bK.wrap ((c:Int)*2^(7*k)))=((W64 (q+128^k*c):Nat):Int):=by
 have e:(c:Int)*2^(7*k)=((c*2^(7*k):Nat):Int):=by simp
 have f:bK.wrap ((c*2^(7*k):Nat):Int)=((c*2^(7*k)%18446744073709551616:Nat):Int):=by rw[sU];omega
 have e3:128^k=2^(7*k):=by rw[Nat.pow_mul]
 rw[e3]at hq|-;have d:c*2^(7*k)%18446744073709551616=(c%2^(64-7*k))*2^(7*k):=by rw[show(18446744073709551616:Nat)=2^(64-7*k)*2^(7*k) by rw[<-Nat.pow_add,show 64-7*k+7*k=64 by omega]];exact Nat.mul_mod_mul_right _ _ _
 have m:q<18446744073709551616:=gV hq (by
  rw[show(18446744073709551616:Nat)=2^64 by rfl];exact dW zO zO);rw[e,f,bits_or_u64_nat q _ m (Nat.mod_lt _ zO),d];congr 1;have g:(c%2^(64-7*k))*2^(7*k)=(c%2^(64-7*k))<<<(7*k):=(Nat.shiftLeft_eq _ _).symm;rw[g,Nat.or_comm,<-Nat.shiftLeft_add_eq_or_of_lt hq,Nat.shiftLeft_eq,<-d,W64];have j:(c%2^(64-7*k))*2^(7*k)+q<18446744073709551616:=by
  have h:c%2^(64-7*k)+1<=2^(64-7*k):=Nat.mod_lt _ (Nat.two_pow_pos _);have i:=Nat.mul_le_mul_right (2^(7*k)) h;rw[<-Nat.pow_add,show 64-7*k+7*k=64 from zO,Nat.add_mul]at i;have:(2:Nat)^64=18446744073709551616:=by rfl
  omega
 rw[<-d]at j;rw[Nat.mul_comm (2^(7*k)) c];omega
theorem aFO{a':Nat}{b d c e:Int}(f:a=a')(g:b=d)(h:c=e):aO (aF #[aC .u64 (a:Int),qI b,qI c])=aO (aF #[aC .u64 (a':Int),qI d,qI e]):=by rw[f,g,h]
def DR(s:ByteArray)(a:Nat)(e:Ending):Prop:=e=aO (aF #[aC .u64 ((uL (eT s a)).1:Nat),aC aP ((a:Int)+((uL (eT s a)).2.1:Nat)),aC aP ((uL (eT s a)).2.2:Nat)])
theorem SF(h:(eT s a).length=k)(d:k<10)(e:∀j,j<k->128<=(eT s a).getD j 0):DR s a (aO (aF #[aC .u64 0,qI a,qI 2])):=by unfold DR;rw[uL,eI (UH h d e),eI zO];exact aFO (a:=0) rfl zS rfl
theorem VR(d:∀j,j<10->j<(eT s a).length/\128<=(eT s a).getD j 0):DR s a (aO (aF #[aC .u64 0,qI a,qI 3])):=by unfold DR;rw[uL,eI (DQ d).1,eE (by have:=(DQ d).2;omega)];exact aFO (a:=0) rfl zS rfl
theorem MU(he:fM 10 (eT s a)=k+1)(h:(0<k/\(eT s a).getD k 0=0)\/(k=9/\1<(eT s a).getD k 0)):DR s a (aO (aF #[aC .u64 0,qI a,qI 3])):=by unfold DR;rw[uL,eE zO,eI (by rw[he];simpa using h)];exact aFO (a:=0) rfl zS rfl
theorem K5(j:k<=9)(f:k<(eT s a).length)(he:fM 10 (eT s a)=k+1)(h:¬((0<k/\(eT s a).getD k 0=0)\/(k=9/\1<(eT s a).getD k 0)))(g:(eT s a).getD k 0<128):
  DR s a (aO (aF #[aC .u64 ((W64 (val ((eT s a).take k)+128^k*((eT s a).getD k 0%128)):Nat):Int),qI ((a:Int)+(k+1)),qI 0])):=by
 unfold DR;rw[uL,eE zO,eE (by rw[he];simpa using h)];refine aFO ?_ (by rw[he];simp) rfl;rw[he,BY f,KJ,dI zO];unfold W64;refine Nat.mod_eq_of_lt ?_;have e:=IV ((eT s a).take k);rw[dI zO]at e;by_cases h9:k=9
 .subst h9;have:(eT s a).getD 9 0<=1:=zO;have d:128^9*((eT s a).getD 9 0%128)<=128^9*1:=Nat.mul_le_mul_left _ zO;omega
 .have d:128^k*((eT s a).getD k 0%128+1)<=128^k*128:=Nat.mul_le_mul_left _ zO;have i:128^k*128<=128^9:=by rw[<-Nat.pow_succ];exact dW zO zO
  rw[Nat.mul_add]at d;omega
theorem aFS{l:List Nat}(f:k<=9):W64 (val (l.take k))=val (l.take k):=by refine Nat.mod_eq_of_lt ?_;have d:=IV (l.take k);have e:128^(l.take k).length<=128^9:=dW zO (by have:=List.length_take_le k l;omega);omega
theorem aIQ(s:ByteArray)(a:Nat)(w:aS)(hs:s.size<=aZ)(ha:a<=s.size):
  qK 229 #[aB s,qI a] w λe w'=>DR s a e/\w=w':=by
 obtain⟨l,B⟩:=eR (eT s a);have W:l.length=s.size-a:=by rw[<-B];exact qM s a
 have Z:∀j,(h:a+j<s.size)->l.getD j 0=(s[a+j]'h).toNat:=λj h=>by rw[<-B];exact JK s a j h
 change Hid _ at B W Z;unfold aZ at hs;have hA:decide ((a:Int)<0)=false:=by simp
 have hB:decide (s.size<a)=false:=zT;go_enter func229,ntmps229;go_wp2_with fail;go_step3;go_wp2_with fail;go_step3;go_wp2_with fail;go_loop [7,8] (λn i=>∃k:Nat,k<=10/\a+k<=s.size/\i=qI k/\n=aC .u64 (W64 (val (l.take k)))/\∀j,j<k->128<=l.getD j 0) (λ_ i=>10-(aW i).toNat)
 case atStart=>exact⟨0,zO,zO,rfl,rfl,λj f=>zO⟩
 case round=>
  obtain⟨k,hk,ah,rfl,rfl,R⟩:=hrel;change Hid _ at R;by_cases h10:k<10
  .have ac:((k:Int)==10)=false:=zT;by_cases hend:a+k<s.size
   .have ae:((a:Int)+k==s.size)=false:=zT;have x:=eC (aFS (l:=l) (k:=k) zO);rw[x];have S:k<l.length:=by rw[W];omega
    have X:Hid ((l.take k).length=k):=eC (dI zO);have hq:=IV (l.take k);rw[X]at hq;obtain⟨q,M⟩:=eR (val (l.take k));rw[M]at hq|-;obtain⟨b,Y⟩:∃b:Nat,s[a+k].toNat=b:=⟨_,rfl⟩;have ab:b<256:=by rw[<-Y];exact(s[a+k]).toNat_lt
    have D:Hid (l.getD k 0=b):=eC ((Z k hend).trans Y);obtain⟨c,J⟩:=eR (b%128);have aa:=aG5 ab;rw[J]at aa;have ag:c<128:=zO;obtain⟨t,N⟩:∃t:Nat,W64 (q+128^k*c)=t:=⟨_,rfl⟩;have af:=aCc q c k hq zO;rw[N]at af;change Hid _ at M N J;clear hq;by_cases hb:b<128
    .have O:Hid (fM 10 (eT s a)=k+1):=eC (by rw[B];exact aDw S h10 R (by rw[D];exact hb));by_cases hb0:b=0
     .have z0:((b:Int)==0)=true:=zT;have U:=eC hb0;clear hb0;by_cases hk0:0<k
      .go_wp2_with fail;go_ret3;exact⟨MU O (.inl ⟨hk0,by rw[B,D];exact U⟩),rfl⟩
      .have u:((k:Int)+1==10)=false:=zT;go_wp2_with fail;rw[Exit.noGoto_ret];go_ret3;refine⟨?_,rfl⟩;have:=K5 zO (by rw[B];exact S) O (by rw[B,D];omega) (by rw[B,D];exact hb);rw[B,D,M,J,N]at this;exact this
     .have z0:((b:Int)==0)=false:=zT;have U:=eC hb0;clear hb0;by_cases hk9:k<9
      .have u:((k:Int)+1==10)=false:=zT;go_wp2_with fail;rw[Exit.noGoto_ret];go_ret3;refine⟨?_,rfl⟩;have:=K5 zO (by rw[B];exact S) O (by rw[B,D];have:=U.out;omega) (by rw[B,D];exact hb);rw[B,D,M,J,N]at this;exact this
      .have u:((k:Int)+1==10)=true:=zT;have y:Hid (k=9):=eC zO;clear hk9;by_cases hb1:1<b
       .go_wp2_with fail;rw[Exit.noGoto_ret];go_ret3;exact⟨MU O (.inr ⟨y,by rw[B,D];exact hb1⟩),rfl⟩
       .go_wp2_with fail;rw[Exit.noGoto_ret];go_ret3;refine⟨?_,rfl⟩;have:=K5 zO (by rw[B];exact S) O (by rw[B,D];have:=U.out;omega) (by rw[B,D];exact hb);rw[B,D,M,J,N]at this;exact this
    .go_wp2_with fail;go_round
     case rel=>
      refine⟨k+1,zO,zO,by go_num,?_,λj f=>?_⟩
      .rw[BY S,KJ,X,D,J,M,N]
      .by_cases hjk:j<k
       .exact R j hjk
       .obtain rfl:j=k:=zO;rw[D];omega
     case measure=>simp[aW];omega
   .have ae:((a:Int)+k==s.size)=true:=zT;go_wp2_with fail;go_ret3;exact⟨SF (k:=k) (by rw[B,W];omega) h10 (by rw[B];exact R),rfl⟩
  .have ac:((k:Int)==10)=true:=zT;go_wp2_with fail;go_ret3;exact⟨VR (λj f=>by rw[B];exact⟨by rw[W];omega,R j zO⟩),rfl⟩
theorem aGq(s:ByteArray)(a:Int)(w:aS)(D:s.size<=aZ)(B:a<0\/(s.size:Int)<a):
  qK 229 #[aB s,qI a] w λe w'=>e=aO (aF #[aC .u64 0,qI a,qI 1])/\w=w':=by
 unfold aZ at D;by_cases h:a<0
 .go_enter func229,ntmps229;go_wp2_with fail;go_step3;go_wp2_with fail;rw[Exit.noGoto_ret];go_ret3;exact⟨rfl,rfl⟩
 .have J:(s.size:Int)<a:=zO;clear B;go_enter func229,ntmps229;go_wp2_with fail;go_step3;go_wp2_with fail;rw[Exit.noGoto_ret];go_ret3;exact⟨rfl,rfl⟩
def Got(r:Nat×Int×Nat):Ending:=aO (aF #[aC .u64 (r.1:Int),aC aP r.2.1,aC aP (r.2.2:Nat)])
theorem YJ(s:ByteArray)(a:Int)(w:aS)(d:s.size<=aZ):
  qK 229 #[aB s,qI a] w λe w'=>e=Got (iZ s a)/\w=w':=by
 by_cases h:a<0\/(s.size:Int)<a
 .rw[show iZ s a=(0,a,1)by rw[iZ,eI h]];exact aGq s a w d h
 .rw[iZ,eE h];obtain⟨n,rfl⟩:=qJ (show 0<=a from zO);exact aIQ s n w d zO
theorem aC7{a:Int}{d:Ending}(h:Got (iZ s a)=d)(f:s.size<=aZ)(w:aS):
  qK 229 #[aB s,qI a] w λe w'=>e=d/\w=w':=
 (YJ s a w f).mono λ_ _⟨he,hw⟩=>⟨he.trans h,hw⟩
theorem later{d:aS}(h:Bl W d)(f:Bl d e):Bl W e:=fC h f
theorem aDV(n:Nat):val (lY n)=n:=by
 induction n using Nat.strongRecOn with
 |_ n ih=>
  by_cases h:n<128
  .rw[qX h];simp[val];omega
  .rw[r8 h,val,ih _ zO];omega
theorem WV(f:Nat):∀(n:Nat)(r:List Nat),(lY n).length<=f->fM f (lY n++r)=(lY n).length:=by
 induction f with
 |zero=>intro n r h;have:=pI n;omega
 |succ f ih=>
  intro n r h;by_cases hn:n<128
  .rw[qX hn];simp[fM,hn]
  .rw[r8 hn]at h|-;simp only[iW]at h;rw[rO,fM,eE zO,ih _ _ zO,iW];rw[eE (by have:=pI (n/128);omega)]
theorem aAi(n:Nat):∀r:List Nat,(lY n++r).getD ((lY n).length-1) 0=n/128^((lY n).length-1)/\(1<(lY n).length->128^((lY n).length-1)<=n):=by
 induction n using Nat.strongRecOn with
 |_ n ih=>
  intro r;by_cases h:n<128
  .rw[qX h];simp
  .have d:=ih (n/128) zO r;have g:=pI (n/128);rw[r8 h];obtain⟨k,e⟩:∃k,(lY (n/128)).length=k+1:=⟨(lY (n/128)).length-1,zO⟩;rw[e]at d;simp only[iW,e,rO,Nat.add_sub_cancel]at d|-;refine⟨?_,λ_=>?_⟩
   .rw[List.getD_cons_succ,d.1,Nat.pow_succ,Nat.mul_comm,<-Nat.div_div_eq_div_mul]
   .rw[Nat.pow_succ];by_cases h0:k=0
    .subst h0;omega
    .have:=d.2 zO;have f:=Nat.mul_le_mul_right 128 this;omega
theorem aBc(g:jG n)(r:List Nat):uL (lY n++r)=(n,(lY n).length,0):=by
 have h:=tP g;have m:=pI n;have he:=WV 10 n r h;have f:=aAi n r;unfold uL;rw[he,eE zO,eE,List.take_left',aDV]
 .rfl
 .rw[f.1];rintro(⟨d,e⟩|⟨d,e⟩)
  .have:=f.2 d;have j:=Nat.div_pos this (Nat.pow_pos zO);omega
  .rw[d]at e;have i:=gV (Nat.lt_succ_self 1) e;have k:=(Nat.le_div_iff_mul_le (show 0<128^(10-1)from zO)).1 i;unfold jG at g;omega
theorem aEg(f:Nat):∀l:List Nat,fM f l≠0->(fM f l=1\/l.getD (fM f l-1) 0≠0)->(∀x∈l,x<256)->lY (val (l.take (fM f l)))=l.take (fM f l)/\fM f l<=l.length:=by
 induction f with
 |zero=>intro l h;simp[fM]at h
 |succ f ih=>
  intro l h e i;cases l with
  |nil=>simp[fM]at h
  |cons b r=>
   have B:=i b (DZ ..);by_cases hlt:b<128
   .simp only[fM,eI hlt];simp only[List.take_succ_cons,List.take_zero,val];rw[show b%128+128*0=b from zO,qX hlt];simp
   .have g:fM f r≠0:=by intro g;apply h;rw[fM,eE hlt,eI g]
    have q:fM (f+1) (b::r)=fM f r+1:=by rw[fM,eE hlt,eE g]
    rw[q]at e|-;have s:fM f r=1\/r.getD (fM f r-1) 0≠0:=by
     obtain⟨m,hm⟩:∃m,fM f r=m+1:=⟨fM f r-1,zO⟩;rw[hm]at e|-;obtain h1|h1:=e
     .omega
     .right;simpa using h1
    have k:r.getD (fM f r-1) 0≠0:=by
     obtain⟨m,hm⟩:∃m,fM f r=m+1:=⟨fM f r-1,zO⟩;rw[hm]at e|-;obtain h1|h1:=e
     .omega
     .simpa using h1
    obtain⟨d,u⟩:=ih r g s (λx A=>i x (BP _ A));rw[List.take_succ_cons,val];have n:val (r.take (fM f r))≠0:=by
     intro n;rw[n,qX zO]at d;have j:(r.take (fM f r)).length=1:=by rw[<-d];rfl
     rw[dI u]at j;rw[j]at d k;apply k;cases r with
     |nil=>simp at d
     |cons y r=>simp only[List.take_succ_cons,List.take_zero,List.cons.injEq,and_true]at d;rw[<-d];rfl
    refine⟨?_,by simp only[iW];omega⟩;rw[r8 zO];rw[show(b%128+128*val (r.take (fM f r)))/128=val (r.take (fM f r))from zO,d];congr 1;omega
theorem aGP{l:List Nat}(he:fM 10 l=k)(i:k<=10)(j:k<=l.length)(e:k=10->l.getD 9 0<=1):jG (val (l.take k)):=by
 unfold jG;by_cases h:k=10
 .subst h;have m:=e rfl;have g:l.take 10=l.take 9++[l.getD 9 0]:=BY zO;rw[g,KJ,dI zO];have d:=IV (l.take 9);rw[dI zO]at d;have f:128^9*(l.getD 9 0%128)<=128^9*1:=Nat.mul_le_mul_left _ zO;omega
 .have d:=IV (l.take k);have f:128^(l.take k).length<=128^9:=dW zO (by rw[jR];omega);omega
theorem aCS(f:Nat):∀l,fM f l<=f:=by
 induction f with
 |zero=>intro l;simp[fM]
 |succ f ih=>
  intro l;cases l with
  |nil=>simp[fM]
  |cons b r=>
   have:=ih r;rw[fM];split
   .omega
   .split<;>omega
theorem aBX{l:List Nat}(f:∀x∈l,x<256)(h:uL l=(n,k,0)):0<k/\k<=l.length/\lY n=l.take k/\jG n:=by
 unfold uL at h;by_cases h0:fM 10 l=0
 .rw[eI h0]at h;by_cases hl:l.length<10<;>simp[hl]at h
 .rw[eE h0]at h;by_cases hbad:(1<fM 10 l/\l.getD (fM 10 l-1) 0=0)\/(fM 10 l=10/\1<l.getD (fM 10 l-1) 0)
  .rw[eI hbad]at h;simp at h
  .rw[eE hbad]at h;simp only[Prod.mk.injEq,and_true]at h;obtain⟨rfl,rfl⟩:=h;have i:fM 10 l=1\/l.getD (fM 10 l-1) 0≠0:=by
    by_cases h1:fM 10 l=1
    .exact .inl h1
    .right;intro j;exact hbad (.inl ⟨zO,j⟩)
   obtain⟨hd,e⟩:=aEg 10 l h0 i f;refine⟨zO,e,hd,aGP rfl (aCS 10 l) e (λd=>?_)⟩;have:¬(1<l.getD (fM 10 l-1) 0):=λg=>hbad (.inr ⟨d,g⟩);rw[d]at this;simpa using this
theorem aDi{l:List Nat}(h:(uL l).2.2≠0):(uL l).1=0/\(uL l).2.1=0:=by
 unfold uL at h|-;split
 .exact⟨rfl,rfl⟩
 .split
  .exact⟨rfl,rfl⟩
  .rename_i d e;rw[eE d,eE e]at h;exact absurd rfl h
theorem oV(n:Nat):(iF n).size=(lY n).length:=by show((lY n).map bI).toArray.size=_;simp
theorem I0(a:ByteArray)(n:Nat)(b:ByteArray):eT (a++iF n++b) a.size=lY n++b.data.toList.map UInt8.toNat:=by
 unfold eT iF;simp only[ByteArray.data_append,Array.toList_append,jH];rw[show a.size=a.data.toList.length from zR,List.drop_left']
 .simp only[DO,List.map_map];congr 1;rw[List.map_congr_left (g:=id),List.map_id];intro x d;have:=MO n x d;simp only[Function.comp,dR,id];omega
 .rfl
theorem GJ(a:ByteArray)(d:jG n)(b:ByteArray):iZ (a++iF n++b) a.size=(n,(a.size:Int)+((iF n).size:Nat),0):=by
 have e:(a++iF n++b).size=a.size+(iF n).size+b.size:=by simp
 rw[iZ,eE (by rw[e];omega),xC,I0,aBc d,oV]
theorem I8(s:ByteArray)(k:Nat):∀x∈eT s k,x<256:=by intro x d;unfold eT at d;obtain⟨b,_,rfl⟩:=cG.1 d;exact b.toNat_lt
theorem zL{d f:Int}(h:iZ s d=(n,f,0)):∃a t:Nat,d=a/\f=t/\a<t/\t<=s.size/\jG n/\iF n=s.extract a t:=by
 unfold iZ at h;by_cases hc:d<0\/(s.size:Int)<d
 .rw[eI hc]at h;simp at h
 .rw[eE hc]at h;simp only[Prod.mk.injEq]at h;obtain⟨i,j,m⟩:=h;obtain⟨k,e⟩:=eR ((uL (eT s d.toNat)).2.1);have q:uL (eT s d.toNat)=(n,k,0):=by rw[<-i,<-e,<-m]
  obtain⟨y,r,hd,u⟩:=aBX (I8 s _) q;rw[qM]at r;rw[e]at j;refine⟨d.toNat,d.toNat+k,zO,zO,zO,zO,u,?_⟩;unfold iF;rw[hd];apply ByteArray.ext;rw[ByteArray.data_extract];apply Array.toList_inj.1;simp only[Array.toList_extract,List.extract_eq_take_drop,Nat.add_sub_cancel_left];unfold eT;rw[<-List.map_take,List.map_map];rw[List.map_congr_left (g:=id),List.map_id];intro x _;simp
theorem UT{at':Int}(h:(iZ s at').2.2≠0):(iZ s at').1=0/\(iZ s at').2.1=at':=by
 unfold iZ at h|-;split
 .exact⟨rfl,rfl⟩
 .rename_i d;rw[eE d]at h;have:=aDi h;exact⟨this.1,by rw[this.2];simp⟩
theorem aIY{a b:ByteArray}(h:a≠b):(a.toList==b.toList)=false:=by rw[beq_eq_false_iff_ne,bU,bU];intro d;exact h (ByteArray.ext (Array.toList_inj.1 d))
theorem UR{f d:aS}(h:Bl W f)(e:Bl f d):Bl W d/\W<=(d:Nat):=⟨later h e,(later h e).size⟩
def iT(n:Int):Nat:=if 0<=n then(2*n).toNat else(-2*n-1).toNat
def LQ(u:Nat):Int:=if u%2=0 then((u/2:Nat):Int)else-((u/2:Nat):Int)-1
def rH(n:Int):Prop:=-9223372036854775808<=n/\n<=9223372036854775807
theorem NE(n:Int):LQ (iT n)=n:=by unfold LQ iT;split<;>split<;>omega
theorem lW{n:Int}(h:rH n):jG (iT n):=by unfold rH at h;unfold jG iT;split<;>omega
theorem aFl{u:Nat}(h:jG u):rH (LQ u):=by unfold jG at h;unfold rH LQ;split<;>omega
theorem aHf:cZ 64 (-1)=BitVec.allOnes 64:=zD
theorem T0(x:Nat)(d:x<18446744073709551616):(cZ 64 (x:Int)^^^BitVec.allOnes 64).toNat=18446744073709551615-x:=by rw[BitVec.xor_allOnes,BitVec.toNat_not,BitVec.ofInt_natCast,BitVec.toNat_ofNat,Nat.mod_eq_of_lt (by simpa using d)]
theorem aFv(x:Nat)(h:jG x):bits BinOp.xor bK bK.max (x:Int)=((18446744073709551615-x:Nat):Int):=by show bK.wrap ((cZ 64 bK.max^^^cZ 64 (x:Int)).toNat:Int)=_;rw[show cZ 64 bK.max=BitVec.allOnes 64 from zD,BitVec.xor_comm,T0 x h,sU];omega
theorem aFC(m:Nat)(h:jG m):bits BinOp.and bK (m:Int) 1=((m%2:Nat):Int):=by have:=bits_and_u64_nat m 1 h zO;rw[Nat.and_one_is_mod]at this;exact this
theorem aFQ(m:Nat)(h:jG m):bits BinOp.xor aP (a9 ((m:Int)/2)) (a9 (-a9 (bits BinOp.and bK (m:Int) 1)))=LQ m:=by
 rw[aFC m h];have f:a9 ((m:Int)/2)=((m/2:Nat):Int):=by unfold jG at h;unfold a9;omega
 have e:m/2<18446744073709551616:=by unfold jG at h;omega
 rw[f];unfold LQ;by_cases hm:m%2=0
 .rw[eI hm,hm];have d:a9 (-a9 ((0:Nat):Int))=0:=by unfold a9;decide
  rw[d];show aP.wrap ((cZ 64 ((m/2:Nat):Int)^^^cZ 64 0).toNat:Int)=_;rw[show cZ 64 0=0#64 from zD,BitVec.xor_zero,BitVec.ofInt_natCast,BitVec.toNat_ofNat,Nat.mod_eq_of_lt (by simpa using e),iA];unfold jG at h;omega
 .rw[eE hm,show m%2=1 by omega];have d:a9 (-a9 ((1:Nat):Int))=-1:=by unfold a9;decide
  rw[d];show aP.wrap ((cZ 64 ((m/2:Nat):Int)^^^cZ 64 (-1)).toNat:Int)=_;rw[aHf,T0 _ e,iA];unfold jG at h;omega
theorem aGZ(m:Nat)(h:jG m)(w:aS):
  qK 230 #[aC .u64 m] w λe w'=>e=aO (qI (LQ m))/\w=w':=by have B:=aFQ m h;change Hid _ at B;go_enter func230,ntmps230;go_wp2_with fail;go_ret;exact⟨congrArg (λx=>aO (qI x)) B,rfl⟩
theorem aEZ(m r:Nat)(h:bK.wrap ((m:Int)*2)=(r:Int))(w:aS):
  qK 232 #[aC .u64 m] w λe w'=>e=aO (aC .u64 (r:Nat))/\w=w':=by go_enter func232,ntmps232;go_wp2_with fail;go_ret;exact⟨rfl,rfl⟩
theorem aD2(m q r:Nat)(h:bK.wrap ((m:Int)*2)=(q:Int))(B:bits BinOp.xor bK bK.max (q:Int)=(r:Int))(w:aS):
  qK 233 #[aC .u64 m] w λe w'=>e=aO (aC .u64 (r:Nat))/\w=w':=by go_enter func233,ntmps233;go_wp2_with fail;go_ret;exact⟨rfl,rfl⟩
theorem aFr(n:Int)(h:rH n)(w:aS):
  qK 184 #[qI n] w (Rt (aC .u64 (iT n:Nat)) w):=by
 unfold rH at h;by_cases h0:0<=n
 .obtain⟨m,rfl⟩:=qJ h0;have B:bK.wrap (m:Int)=(m:Int):=by rw[sU];omega
  have D:(m:Int)/9223372036854775808=0:=zO;have C:=eC (aEZ m (iT m) (by rw[sU,iT,eI h0];omega));clear h h0;go_enter func184,ntmps184;go_wp2_with fail;refine(C _).mono ?_;rintro e J⟨rfl,rfl⟩;go_wp2_with fail;go_ret;refine⟨rfl,?_⟩;go_grown
 .obtain⟨m,hm⟩:∃m:Nat,n+18446744073709551616=m:=⟨(n+18446744073709551616).toNat,zO⟩;have B:bK.wrap n=(m:Int):=by rw[sU];omega
  have D:(m:Int)/9223372036854775808=1:=zO;have C:=eC (aD2 m (2*m-18446744073709551616) (iT n) (by rw[sU];omega) (by
   rw[aFv _ (by unfold jG;omega),iT,eE h0];omega));clear h h0 hm;go_enter func184,ntmps184;go_wp2_with fail;refine(C _).mono ?_;rintro e J⟨rfl,rfl⟩;go_wp2_with fail;go_ret;refine⟨rfl,?_⟩;go_grown
theorem aEQ(n:Int)(h:rH n)(w:aS):
  qK 121 #[qI n] w (Rt (aB (iF (iT n))) w):=by have B:=lW h;have Z:=eC (aFr n h);generalize iT n=u at B Z|-;clear h;go_enter func121,ntmps121;go_wp2_with fail;refine(Z _).mono ?_;rintro e M⟨rfl,D⟩;go_wp2_with fail;refine(SR _ B _).mono ?_;rintro e N⟨rfl,J⟩;go_wp2_with fail;go_ret;exact⟨rfl,later D J⟩
def F3(s:ByteArray)(a:Int):Int×Int×Nat:=if(iZ s a).2.2=0 then(LQ (iZ s a).1,(iZ s a).2.1,0)else(0,a,(iZ s a).2.2)
def aKb(r:Int×Int×Nat):Ending:=aO (aF #[aC aP r.1,aC aP r.2.1,aC aP (r.2.2:Nat)])
theorem aEG(s:ByteArray)(a:Int)(w:aS)(M:s.size<=aZ):
  qK 178 #[aB s,qI a] w λe w'=>e=aKb (F3 s a)/\w=w':=by
 obtain⟨⟨n,S,D⟩,B⟩:∃r,iZ s a=r:=⟨_,rfl⟩;have O:=eC (show Got (iZ s a)=aO (aF #[aC .u64 n,qI S,qI (D:Nat)]) by rw[B];rfl);have R:=eC M;by_cases he:D=0
 .subst he;have N:jG n:=by obtain⟨_,_,_,_,_,_,N,_⟩:=zL B;exact N
  have J:=eC (show F3 s a=(LQ n,S,0) by rw[F3,B,eI rfl]);clear B M;go_enter func178,ntmps178;go_wp2_with fail;refine(aC7 O R _).mono ?_;rintro e U⟨rfl,rfl⟩;go_wp2_with fail;refine(aGZ n N _).mono ?_;rintro e U⟨rfl,rfl⟩;go_wp2_with fail;go_ret3;exact⟨by rw[J];rfl,rfl⟩
 .have J:=eC (show F3 s a=(0,a,D) by rw[F3,B,eE he]);have W:((D:Int)==0)=false:=zT;have X:((D:Int) !=0)=true:=zT;clear B M he;go_enter func178,ntmps178;go_wp2_with fail;refine(aC7 O R _).mono ?_;rintro e U⟨rfl,rfl⟩;go_wp2_with fail;go_ret3;exact⟨by rw[J];rfl,rfl⟩
def nJ(x:UInt8):aT:=aC .u8 (x.toNat:Int)
def eH(l:List UInt8):ByteArray:=⟨l.toArray⟩
def mZ(w:aS)(n:Nat)(v:aT)(l:List UInt8):Prop:=w.ownsRow n 5 1 v l.length (l.map nJ)
theorem RW:(prog.info? 5).map (λi=>(i.zero,i.size,i.bytes))=some (some (aC .u8 0),1,1):=zK
theorem mZ.nil(w:aS)(n:Nat):mZ w n qN []:=dY w n _ 1
theorem mZ.lt{w:aS}(h:mZ w n v l):∀k,v.ownBlock=some k->n<=k/\k<(w:Nat):=BK h
theorem mZ.own{w:aS}(h:mZ w n v l):∀k,v.ownBlock=some k->n<=k:=λk d=>(BK h k d).1
theorem mZ.at{w:aS}(h:mZ w n v l)(d:∀k,v.ownBlock=some k->w'.heap[k]?=w.heap[k]?):mZ w' n v l:=by
 refine⟨h.1,?_⟩;obtain hn|⟨g,cap,cur,rfl,hg,hgg,rest⟩:=h.2
 .exact .inl hn
 .exact .inr ⟨g,cap,cur,rfl,hg,by rw[d g rfl];exact hgg,rest⟩
theorem mZ.later{w:aS}(h:mZ w n v l)(d:Bl w w'):mZ w' n v l:=h.at λk e=>d.block k (h.lt k e).2
theorem mZ.slice{w:aS}(h:mZ w n v l):∃a c,v=aA a l.length c/\(a=none->l=[]):=by
 obtain⟨rfl,e⟩|⟨g,d,f,rfl,_⟩:=h.2
 .have:l=[]:=by simpa using e
  subst this;exact⟨none,0,rfl,λ_=>rfl⟩
 .exact⟨_,d,rfl,λh=>by cases h⟩
theorem aCk(l:List UInt8):∀u∈l.map nJ,u.oneCell'=true:=by intro u d;obtain⟨x,_,rfl⟩:=cG.1 d;rfl
theorem mZ.conv{w:aS}(h:mZ w n v l):(convert 173 9 v).run prog w=.ok (aB (eH l)) w:=by
 obtain⟨rfl,e⟩|⟨g,d,i,rfl,m,q,k,hm,r,s⟩:=h.2
 .have:l=[]:=by simpa using e
  subst this;exact run_convert_bytes_nil w 173 5 underlying173 underlying5 0 0 9 underlying9
 .refine run_convert_bytes_back (P:=prog) w 173 9 5 (g,0) d l underlying173 underlying5 underlying9 λj f=>?_;refine World.ownsRow.cells h (g:=g) rfl j _ ?_;rw[oY,lJ f];rfl
def nF(N:Nat)(v d:aT):Prop:=d.ownBlock=v.ownBlock\/∃k,d.ownBlock=some k/\N<=k
theorem PS{M:List Oper}{B:Act}(O:o.guard=none)(s x:Operand)
  (U:o.op=.call {callee:=.builtin .append,args:=#[s,x],argTypes:=#[173,173]})(n:Nat)(v:aT)(l:List UInt8)(Z:B.eval s=v)(Y:mZ W n v l)
  (b:UInt8)(z:Int)(j:z=(b.toNat:Int))(f:B.eval x=aA (some (W,0)) 1 1)(hn:n<=W)(ae:l.length<=100000000)
  (h:∀D w',mZ w' n D (l++[b])->(W.alloc (aK #[aC .u8 z] 5)).grownBy w' v.ownBlock->nF W v D->wpList prog ops Q M (B.put o.dst D) w'):
  wpList prog ops Q (o::M) B (W.alloc (aK #[aC .u8 z] 5)):=by
 obtain⟨i0,R,y,aa,ab⟩:=info_parts RW;subst j;refine wpList_append_lies _ O s x 173 U n 5 i0 (aC .u8 0) 1 1 underlying173 R y aa ab rfl zD v l.length (l.map nJ) Z (World.ownsRow.alloc Y _) (W,0) 1 1 [nJ b] f rfl (cell_one_new _ _ _) (by intro u J;simp at J;subst J;rfl) zD (by unfold aZ;omega) zO zT ((W:Nat)+1) zS (λg ac w' X N S _=>h _ w' ?_ N ?_)
 .unfold mZ;simpa using X
 .obtain h1|h1:=S
  .exact .inl (by rw[h1];rfl)
  .exact .inr ⟨g,rfl,zO⟩
section
variable (w : aS)
theorem aAv(n:Nat)(v:aT)(l:List UInt8)(m:mZ w n v l)(t:ByteArray)(e:aX)(G:l.length+t.size<=100000000)(k:aT)(w':aS)
  (d:(Builtin.append_ #[173,9] e #[v,aB t]).run prog w=.ok k w')(A:k=aA none 0 0↔v=aA none 0 0/\t.size=0):nF w v k:=by
 obtain⟨i,h,q,r,s⟩:=info_parts RW;obtain⟨rfl,C⟩|⟨g,f,x,rfl,D,y,J,E,F,K⟩:=m.2
 .by_cases hm:t.size=0
  .rw[A.2 ⟨rfl,hm⟩];exact .inl rfl
  .have:=Go.run_append_nil_string (P:=prog) w 173 9 e 5 i (aC .u8 0) underlying173 underlying9 h q t zO zO (by rw[s];omega);rw[this]at d;injection d with h1 h2;subst h1;exact .inr ⟨_,rfl,eX _⟩
 .by_cases hroom:l.length+t.size<=f
  .have:=Lib.run_append_room_string (P:=prog) w 173 9 e 5 i underlying173 underlying9 h r g l.length f x y t hroom zO;rw[this]at d;injection d with h1 h2;subst h1;exact .inl rfl
  .have B:∀j u,(l.map nJ)[j]?=some u->w.cell? (((g,0):Addr).add j)=some u:=World.ownsRow.cells m (g:=g) rfl;have:=Lib.run_append_grow_string (P:=prog) w 173 9 e 5 i (aC .u8 0) underlying173 underlying9 h q (g,0) l.length f (l.map nJ) (by rw[r];simp) B t zO zO (by rw[s];exact growslice_fits zO zO);rw[this]at d;injection d with h1 h2;subst h1;exact .inr ⟨_,rfl,eX _⟩
end
theorem P5{N:List Oper}{D:Act}(X:o.guard=none)(s x:Operand)
  (j:o.op=.call {callee:=.builtin .append,args:=#[s,x],argTypes:=#[173,9]})(n:Nat)(v:aT)(l:List UInt8)(u:D.eval s=v)(M:mZ W n v l)
  (t:ByteArray)(y:D.eval x=aB t)(f:n<=W)(Z:l.length+t.size<=100000000)
  (h:∀B w',mZ w' n B (l++t.data.toList)->W.grownBy w' v.ownBlock->nF W v B->wpList prog ops Q N (D.put o.dst B) w'):
  wpList prog ops Q (o::N) D W:=by
 obtain⟨i0,Y,aa,ab,ac⟩:=info_parts RW;refine wpList_plain X λK hK=>?_;obtain⟨B,w',J,R,S,U⟩:=Lib.run_append_own_string (P:=prog) W n 173 9 o.type 5 i0 underlying173 underlying9 Y aa ab ac v l.length (l.map nJ) M t (by unfold aZ;omega) zO f;have hf:=aAv W n v l M t o.type Z B w' J U;unfold Oper.wp execOp;simp only[j,resolve,invoke,builtin,Sem.run_bind,Sem.run_pure,Result.andThen_ok,List.map_toArray,List.map_cons,List.map_nil,u,y,J];refine hK _ _ (h B w' ?_ S hf);unfold mZ;have e:Lib.strCells t=t.data.toList.map nJ:=rfl;rw[iR,DO,<-e];have O:t.data.toList.length=t.size:=by simp
 rw[O];exact R
theorem mZ.asSlice{w:aS}(h:mZ w n v l):∃a k c,v=aA a k c:=by obtain⟨a,c,d,_⟩:=h.slice;exact⟨a,_,c,d⟩
structure fY(w:aS)(n p:Nat)(v:aT)(l:List UInt8):Prop where
 base:n<=p
 box:Boxed w p 175 v
 row:mZ w n v l
structure Ow(p:Nat)(v:aT)(w w':aS):Prop where
 os:w'.os=w.os
 tape:w'.tape=w.tape
 output:w'.output=w.output
 size:(w:Nat)<=(w':Nat)
 block:∀k,k<(w:Nat)->k≠p->some k≠v.ownBlock->w'.heap[k]?=w.heap[k]?
theorem Ow.below{w:aS}(h:Ow p v w w')(hw:fY w n p v l):aV n w w':=
 ⟨h.os,h.tape,h.output,h.size,λk d=>h.block k (by have:=hw.box.lt;have:=hw.base;omega) (by have:=hw.base;omega) (λe=>by have:=hw.row.own k e.symm;omega)⟩
theorem Ow.refl(p:Nat)(v:aT)(w:aS):Ow p v w w:=⟨rfl,rfl,rfl,eX _,λ_ _ _ _=>rfl⟩
theorem Ow.trans{p:Nat}{v j:aT}{u w x:aS}(h:Ow p v u w)(hf:nF u v j)(k:Ow p j w x):Ow p v u x:=
 ⟨k.os.trans h.os,k.tape.trans h.tape,k.output.trans h.output,fA h.size k.size,λi d f g=>(k.block i (gV d h.size) f (by
  obtain e|⟨b,e,hb⟩:=hf
  .rw[e];exact g
  .rw[e];intro m;cases m;omega)).trans (h.block i d f g)⟩
theorem nF.trans{N M:Nat}{v d f:aT}(h:nF N v d)(k:nF M d f)(g:N<=M):nF N v f:=by
 obtain e|⟨b,e,hb⟩:=k
 .obtain e2|⟨b,e2,hb⟩:=h
  .exact .inl (e.trans e2)
  .exact .inr ⟨b,e.trans e2,hb⟩
 .exact .inr ⟨b,e,zO⟩
theorem nF.mono{N M:Nat}{d:aT}(h:nF N v d)(f:M<=N):nF M v d:=by
 obtain e|⟨b,e,hb⟩:=h
 .exact .inl e
 .exact .inr ⟨b,e,zO⟩
theorem nF.refl(N:Nat)(v:aT):nF N v v:=.inl rfl
theorem fY.later{w w':aS}{n p:Nat}{v:aT}{l:List UInt8}(h:fY w n p v l)(d:Bl w w'):fY w' n p v l:=
 ⟨h.base,(d.block p h.box.lt).trans h.box,h.row.later d⟩
theorem fY.new(w:aS)(n:Nat)(d:n<=w):fY (w.alloc (aK #[qN] 175)) n w qN []:=⟨d,oI w _ _,mZ.nil _ _⟩
def sL(n p:Nat)(v:aT)(f:List UInt8)(w:aS)(e:Ending)(w':aS):Prop:=
 e=aO (.pointer (some ⟨p,0,none⟩))/\∃d,fY w' n p d f/\Ow p v w w'/\nF (w:Nat) v d
theorem fY.stored{w s i:aS}{g:aT}{r:List UInt8}(h:fY w n p v l)(d:Bl w s)(f:s.grownBy i v.ownBlock)(q:mZ i n g r)(hf:nF w v g):
  Boxed i p 175 v/\sL n p v r w (aO (qP p 0)) (qS i (p,0) g):=by have y:some p≠v.ownBlock:=h.box.not_row zD h.row;have m:Boxed i p 175 v:=(f.block p (gV h.box.lt d.size) y).trans ((d.block p h.box.lt).trans h.box);have A:some p≠g.ownBlock:=m.not_row zD q;refine⟨m,rfl,g,⟨h.base,m.set g,q.at λk j=>pU _ _ _ _ (λe=>A (by rw[j,e]))⟩,⟨f.os.trans d.os,f.tape.trans d.tape,f.output.trans d.output,by simp;exact fA d.size f.size,λk j u x=>?_⟩,hf⟩;exact(pU _ _ _ _ u).trans ((f.block k (gV j d.size) x).trans (d.block k j))
theorem pJ(w:aS):qK 39 #[] w λe w'=>e=aO (qP w 0)/\w.alloc (aK #[qN] 175)=w':=by go_enter func39,ntmps39;go_wp2;go_ret;exact⟨rfl,rfl⟩
theorem qD(n p:Nat)(v:aT)(l:List UInt8)(b:UInt8)(w:aS)(h:fY w n p v l)(N:l.length<=10000000):
  qK 40 #[qP p 0,aC .u8 b.toNat] w (sL n p v (l++[b]) w):=by have X:=h.box.cell;have S:n<=w:=cY (Nat.lt_of_le_of_lt h.base h.box.lt);have H:=eC h;have R:=eC N;clear h N;go_enter func40,ntmps40;go_wp2_with(at_builtin;refine PS rfl (.tmp 9) (.tmp 11) rfl n v l rfl H.row b _ rfl rfl S (fA R zD) ?_;intro j u D M hf;obtain⟨U,f,W,rfl⟩:=D.asSlice;obtain⟨B,J⟩:=H.stored (fL _ _) M D hf;have Y:=B.cell;have Z:=B.frozen;have O:=eC J;clear J D M hf B);go_ret;exact O
theorem yI(n p:Nat)(v:aT)(l:List UInt8)(t:ByteArray)(w:aS)(h:fY w n p v l)(N:l.length+t.size<=100000000):
  qK 119 #[qP p 0,aB t] w (sL n p v (l++t.data.toList) w):=by have X:=h.box.cell;have S:n<=w:=cY (Nat.lt_of_le_of_lt h.base h.box.lt);have H:=eC h;have R:=eC N;clear h N;go_enter func119,ntmps119;go_wp2_with(at_builtin;refine P5 rfl (.tmp 9) (.tmp 10) rfl n v l rfl H.row t rfl S R ?_;intro j u D M hf;obtain⟨U,f,W,rfl⟩:=D.asSlice;obtain⟨B,J⟩:=H.stored (iL _ _) M D hf;have Y:=B.cell;have Z:=B.frozen;have O:=eC J;clear J D M hf B);go_ret;exact O
theorem mE(n p:Nat)(v:aT)(l:List UInt8)(w:aS)(h:fY w n p v l):
  qK 42 #[qP p 0] w λe w'=>e=aO (aB (eH l))/\w=w':=by
 have B:=h.box.cell;have hcv:=h.row.conv
 clear h;go_enter func42,ntmps42;go_wp2;go_ret;exact⟨rfl,rfl⟩
theorem sL.later{i:List UInt8}{w j:aS}{e:Ending}(hw:fY w n p v l)(d:Bl w j)(h:sL n p v i j e w'):sL n p v i w e w':=by obtain⟨he,u,m,f,q⟩:=h;refine⟨he,u,m,⟨f.os.trans d.os,f.tape.trans d.tape,f.output.trans d.output,fA d.size f.size,λk g r s=>(f.block k (gV g d.size) r s).trans (d.block k g)⟩,q.mono d.size⟩
def eK(m:Nat):List UInt8:=(lY m).map bI
theorem eU(h:jG m):(eK m).length<=10:=by rw[eK,rN];exact tP h
theorem aER(m:Nat):eH (eK m)=iF m:=rfl
theorem lS(n p:Nat)(v:aT)(l:List UInt8)(m:Nat)(w:aS)(h:fY w n p v l)(hm:jG m)(N:l.length<=10000000):
  qK 44 #[qP p 0,aC .u64 m] w (sL n p v (l++eK m) w):=by have H:=eC h;have J:=eC (show l.length+(iF m).size<=100000000 by have:=eU hm;rw[eK,rN]at this;rw[oV];omega);clear h N;go_enter func44,ntmps44;go_wp2_with fail;refine(SR m hm _).mono ?_;rintro e O⟨rfl,D⟩;go_wp2_with fail;refine(yI n p v l (iF m) _ (H.later D) J).mono ?_;rintro e R hW;have B:=hW.later H D;obtain⟨rfl,_⟩:=hW;have M:=eC B;clear B;go_wp2_with fail;go_ret;exact M
theorem yP(n p:Nat)(v:aT)(l:List UInt8)(m:Int)(w:aS)(h:fY w n p v l)(hm:rH m)(N:l.length<=10000000):
  qK 45 #[qP p 0,qI m] w (sL n p v (l++eK (iT m)) w):=by have H:=eC h;have J:=eC (show l.length+(iF (iT m)).size<=100000000 by have:=eU (lW hm);rw[eK,rN]at this;rw[oV];omega);clear h N;go_enter func45,ntmps45;go_wp2_with fail;refine(aEQ m hm _).mono ?_;rintro e O⟨rfl,D⟩;go_wp2_with fail;refine(yI n p v l (iF (iT m)) _ (H.later D) J).mono ?_;rintro e R hW;have B:=hW.later H D;obtain⟨rfl,_⟩:=hW;have M:=eC B;clear B;go_wp2_with fail;go_ret;exact M
theorem aAW(n p:Nat)(v:aT)(l:List UInt8)(t:ByteArray)(w:aS)(h:fY w n p v l)(X:l.length+t.size<=10000000):
  qK 163 #[qP p 0,aB t] w (sL n p v (l++eK t.size++t.data.toList) w):=by
 have hm:jG t.size:=by unfold jG;omega
 have H:=eC h;have S:=eC (show(l++eK t.size).length+t.size<=100000000 by have:=eU hm;rw[iR];omega);have U:=eC (show l.length<=10000000 from zO);have x:t.size<=10000000:=zO;clear h X;go_enter func163,ntmps163;go_wp2_with fail;refine(lS n p v l t.size _ H hm U).mono ?_;rintro e y hW;obtain⟨rfl,j,J,N,M⟩:=hW;have R:=eC J;have D:=eC N;have B:=eC M;clear J N M;go_wp2_with fail;refine(yI n p j (l++eK t.size) t _ R S).mono ?_;rintro e w2⟨rfl,O⟩;have W:=eC O;clear O;go_wp2_with fail;go_ret;obtain⟨u,Y,Z,f⟩:=W.out;exact⟨rfl,u,Y,D.trans B Z,B.trans f D.size⟩
structure eV(w:aS)(r:Nat)(s:ByteArray)(a er:Nat):Prop where
 blk:w.heap[r]?=some (aK #[aB s,aC aP a,aC aP er] 189 (0,0))
theorem eV.lt{w:aS}(h:eV w r s a d):r<w:=(fB.1 h.blk).1
theorem eV.c0{w:aS}(h:eV w r s a d):w.cell? (r,0)=some (aB s):=by simp[bH,h.blk]
theorem eV.c1{w:aS}(h:eV w r s a d):w.cell? (r,1)=some (qI a):=by simp[bH,h.blk]
theorem eV.c2{w:aS}(h:eV w r s a d):w.cell? (r,2)=some (qI d):=by simp[bH,h.blk]
theorem eV.fr{w:aS}(h:eV w r s a d)(o:Nat):w.frozen? (r,o)=false:=by simp[World.frozen?,h.blk]
theorem eV.at{w:aS}(h:eV w r s a d)(e:w'.heap[r]?=w.heap[r]?):eV w' r s a d:=⟨e.trans h.blk⟩
theorem eV.later{w:aS}(h:eV w r s a d)(e:Bl w w'):eV w' r s a d:=h.at (e.block r h.lt)
theorem eV.new(w:aS)(s:ByteArray):eV (w.alloc (aK #[aB s,qI 0,qI 0] 189)) w s 0 0:=⟨E9 w _⟩
theorem tT{w:aS}{d:Array aT}{T:aX}(h:w.heap[r]?=some (aK d T (0,0)))(o:Nat)(v:aT):(qS w (r,o) v).heap[r]?=some (aK (d.setIfInBounds o v) T (0,0)):=by obtain⟨f,e⟩:=fB.1 h;show(w.heap.modify r _)[r]?=_;rw[SZ (by rw[Array.size_modify];exact f),Array.getElem_modify_self,e];rfl
theorem eV.set1{w:aS}(h:eV w r s a d)(a':Nat):eV (qS w (r,1) (qI a')) r s a' d:=⟨tT h.blk 1 _⟩
theorem eV.set2{w:aS}{e:Nat}(h:eV w r s a e)(d:Nat):eV (qS w (r,2) (qI d)) r s a d:=⟨tT h.blk 2 _⟩
theorem zM(s:ByteArray)(w:aS):qK 123 #[aB s] w λe w'=>e=aO (qP w 0)/\w.alloc (aK #[aB s,qI 0,qI 0] 189)=w':=by go_enter func123,ntmps123;go_wp2;go_ret;exact⟨rfl,rfl⟩
theorem PT(r:Nat)(s:ByteArray)(a B:Nat)(w:aS)(h:eV w r s a B):qK 239 #[qP r 0] w λe w'=>e=aO (qI a)/\w=w':=by have D:=h.c1;clear h;go_enter func239,ntmps239;go_wp2;go_ret;exact⟨rfl,rfl⟩
def pH(s:ByteArray)(a d:Nat):Nat:=if d=0/\a<s.size then 5 else d
theorem aEK(r:Nat)(s:ByteArray)(a B:Nat)(w:aS)(h:eV w r s a B):qK 125 #[qP r 0] w (Rt (qI (pH s a B:Nat)) w):=by
 have J:=h.c0;have M:=h.c1;have N:=h.c2;clear h;have D:∀n,Bl w (w.drewN n):=λn=>⟨rfl,rfl,rfl,eX _,λ_ _=>rfl⟩;by_cases h0:B=0
 .subst h0;by_cases h1:a<s.size
  .have he:=eC (show pH s a 0=5 by unfold pH;rw[eI ⟨rfl,h1⟩]);have hd:decide ((a:Int)<s.size)=true:=zT;have G7:decide (a<s.size)=true:=zT;go_enter func125,ntmps125;go_wp2;go_quiet (fail);go_wp2;go_ret;exact⟨by rw[he];rfl,D _⟩
  .have he:=eC (show pH s a 0=0 by unfold pH;rw[eE zO]);have hd:decide ((a:Int)<s.size)=false:=zT;have G7:decide (a<s.size)=false:=zT;go_enter func125,ntmps125;go_wp2;go_quiet (fail);go_wp2;go_ret;exact⟨by rw[he];rfl,D _⟩
 .have he:=eC (show pH s a B=B by unfold pH;rw[eE zO]);have hd:((B:Int)==0)=false:=zT;go_enter func125,ntmps125;go_wp2;go_quiet (fail);go_wp2;go_ret;exact⟨by rw[he];rfl,D _⟩
def uF(a d f e:Nat):Nat:=if d=0/\e=0 then f else a
def xM(d e:Nat):Nat:=if d=0 then e else d
def okB(d e:Nat):Bool:=decide (d=0/\e=0)
theorem zY(r:Nat)(s:ByteArray)(a D J B:Nat)(w:aS)(h:eV w r s a D):qK 180 #[qP r 0,qI J,qI B] w λe w'=>e=aO (aG (okB D B))/\eV w' r s (uF a D J B) (xM D B)/\eN r w w':=by
 have O:=h.c0;have R:=h.c1;have S:=h.c2;have f1:=h.fr 1;have f2:=h.fr 2;change Hid _ at h;by_cases h0:D=0
 .subst h0;by_cases h1:B=0
  .subst h1;go_enter func180,ntmps180;go_wp2;go_ret;exact⟨rfl,(h.set2 0).set1 J,((eN.refl _ _).setCell 2 _).setCell 1 _⟩
  .have hd:((B:Int)==0)=false:=zT;have M:=eC (show uF a 0 J B=a by unfold uF;rw[eE zO]);have hdd:=eC (show okB 0 B=false by unfold okB;simp;omega);clear h1;go_enter func180,ntmps180;go_wp2;go_ret;exact⟨by rw[hdd];rfl,by rw[M];exact h.set2 B,(eN.refl _ _).setCell 2 _⟩
 .have hd:((D:Int)==0)=false:=zT;have M:=eC (show uF a D J B=a by unfold uF;rw[eE zO]);have N:=eC (show xM D B=D by unfold xM;rw[eE h0]);have hdd:=eC (show okB D B=false by unfold okB;simp;omega);clear h0;go_enter func180,ntmps180;go_wp2;go_ret;exact⟨by rw[hdd];rfl,by rw[M,N];exact h,eN.refl _ _⟩
def tk{α:Type}(er aa:Nat)(x z:α):α:=if er=0/\aa=0 then x else z
theorem MG(r:Nat)(s:ByteArray)(a B J D:Nat)(n:Int)(w:aS)(h:eV w r s a B):qK 179 #[aD (.func 180) #[qP r 0] #[],qI n,qI J,qI D] w λe w'=>e=aO (qI (tk B D n 0))/\eV w' r s (uF a B J D) (xM B D)/\eN r w w':=by
 change Hid _ at h;by_cases h0:B=0/\D=0
 .have O:=eC (show okB B D=true by unfold okB;simpa using h0);have R:=eC (show tk B D n 0=n by unfold tk;rw[eI h0]);clear h0;go_enter func179,ntmps179;go_wp2_with(go_at_call 180;refine(zY r s a B J D _ h).mono ?_;rintro e W⟨rfl,N,M⟩;rw[O]);go_ret;exact⟨by rw[R];rfl,N,M⟩
 .have O:=eC (show okB B D=false by unfold okB;simpa using h0);have R:=eC (show tk B D n 0=0 by unfold tk;rw[eE h0]);clear h0;go_enter func179,ntmps179;go_wp2_with(go_at_call 180;refine(zY r s a B J D _ h).mono ?_;rintro e W⟨rfl,N,M⟩;rw[O]);go_ret;exact⟨by rw[R];rfl,N,M⟩
theorem AL(r:Nat)(s:ByteArray)(a B J D:Nat)(t:ByteArray)(w:aS)(h:eV w r s a B):qK 234 #[aD (.func 180) #[qP r 0] #[],aB t,qI J,qI D] w λe w'=>e=aO (aB (tk B D t ⟨#[]⟩))/\eV w' r s (uF a B J D) (xM B D)/\eN r w w':=by
 change Hid _ at h;by_cases h0:B=0/\D=0
 .have O:=eC (show okB B D=true by unfold okB;simpa using h0);have R:=eC (show tk B D t ⟨#[]⟩=t by unfold tk;rw[eI h0]);clear h0;go_enter func234,ntmps234;go_wp2_with(go_at_call 180;refine(zY r s a B J D _ h).mono ?_;rintro e W⟨rfl,N,M⟩;rw[O]);go_ret;exact⟨by rw[R];rfl,N,M⟩
 .have O:=eC (show okB B D=false by unfold okB;simpa using h0);have R:=eC (show tk B D t ⟨#[]⟩=⟨#[]⟩ by unfold tk;rw[eE h0]);clear h0;go_enter func234,ntmps234;go_wp2_with(go_at_call 180;refine(zY r s a B J D _ h).mono ?_;rintro e W⟨rfl,N,M⟩;rw[O]);go_ret;exact⟨by rw[R];rfl,N,M⟩
theorem aFL(s:ByteArray)(a:Nat)(m:a<=s.size):∃n f d:Nat,iZ s a=(n,(f:Int),d)/\a<=f/\f<=s.size/\jG n/\(d≠0->n=0/\f=a):=by
 obtain⟨⟨n,f,d⟩,e⟩:∃r,iZ s a=r:=⟨_,rfl⟩;by_cases h:d=0
 .subst h;obtain⟨a',t,q,j,i,g,k,_⟩:=zL e;have:a'=a:=zO;subst this;exact⟨n,t,0,by rw[e,j],zO,g,k,λh=>absurd rfl h⟩
 .have he:=UT (s:=s) (at':=a) (by rw[e];exact h);rw[e]at he;simp only at he;obtain⟨i,g⟩:=he;subst i;exact⟨0,a,d,by rw[e,g],eX _,m,by unfold jG;omega,λ_=>⟨rfl,rfl⟩⟩
def gN(s:ByteArray)(a:Nat):Nat:=(iZ s a).1
def gT(s:ByteArray)(a:Nat):Nat:=(iZ s a).2.1.toNat
def gE(s:ByteArray)(a:Nat):Nat:=(iZ s a).2.2
theorem A0(s:ByteArray)(a:Nat)(i:a<=s.size):iZ s a=(gN s a,(gT s a:Int),gE s a)/\a<=gT s a/\gT s a<=s.size/\jG (gN s a)/\(gE s a≠0->gN s a=0/\gT s a=a):=by obtain⟨n,k,j,h,d,e,f,g⟩:=aFL s a i;unfold gN gT gE;rw[h];simp only[xC];exact⟨trivial,d,e,f,g⟩
theorem eN.drewN{w:aS}(h:eN b (w.drewN k) w'):eN b w w':=⟨h.os,h.tape,h.output,h.size,h.block⟩
theorem eV.drewN{w:aS}(h:eV w r s a d)(k:Nat):eV (w.drewN k) r s a d:=h.at rfl
theorem aH3(s:ByteArray)(a:Nat)(w:aS)(i:s.size<=aZ)(g:a<=s.size):qK 229 #[aB s,qI a] w λe w'=>e=aO (aF #[aC .u64 (gN s a:Nat),qI (gT s a:Nat),qI (gE s a:Nat)])/\w'=w:=by have h:=YJ s a w i;rw[(A0 s a g).1]at h;exact h.mono λe w'⟨d,f⟩=>⟨d,f.symm⟩
def zN(s:ByteArray)(a:Nat):Int:=if gE s a=0 then LQ (gN s a)else 0
theorem aJb(s:ByteArray)(a:Nat)(w:aS)(k:s.size<=aZ)(j:a<=s.size):qK 178 #[aB s,qI a] w λe w'=>e=aO (aF #[qI (zN s a),qI (gT s a:Nat),qI (gE s a:Nat)])/\w'=w:=by
 have h:=aEG s a w k;obtain⟨d,_,_,_,f⟩:=A0 s a j;refine h.mono λe w'⟨g,i⟩=>⟨g.trans ?_,i.symm⟩;unfold aKb F3 zN;rw[d];simp only;by_cases hg:gE s a=0
 .rw[eI hg,eI hg,hg]
 .rw[eE hg,eE hg,(f hg).2]
theorem TJ(r:Nat)(s:ByteArray)(a B:Nat)(w:aS)(h:eV w r s a B)(O:s.size<=aZ)(N:a<=s.size):
  qK 109 #[qP r 0] w λe w'=>e=aO (qI (tk B (gE s a) (zN s a) 0))/\eV w' r s (uF a B (gT s a) (gE s a)) (xM B (gE s a))/\eN r w w':=by have U:=IZ;have R:=h.c0;have S:=h.c1;have D:=eC (λW=>aJb s a W O N);change Hid _ at h;generalize zN s a=n at D|-;generalize gT s a=t at D|-;generalize gE s a=g at D|-;go_enter func109,ntmps109;go_wp2;go_quiet ((go_at_call 178;exact JE (D _)));go_wp2_with fail;refine(MG r s a B t g n _ (h.drewN _)).mono ?_;rintro e W⟨rfl,M,J⟩;go_wp2_with fail;go_ret;exact⟨rfl,M,J.drewN⟩
def cE(s:ByteArray)(a:Nat)(d:Int):Nat:=if gE s a=0/\(d<0\/d<(gN s a:Int))then 4 else gE s a
theorem TI(r:Nat)(s:ByteArray)(a O:Nat)(B:Int)(w:aS)(h:eV w r s a O)(R:s.size<=aZ)(M:a<=s.size)(hm:-9223372036854775808<=B/\B<=9223372036854775807):
  qK 181 #[qP r 0,qI B] w λe w'=>e=aO (aF #[qI (a9 (gN s a:Nat)),qI (gT s a:Nat),qI (cE s a B:Nat)])/\∃k,w'=w.drewN k:=by
 have S:=h.c0;have U:=h.c1;have D:=eC (λW=>aH3 s a W R M);have N:=(A0 s a M).2.2.2.1;clear h;unfold cE;generalize gN s a=n at D N|-;generalize gT s a=t at D|-;generalize gE s a=g at D|-;unfold jG at N;obtain⟨X,Y⟩:=hm;by_cases hg:g=0
 .subst hg;by_cases hneg:B<0
  .have J:=eC (show(if(0:Nat)=0/\(B<0\/B<(n:Int))then 4 else 0)=4 by rw[eI ⟨rfl,.inl hneg⟩]);rw[J];have hd:decide (B<0)=true:=zT;go_enter func181,ntmps181;go_wp2;go_quiet ((go_at_call 229;exact JE (D _)));go_wp2;go_ret3;exact⟨rfl,_,rfl⟩
  .obtain⟨m,rfl⟩:=qJ (show 0<=B from zO);by_cases hgt:m<n
   .have J:=eC (show(if(0:Nat)=0/\((m:Int)<0\/(m:Int)<(n:Int))then 4 else 0)=4 by rw[eI ⟨rfl,.inr zO⟩]);rw[J];have hd:decide ((m:Int)<n)=true:=zT;have G7:decide (m<n)=true:=zT;clear hgt;go_enter func181,ntmps181;go_wp2;go_quiet ((go_at_call 229;exact JE (D _)));go_wp2;go_ret3;exact⟨rfl,_,rfl⟩
   .have J:=eC (show(if(0:Nat)=0/\((m:Int)<0\/(m:Int)<(n:Int))then 4 else 0)=0 by rw[eE zO]);rw[J];have hd:decide ((m:Int)<n)=false:=zT;have G7:decide (m<n)=false:=zT;clear hgt;go_enter func181,ntmps181;go_wp2;go_quiet ((go_at_call 229;exact JE (D _)));go_wp2;go_ret3;exact⟨rfl,_,rfl⟩
 .have J:=eC (show(if g=0/\(B<0\/B<(n:Int))then 4 else g)=g by rw[eE zO]);rw[J];have hd:((g:Int)==0)=false:=zT;clear hg;go_enter func181,ntmps181;go_wp2;go_quiet ((go_at_call 229;exact JE (D _)));go_wp2;go_ret3;exact⟨rfl,_,rfl⟩
theorem JJ(r:Nat)(s:ByteArray)(a D:Nat)(B:Int)(w:aS)(h:eV w r s a D)(R:s.size<=aZ)(O:a<=s.size)(hm:-9223372036854775808<=B/\B<=9223372036854775807):
  qK 111 #[qP r 0,qI B] w λe w'=>e=aO (qI (tk D (cE s a B) (a9 (gN s a:Nat)) 0))/\eV w' r s (uF a D (gT s a) (cE s a B)) (xM D (cE s a B))/\eN r w w':=by have S:=IZ;have J:=eC (TI r s a D B w h R O hm);change Hid _ at h;clear hm;generalize a9 (gN s a:Nat)=n at J|-;generalize gT s a=t at J|-;generalize cE s a B=g at J|-;go_enter func111,ntmps111;go_wp2_with fail;refine J.mono ?_;rintro e U⟨rfl,k,rfl⟩;go_wp2_with fail;refine(MG r s a D t g n _ (h.drewN _)).mono ?_;rintro e W⟨rfl,N,M⟩;go_wp2_with fail;go_ret;exact⟨rfl,N,M.drewN⟩
def pS(s:ByteArray)(a n:Nat):ByteArray:=if a+n<=s.size then s.extract a (a+n)else⟨#[]⟩
def pT(s:ByteArray)(a n:Nat):Nat:=if a+n<=s.size then a+n else a
def pE(s:ByteArray)(a n:Nat):Nat:=if a+n<=s.size then 0 else 2
theorem aHI{f:ByteArray}{b d c e:Int}(g:s=f)(h:b=d)(i:c=e):aO (aF #[aB s,qI b,qI c])=aO (aF #[aB f,qI d,qI e]):=by rw[g,h,i]
theorem N7(r:Nat)(s:ByteArray)(a J q n:Nat)(w:aS)(h:eV w r s a J)(M:s.size<=aZ)(hq:q<=s.size)(O:n<=9223372036854775807):
  qK 235 #[qP r 0,qI q,qI n] w λe w'=>e=aO (aF #[aB (pS s q n),qI (pT s q n:Nat),qI (pE s q n:Nat)])/\w=w':=by
 have N:=h.c0;clear h;unfold aZ at M;have S:(0:Int)<=(s.size:Int)-q:=zO;by_cases hlt:q+n<=s.size
 .have B:=eC (show pS s q n=s.extract q (q+n) by unfold pS;rw[eI hlt]);have D:=eC (show pT s q n=q+n by unfold pT;rw[eI hlt]);have e3:=eC (show pE s q n=0 by unfold pE;rw[eI hlt]);have hd:decide ((s.size:Int)-q<n)=false:=zT;have R:q<=q+n:=zO;go_enter func235,ntmps235;go_wp2;go_ret3;exact⟨aHI B.symm (by rw[D];omega) (by rw[e3];rfl),rfl⟩
 .have B:=eC (show pS s q n=⟨#[]⟩ by unfold pS;rw[eE hlt]);have D:=eC (show pT s q n=q by unfold pT;rw[eE hlt]);have e3:=eC (show pE s q n=2 by unfold pE;rw[eE hlt]);have hd:decide ((s.size:Int)-q<n)=true:=zT;clear hlt;go_enter func235,ntmps235;go_wp2;go_ret3;exact⟨aHI B.symm (by rw[D]) (by rw[e3];rfl),rfl⟩
theorem aJ4(h:a<=s.size):a<=pT s a n/\pT s a n<=s.size:=by unfold pT;split<;>omega
def xS(s:ByteArray)(a:Nat)(d:Int):ByteArray:=if cE s a d=0 then pS s (gT s a) (gN s a)else⟨#[]⟩
def xT(s:ByteArray)(a:Nat)(d:Int):Nat:=if cE s a d=0 then pT s (gT s a) (gN s a)else gT s a
def xE(s:ByteArray)(a:Nat)(d:Int):Nat:=if cE s a d=0 then pE s (gT s a) (gN s a)else cE s a d
theorem aJC{d:Int}(h:cE s a d=0):gE s a=0/\0<=d/\(gN s a:Int)<=d:=by
 unfold cE at h;by_cases hc:gE s a=0/\(d<0\/d<(gN s a:Int))
 .rw[eI hc]at h;omega
 .rw[eE hc]at h;exact⟨h,zO,zO⟩
theorem aAz(r:Nat)(s:ByteArray)(a D:Nat)(B:Int)(w:aS)(h:eV w r s a D)(U:s.size<=aZ)(S:a<=s.size)(hm:-9223372036854775808<=B/\B<=9223372036854775807):
  qK 244 #[qP r 0,qI B] w λe w'=>e=aO (aB (tk D (xE s a B) (xS s a B) ⟨#[]⟩))/\eV w' r s (uF a D (xT s a B) (xE s a B)) (xM D (xE s a B))/\eN r w w':=by
 have j:=IZ;have J:=eC (TI r s a D B w h U S hm);obtain⟨_,_,R,_,_⟩:=A0 s a S;change Hid _ at h;unfold xS xT xE;by_cases hc:cE s a B=0
 .obtain⟨_,X,Y⟩:=aJC hc;rw[eI hc,eI hc,eI hc];have hw:a9 (gN s a:Nat)=(gN s a:Nat):=by unfold a9;omega
  rw[hc,hw]at J;have M:=eC (λW N=>N7 r s a D (gT s a) (gN s a) W N U R zO);clear hc X Y hm hw;generalize gN s a=n at J M|-;generalize gT s a=t at J M R|-;generalize pS s t n=x at M|-;generalize pT s t n=y at M|-;generalize pE s t n=z at M|-;go_enter func244,ntmps244;go_wp2_with fail;refine J.mono ?_;rintro e Z⟨rfl,k,rfl⟩;go_wp2_with fail;refine(M _ (h.drewN _)).mono ?_;rintro e u⟨rfl,rfl⟩;go_wp2_with fail;refine(AL r s a D y z x _ (h.drewN _)).mono ?_;rintro e W⟨rfl,N,O⟩;go_wp2_with fail;go_ret;exact⟨rfl,N,O.drewN⟩
 .rw[eE hc,eE hc,eE hc];generalize cE s a B=g at J hc|-;generalize a9 (gN s a:Nat)=n at J;generalize gT s a=t at J R|-;have hd:(!((g:Int)==0))=true:=zT;have G7:((g:Int) !=0)=true:=zT;have f:=eC (show tk D g (⟨#[]⟩:ByteArray) ⟨#[]⟩=⟨#[]⟩ by unfold tk;split<;>rfl);clear hc hm;go_enter func244,ntmps244;go_wp2_with fail;refine J.mono ?_;rintro e Z⟨rfl,k,rfl⟩;go_wp2_with fail;refine(AL r s a D t g ⟨#[]⟩ _ (h.drewN _)).mono ?_;rintro e W⟨rfl,N,O⟩;go_wp2_with fail;go_ret;exact⟨rfl,N,O.drewN⟩
def wS(s:ByteArray)(a:Nat)(n:Int):ByteArray:=if n<0 then⟨#[]⟩else pS s a n.toNat
def wT(s:ByteArray)(a:Nat)(n:Int):Nat:=if n<0 then a else pT s a n.toNat
def wE(s:ByteArray)(a:Nat)(n:Int):Nat:=if n<0 then 1 else pE s a n.toNat
theorem EG(r:Nat)(s:ByteArray)(a B:Nat)(n:Int)(w:aS)(h:eV w r s a B)(O:s.size<=aZ)(N:a<=s.size)(hm:n<=9223372036854775807):
  qK 185 #[qP r 0,qI n] w λe w'=>e=aO (aB (tk B (wE s a n) (wS s a n) ⟨#[]⟩))/\eV w' r s (uF a B (wT s a n) (wE s a n)) (xM B (wE s a n))/\eN r w w':=by
 have U:=IZ;have R:=h.c0;have S:=h.c1;have H:=eC h;unfold wS wT wE;by_cases hn:n<0
 .rw[eI hn,eI hn,eI hn];have hd:decide (n<0)=true:=zT;clear h;go_enter func185,ntmps185;go_wp2;go_region_with(go_at_call 234;refine(AL r s a B a 1 ⟨#[]⟩ _ (H.drewN 1)).mono ?_;rintro e W⟨rfl,D,M⟩)
  all_goals go_wp2_with fail
  all_goals go_ret
  all_goals exact⟨rfl,D,M.drewN⟩
 .rw[eE hn,eE hn,eE hn];obtain⟨m,rfl⟩:=qJ (show 0<=n from zO);simp only[xC];have J:=eC (λW D=>N7 r s a B a m W D O N zO);clear hn h;generalize pS s a m=x at J|-;generalize pT s a m=y at J|-;generalize pE s a m=z at J|-;go_enter func185,ntmps185;go_wp2_with fail;refine(J _ H).mono ?_;rintro e X⟨rfl,rfl⟩;go_wp2_with fail;refine(AL r s a B y z x _ H).mono ?_;rintro e W⟨rfl,D,M⟩;go_wp2_with fail;go_ret;exact⟨rfl,D,M⟩
def lO(s:ByteArray)(a:Nat):Nat:=(s.data.toList.getD a 0).toNat
def bV(s:ByteArray)(a d:Nat):Nat:=tk d (wE s a 1) (lO s a) 0
theorem FM(s:ByteArray)(a:Nat):wE s a 1=if a+1<=s.size then 0 else 2:=by unfold wE pE;rw[eE zD];rfl
theorem NZ(r:Nat)(s:ByteArray)(a B:Nat)(w:aS)(h:eV w r s a B)(u:s.size<=aZ)(f:a<=s.size):
  qK 124 #[qP r 0] w λe w'=>e=aO (aC .u8 (bV s a B:Nat))/\eV w' r s (uF a B (wT s a 1) (wE s a 1)) (xM B (wE s a 1))/\eN r w w':=by
 have D:=eC (EG r s a B 1 w h u f zD);clear h;by_cases hc:B=0/\a+1<=s.size
 .obtain⟨x,J⟩:=eR (tk B (wE s a 1) (wS s a 1) ⟨#[]⟩);have S:x=s.extract a (a+1):=by rw[<-J];unfold tk;rw[eI ⟨hc.1,by rw[FM,eI hc.2]⟩];unfold wS pS;rw[eE zD,eI (by simpa using hc.2)];rfl
  have Z:x.size=1:=by rw[S,LZ];omega
  have Y:(0:Nat)<x.size:=zO;have M:(x[0]'Y).toNat=bV s a B:=by unfold bV tk;rw[eI ⟨hc.1,by rw[FM,eI hc.2]⟩];unfold lO;subst S;rw[ByteArray.getElem_extract,vT,lJ (show a<s.data.toList.length by have:=hc.2;simp;omega)];rfl
  have j:Hid (((x[0]'Y).toNat:Int)=(bV s a B:Nat)):=eC (by rw[M]);have U:x.toList.isEmpty=false:=by
   rw[bU];cases hl:x.data.toList with
   |nil=>
    have X:x.data.toList.length=1:=by simpa using Z
    rw[hl]at X;cases X
   |cons=>rfl
  have e2:(x.toList==[])=false:=by
   cases hl:x.toList with
   |nil=>rw[hl]at U;simp at U
   |cons=>rfl
  rw[J]at D;have aa:(0:Int)<(x.size:Int):=zO;clear hc J S M Z;generalize uF a B (wT s a 1) (wE s a 1)=y at D|-;generalize xM B (wE s a 1)=z at D|-;go_enter func124,ntmps124;go_wp2_with fail;refine D.mono ?_;rintro e W⟨rfl,O,N⟩;go_wp2_with fail;go_ret;exact⟨by rw[<-j];rfl,O,N⟩
 .have R:¬(B=0/\wE s a 1=0):=by rw[FM];split<;>omega
  have J:tk B (wE s a 1) (wS s a 1) (⟨#[]⟩:ByteArray)=⟨#[]⟩:=by unfold tk;rw[eE R]
  have M:=eC (show bV s a B=0 by unfold bV tk;rw[eE R]);rw[J]at D;clear hc J R;rw[M];generalize uF a B (wT s a 1) (wE s a 1)=y at D|-;generalize xM B (wE s a 1)=z at D|-;go_enter func124,ntmps124;go_wp2_with fail;refine D.mono ?_;rintro e W⟨rfl,O,N⟩;go_wp2_with fail;go_ret;exact⟨rfl,O,N⟩
theorem aJ6{n:Int}(h:a<=s.size):a<=wT s a n/\wT s a n<=s.size:=by
 unfold wT;split
 .exact⟨eX _,h⟩
 .exact aJ4 h
theorem XK{e:Nat}(h:a<=s.size)(g:a<=d/\d<=s.size):a<=uF a e d f/\uF a e d f<=s.size:=by unfold uF;split<;>omega
theorem aAQ(r:Nat)(s:ByteArray)(a B:Nat)(w:aS)(h:eV w r s a B):qK 125 #[qP r 0] w λe w'=>e=aO (qI (pH s a B:Nat))/\∃m,w'=w.drewN m:=by
 have D:=h.c0;have J:=h.c1;have M:=h.c2;clear h;by_cases h0:B=0
 .subst h0;by_cases h1:a<s.size
  .have he:=eC (show pH s a 0=5 by unfold pH;rw[eI ⟨rfl,h1⟩]);have hd:decide ((a:Int)<s.size)=true:=zT;have G7:decide (a<s.size)=true:=zT;go_enter func125,ntmps125;go_wp2;go_quiet (fail);go_wp2;go_ret;exact⟨by rw[he];rfl,_,rfl⟩
  .have he:=eC (show pH s a 0=0 by unfold pH;rw[eE zO]);have hd:decide ((a:Int)<s.size)=false:=zT;have G7:decide (a<s.size)=false:=zT;go_enter func125,ntmps125;go_wp2;go_quiet (fail);go_wp2;go_ret;exact⟨by rw[he];rfl,_,rfl⟩
 .have he:=eC (show pH s a B=B by unfold pH;rw[eE zO]);have hd:((B:Int)==0)=false:=zT;go_enter func125,ntmps125;go_wp2;go_quiet (fail);go_wp2;go_ret;exact⟨by rw[he];rfl,_,rfl⟩
theorem aEM(r:Nat)(s:ByteArray)(a d:Nat)(w:aS)(h:eV w r s a d):qK 239 #[qP r 0] w λe w'=>e=aO (qI a)/\w'=w:=
 (PT r s a d w h).mono λ_ _⟨f,g⟩=>⟨f,g.symm⟩
def mY(c:Nat):Nat:=c/2^^^(if c%2=1 then 3988292384 else 0)
def iQ:Nat->Nat->Nat
 |0,c=>c
 |k+1,c=>iQ k (mY c)
theorem P9(a b c:Nat):iQ (a+b) c=iQ b (iQ a c):=by
 induction a generalizing c with
 |zero=>rw[kQ];rfl
 |succ a ih=>rw[show a+1+b=a+b+1 by omega];exact ih _
theorem L8(k c:Nat):iQ (k+1) c=mY (iQ k c):=P9 k 1 c
theorem aKH(a b c d:Nat):(a^^^b)^^^(c^^^d)=(a^^^c)^^^(b^^^d):=by rw[Nat.xor_assoc,Nat.xor_assoc,<-Nat.xor_assoc b,Nat.xor_comm b c,Nat.xor_assoc c]
theorem SP(a b:Nat):mY (a^^^b)=mY a^^^mY b:=by
 unfold mY;rw[Nat.xor_div_two,aKH];congr 1;have h:=Nat.xor_mod_two_eq_one (a:=a) (b:=b);by_cases ha:a%2=1<;>by_cases hb:b%2=1
 .rw[eE (by rw[h];simp[ha,hb]),eI ha,eI hb];decide
 .rw[eI (by rw[h];simp[ha,hb]),eI ha,eE hb];decide
 .rw[eI (by rw[h];simp[ha,hb]),eE ha,eI hb];decide
 .rw[eE (by rw[h];simp[ha,hb]),eE ha,eE hb];decide
theorem QP(k a b:Nat):iQ k (a^^^b)=iQ k a^^^iQ k b:=by
 induction k generalizing a b with
 |zero=>rfl
 |succ k ih=>show iQ k (mY (a^^^b))=_;rw[SP,ih];rfl
theorem QW(m:Nat):mY (2*m)=m:=by unfold mY;rw[eE zO,Nat.xor_zero];omega
theorem PQ(k m:Nat):iQ k (2^k*m)=m:=by
 induction k generalizing m with
 |zero=>show 2^0*m=m;simp
 |succ k ih=>show iQ k (mY _)=m;rw[Nat.pow_succ,Nat.mul_comm (2^k) 2,Nat.mul_assoc,QW,ih]
theorem XC(h:c<2^32):mY c<2^32:=by unfold mY;refine Nat.xor_lt_two_pow zO ?_;split<;>decide
theorem yA(k:Nat)(h:c<2^32):iQ k c<2^32:=by
 induction k generalizing c with
 |zero=>exact h
 |succ k ih=>exact ih (XC h)
def wP(c b:Nat):Nat:=iQ 8 (c^^^b)
theorem XJ(d:c<2^32)(e:b<256):wP c b<2^32:=yA 8 (Nat.xor_lt_two_pow d zO)
theorem aEc(c:Nat):c=(c%256)^^^(2^8*(c/256)):=by
 apply Nat.eq_of_testBit_eq;intro i;rw[Nat.testBit_xor,show(256:Nat)=2^8 from zR,Nat.testBit_mod_two_pow,Nat.testBit_two_pow_mul,Nat.testBit_div_two_pow];by_cases h:i<8
 .simp[h,show¬8<=i by omega]
 .have:8<=i:=zO;simp[h,this]
theorem L7(c b:Nat):wP c b=iQ 8 ((c%256)^^^b)^^^(c/256):=by
 unfold wP;rw[show c^^^b=((c%256)^^^b)^^^(2^8*(c/256)) by
  conv=>lhs;rw[aEc c]
  rw[Nat.xor_assoc,Nat.xor_comm _ b,<-Nat.xor_assoc],QP,PQ]
theorem aKe(x:UInt8):x.toNat<256:=x.toNat_lt
def uJ(c:Nat):List UInt8->Nat
 |[]=>c
 |x::l=>uJ (wP c x.toNat) l
theorem LS(c:Nat)(l m:List UInt8):uJ c (l++m)=uJ (uJ c l) m:=by
 induction l generalizing c with
 |nil=>rfl
 |cons x l ih=>exact ih _
theorem NA(h:c<2^32)(l:List UInt8):uJ c l<2^32:=by
 induction l generalizing c with
 |nil=>exact h
 |cons x l ih=>exact ih (XJ h (aKe x))
def FQ(l:List UInt8):Nat:=uJ 4294967295 l^^^4294967295
theorem aBe(l:List UInt8):FQ l<2^32:=Nat.xor_lt_two_pow (NA zD l) zD
def lF(c:Nat):List UInt8:=[bI (c%256),bI (c/256%256),bI (c/65536%256),bI (c/16777216%256)]
theorem pL(h:n<256):(bI n).toNat=n:=by rw[dR];exact Nat.mod_eq_of_lt (by simpa using h)
theorem DC(c:Nat):(lF c).length=4:=rfl
def gQ(l:List UInt8):List UInt8:=lF (FQ l)
theorem m9(l:List UInt8):(gQ l).length=4:=rfl
def kY(l:List UInt8):Bool:=decide (4<=l.length)&&decide (gQ (l.take (l.length-4))=l.drop (l.length-4))
theorem QF(s:List UInt8):kY (s++gQ s)=true:=by
 unfold kY;have h:(s++gQ s).length-4=s.length:=by rw[iR,m9];omega
 rw[h];simp[m9]
theorem JA(s t:List UInt8)(d:t.length=4):kY (s++t)=decide (gQ s=t):=by
 unfold kY;have h:(s++t).length-4=s.length:=by rw[iR,d];omega
 rw[h];simp[d]
structure Lay(w:aS)(b:Nat):Prop where
 lt:b<(w:Nat)
 free:∀o,w.frozen? ⟨b,o,none⟩=false
 slot:∀i,i<256->∃x,w.cell? ⟨b,3+i,none⟩=some x
theorem Lay.set{w:aS}(h:Lay w b)(o:Nat)(v:aT):Lay (qS w (b,o) v) b:=by
 refine⟨by simpa using h.lt,λJ=>?_,λi B=>?_⟩
 .have:=h.free J;go_simp
 .obtain⟨x,D⟩:=h.slot i B;exact cell?_setCell_some (w:=w) (p:=(b,o)) (x:=v) (q:=(b,3+i)) (v:=x) D
def AN(w:aS)(b k:Nat):Prop:=∀i,i<k->w.cell? ⟨b,3+i,none⟩=some (aC aQ (iQ 8 i:Nat))
theorem aCL(c:Nat)(h:c<4294967296):bits BinOp.xor aQ ((c:Int)/2) (bits BinOp.and aQ 3988292384 (-(bits BinOp.and aQ (c:Int) 1)%4294967296))=((mY c:Nat):Int):=by
 have e:bits BinOp.and aQ (c:Int) 1=((c%2:Nat):Int):=by have:=u32_and_nat c 1 zO zO;rw[Nat.and_one_is_mod]at this;exact this
 have d:∀m:Nat,m<4294967296->bits BinOp.xor aQ ((c:Int)/2) (m:Int)=((c/2^^^m:Nat):Int):=λm hm=>by have:=u32_xor_nat (c/2) m zO hm;rw[<-this];congr 1
 rw[e];unfold mY;by_cases hc:c%2=1
 .rw[eI hc,hc];have:bits BinOp.and aQ 3988292384 (-((1:Nat):Int)%4294967296)=((3988292384:Nat):Int):=by decide+kernel
  rw[this];exact d 3988292384 zO
 .rw[eE hc,show c%2=0 by omega];have:bits BinOp.and aQ 3988292384 (-((0:Nat):Int)%4294967296)=((0:Nat):Int):=by decide+kernel
  rw[this];exact d 0 zO
theorem aAV(b:Nat)(w:aS)(S:Lay w b):
  qK 344 #[qP b 0] w λe w'=>e=aO (aF #[])/\Lay w' b/\AN w' b 256/\(∀o,o<3->w'.cell? (qP b o)=w.cell? (qP b o))/\eN b w w':=by
 go_enter func344,ntmps344;go_wp2;go_loopw [4] (λi wr=>∃k:Nat,k<=256/\i=qI k/\Lay wr b/\AN wr b k/\(∀o,o<3->wr.cell? (qP b o)=w.cell? (qP b o))/\eN b w wr) (λi _=>256-(aW i).toNat)
 case atStart=>exact⟨0,zO,rfl,S,λi X=>zO,λ_ _=>rfl,eN.refl _ _⟩
 case round=>
  obtain⟨k,Z,rfl,B,O,M,J⟩:=hrel;have R:=eC O;change Hid _ at B M J;clear O S;by_cases hlt:k<256
  .go_wp2;go_loop [3,9] (λc j=>∃q:Nat,q<=8/\j=qI q/\c=aC aQ (iQ q k:Nat)) (λ_ j=>8-(aW j).toNat)
   case atStart=>exact⟨0,zO,rfl,rfl⟩
   case round=>
    obtain⟨q,hq,rfl,rfl⟩:=hrel;obtain⟨c,D⟩:=eR (iQ q k);have W:c<4294967296:=by rw[<-D];exact yA q zO
    have O:=aCL c W;have N:=L8 q k;rw[D]at N|-;change Hid _ at N D;obtain⟨x,U⟩:=B.slot k hlt;have hf:=B.free (3+k);by_cases hlq:q<8
    .clear U hf;go_wp2;go_round
     case rel=>exact⟨q+1,zO,by go_num,by rw[N]⟩
     case measure=>simp[aW];omega
    .obtain rfl:q=8:=zO;go_wp2;go_roundw
     case rel=>
      refine⟨k+1,zO,by go_num,B.set _ _,?_,?_,J.setCell _ _⟩
      .intro i X;by_cases e:i=k
       .subst e;rw[D];exact GU _ _ _ U
       .refine(q9 _ _ _ _ (by first|(simp;done)|(simp;omega))).trans (R i zO)
      .intro o Y;exact(q9 _ _ _ _ (by first|(simp;done)|(simp;omega))).trans (M o Y)
     case measure=>simp[aW];omega
  .obtain rfl:k=256:=zO;go_wp2;go_end0;exact⟨rfl,B,R,M,J⟩
theorem aE4(b:Nat)(w:aS)(B:Lay w b)(R:qC w b 0 (aC aQ 0))(Z:qC w b 1 (aC .i32 0)):
  qK 204 #[qP b 0,aD (.func 344) #[qP b 0] #[]] w λe w'=>e=aO (aF #[])/\
   Lay w' b/\AN w' b 256/\w'.cell? (qP b 0)=some (aC aQ 1)/\w'.cell? (qP b 1)=some (aC .i32 0)/\eN b w w':=by
 have f0:=B.free 0
 have f1:=B.free 1
 have Y:=eC B
 clear B
 have hl:=run_call_load (P:=prog) func250 zK zK zK aQ zK (w:=w.setCell (qP b 1) (aC .i32 1)) (a:=(qP b 0)) (x:=0) ((q9 _ (qP b 1) (qP b 0) _ zS).trans R)
 have ab:∀(x:Bool)(w:aS),(Op.unary .not (aG x)).run prog w=.ok (aG (!x)) w:=λ_ _=>rfl
 go_enter_defers func204,ntmps204
 go_wp2_with(go_at_call 251;refine(NN (qP b 1) _ (by go_simp) (by go_simp)).mono ?_;rintro e w'⟨rfl,rfl⟩)
 go_wp2_with(first|(go_at_call 344;refine(aAV b _ (Y.set _ _)).mono ?_;rintro e W⟨rfl,D,y,U,j⟩)|(go_at_call 203;go_in))
 have N:qC W b 0 (aC aQ 0):=(U 0 zO).trans ((q9 _ (qP b 1) (qP b 0) _ zS).trans R)
 have O:qC W b 1 (aC .i32 1):=(U 1 zO).trans (GU _ _ _ Z)
 refine P7 (f:=253) (args:=#[qP b 0,true]) zS (by simp[go_sem]) ?_
 refine(zF (qP b 0) (aC aQ 0) .returning _ N (D.free 0)).mono ?_
 rintro e u' aa⟨rfl,rfl,rfl⟩
 have S:Lay W.drew b:=⟨D.lt,λo=>(World.frozen?_drew W _).trans (D.free o),λi M=>by rw[dQ];exact D.slot i M⟩
 refine P7 (f:=252) (args:=#[qP b 1]) (by simp[settle]) (by simp[go_sem]) ?_
 refine(wZ (qP b 1) _ _ ?_ ((S.set _ _).free 1)).mono ?_
 .refine(q9 _ (qP b 0) (qP b 1) _ zS).trans ?_
  rw[dQ];exact O
 rintro e u' aa⟨rfl,rfl,rfl⟩
 have k1:(W.drew.setCell (qP b 0) (aC aQ 1)).cell? (qP b 1)=some (aC .i32 1):=by
  refine(q9 _ (qP b 0) (qP b 1) _ zS).trans ?_
  rw[dQ];exact O
 have J:Lay ((W.drew.setCell (qP b 0) (aC aQ 1)).setCell (qP b 1) (aC .i32 0)) b/\AN ((W.drew.setCell (qP b 0) (aC aQ 1)).setCell (qP b 1) (aC .i32 0)) b 256/\((W.drew.setCell (qP b 0) (aC aQ 1)).setCell (qP b 1) (aC .i32 0)).cell? (qP b 0)=some (aC aQ 1)/\((W.drew.setCell (qP b 0) (aC aQ 1)).setCell (qP b 1) (aC .i32 0)).cell? (qP b 1)=some (aC .i32 0)/\eN b w ((W.drew.setCell (qP b 0) (aC aQ 1)).setCell (qP b 1) (aC .i32 0)):=by
  refine⟨(S.set _ _).set _ _,λi M=>?_,?_,GU _ _ _ k1,(((((eN.refl b w).setCell 1 _).trans j).drew.setCell 0 _).setCell 1 _)⟩
  .refine(q9 _ (qP b 1) (qP b (3+i)) _ (by first|(simp;done)|(simp;omega))).trans ((q9 _ (qP b 0) (qP b (3+i)) _ zS).trans ?_)
   rw[dQ];exact y i M
  .refine(q9 _ (qP b 1) (qP b 0) _ zS).trans (GU _ _ (aC aQ 1) (u:=aC aQ 0) ?_)
   rw[dQ];exact N
 generalize(W.drew.setCell (qP b 0) (aC aQ 1)).setCell (qP b 1) (aC .i32 0)=V at J|-
 have X:=eC J
 clear J
 simp[Leaves,settle,results,results204]
 exact X
def Tab(w:aS)(b:Nat):Prop:=Lay w b/\w.cell? ⟨b,1,none⟩=some (aC .i32 0)/\(w.cell? ⟨b,0,none⟩=some (aC aQ 0)\/w.cell? ⟨b,0,none⟩=some (aC aQ 1)/\AN w b 256)
theorem aIS(b:Nat)(w:aS)(hT:Tab w b):
  qK 152 #[qP b 0,aD (.func 344) #[qP b 0] #[]] w λe w'=>e=aO (aF #[])/\Tab w' b/\AN w' b 256/\eN b w w':=by
 obtain⟨M,J,B|⟨B,D⟩⟩:=hT
 .have O:=run_call_load (P:=prog) func250 zK zK zK aQ zK B;have R:∀(x:Bool)(w:aS),(Op.unary .not (aG x)).run prog w=.ok (aG (!x)) w:=λ_ _=>rfl;go_enter func152,ntmps152;go_wp2_with(first|(go_at_call 204;refine(aE4 b _ M B J).mono ?_;rintro e W⟨rfl,S,N,U,X,Y⟩)|(go_at_call 203;go_in));go_end0;exact⟨rfl,⟨S,X,.inr ⟨U,N⟩⟩,N,Y⟩
 .have O:=run_call_load (P:=prog) func250 zK zK zK aQ zK B;have R:∀(x:Bool)(w:aS),(Op.unary .not (aG x)).run prog w=.ok (aG (!x)) w:=λ_ _=>rfl;change Hid _ at D;go_enter func152,ntmps152;go_wp2_with(go_at_call 203;go_in);go_end0;exact⟨rfl,⟨M,J,.inr ⟨B,D⟩⟩,D,eN.refl _ _⟩
theorem aBW(b c x:Nat)(w:aS)(hT:Tab w b)(U:c<4294967296)(D:x<256):
  qK 314 #[qP b 0,aC aQ c,aC .u8 x] w λe w'=>e=aO (aC aQ (wP c x:Nat))/\Tab w' b/\eN b w w':=by
 have Y:=IZ;obtain⟨m,hm⟩:=eR ((c%256)^^^x);have O:m<256:=by rw[<-hm];exact Nat.xor_lt_two_pow (n:=8) zO D
 have X:bits BinOp.xor IntKind.u8 ((c:Int)%256) (x:Int)=(m:Int):=by rw[<-hm,<-u8_xor_nat (c%256) x zO D];congr 1
 obtain⟨T,B⟩:=eR (iQ 8 m);have M:T<4294967296:=by rw[<-B];exact yA 8 zO
 have Z:bits BinOp.xor aQ (T:Int) ((c:Int)/256)=((wP c x:Nat):Int):=by rw[L7,hm,B,<-u32_xor_nat T (c/256) M zO];congr 1
 change Hid _ at B;clear hm;go_enter func314,ntmps314;go_wp2_with(go_at_call 152;refine(aIS b _ hT).mono ?_;rintro e W⟨rfl,J,S,R⟩;have N:=S m O;rw[B]at N);go_ret;exact⟨rfl,J,R⟩
theorem aHJ{d:aS}(h:Bl W d)(f:Bl d e):Bl W e:=fC h f
theorem Tab.new(w:aS)(d:Array aT)(T:aX)(k:d.size=259)(g:d[0]?=some (aC aQ 0))(h:d[1]?=some (aC .i32 0)):Tab (w.alloc (aK d T)) (w:Nat):=by
 have f:=fG w (aK d T);have e:∀o,(w.alloc (aK d T)).cell? (qP w o)=d[o]?:=λo=>by unfold bH;rw[f];rfl
 refine⟨⟨zS,λo=>by unfold World.frozen?;rw[f];simp,λi j=>?_⟩,by rw[e];exact h,.inl (by rw[e];exact g)⟩;rw[e];exact⟨d[3+i],SZ zO⟩
def YL:Array aT:=#[aC aQ 0,aC .i32 0,aC aQ 0]++Array.replicate 256 (aC aQ 0)
theorem TZ(w:aS):(zeroValue 444).run prog w=.ok (.agg YL) w:=zK
theorem L9:∃d:Array aT,(∀w,(zeroValue 444).run prog w=.ok (.agg d) w)/\d.size=259/\d[0]?=some (aC aQ 0)/\d[1]?=some (aC .i32 0):=
 ⟨YL,TZ,zK,zK,zK⟩
theorem aGo(w:aS):
  qK 275 #[] w λe w'=>e=aO (qP w 0)/\Tab w' (w:Nat)/\Bl w w'/\(w:Nat)+1=(w':Nat):=by go_enter func275,ntmps275;obtain⟨M,N,B,D,J⟩:=L9;change Hid _ at B D J;go_wp2;go_ret;exact⟨rfl,Tab.new w _ _ B D J,fL _ _,zS⟩
theorem SU(c:Nat)(s:ByteArray)(k:Nat)(h:k<s.size):uJ c (s.data.toList.take (k+1))=wP (uJ c (s.data.toList.take k)) s[k].toNat:=by rw[TN (by simpa using h),LS];rfl
theorem aJl(c:Nat)(h:c<4294967296):bits BinOp.xor aQ aQ.max (c:Int)=((c^^^4294967295:Nat):Int):=by rw[Nat.xor_comm];exact u32_xor_nat 4294967295 c zO h
theorem aDH(b:Nat)(s:ByteArray)(w:aS)(hT:Tab w b)(Z:s.size<=9223372036854775807):
  qK 276 #[qP b 0,aB s] w λe w'=>e=aO (aC aQ (FQ s.data.toList:Nat))/\Tab w' b/\eN b w w':=by
 go_enter func276,ntmps276;go_wp2;go_loopw [5,9] (λc i wr=>∃k:Nat,k<=s.size/\i=qI k/\c=aC aQ (uJ 4294967295 (s.data.toList.take k):Nat)/\Tab wr b/\eN b w wr) (λ_ i _=>s.size-(aW i).toNat)
 case atStart=>exact⟨0,zO,rfl,rfl,hT,eN.refl _ _⟩
 case round=>
  obtain⟨k,X,rfl,rfl,D,J⟩:=hrel;obtain⟨c,B⟩:=eR (uJ 4294967295 (s.data.toList.take k));have R:c<4294967296:=by rw[<-B];exact NA zD _
  by_cases hlt:k<s.size
  .have O:=SU 4294967295 s k hlt;rw[B]at O|-;have N:=eC D;have M:=eC J;change Hid _ at O;clear B D J hT;go_wp2_with(go_at_call 314;refine(aBW b c _ _ N R (aKe _)).mono ?_;rintro e W⟨rfl,S,U⟩);go_roundw
   case rel=>exact⟨k+1,zO,by go_num,by rw[O],S,M.trans U⟩
   case measure=>simp[aW];omega
  .obtain rfl:k=s.size:=zO;rw[B];rw[nH zS]at B;have Y:=aJl c R;have N:=eC D;have M:=eC J;change Hid _ at B;clear D J hT;go_wp2;go_ret;exact⟨by rw[FQ,B];rfl,N,M⟩
theorem aHb(s:ByteArray)(w:aS)(M:s.size<=9223372036854775807):
  qK 219 #[aB s] w (Rt (aC aQ (FQ s.data.toList:Nat)) w):=by go_enter func219,ntmps219;go_wp2_with fail;refine(aGo _).mono ?_;rintro e R⟨rfl,D,B,N⟩;change Hid _ at N;go_wp2_with fail;refine(aDH _ s _ D M).mono ?_;rintro e S⟨rfl,O,J⟩;go_wp2_with fail;go_ret;exact⟨rfl,B.trans (J.below (eX _) B.size)⟩
def rS(l:List UInt8):ByteArray:=⟨l.toArray⟩
theorem LG(l:List UInt8):(rS l).data.toList=l:=rfl
theorem aJg(c:Nat)(n:c<4294967296)(B:Nat)(W:aS)(f:W.cell? (B,0)=some (aC .u8 ((c:Int)%256)))(g:W.cell? (B,1)=some (aC .u8 ((c:Int)/256%256)))(h:W.cell? (B,2)=some (aC .u8 ((c:Int)/65536%256)))(i:W.cell? (B,3)=some (aC .u8 ((c:Int)/16777216))):
  (convert 173 9 (aA (some (B,0)) 4 4)).run prog W=.ok (aB (rS (lF c))) W:=by
 have k:=run_convert_bytes_back (P:=prog) W 173 9 5 (B,0) 4 (lF c) underlying173 underlying5 underlying9 (λj d=>by
  rw[DC]at d
  have e:∀x y:Nat,x<256->(x:Int)=((bI x).toNat:Int):=λx _ m=>by rw[pL m]
  match j,d with
  |0,_=>rw[show(((B,0):Addr).add 0)=(B,0)from zR,f];simp only[lF,aB4];rw[<-e _ 0 zO];rfl
  |1,_=>rw[show(((B,0):Addr).add 1)=(B,1)from zR,g];simp only[lF,aB4,aEi];rw[<-e _ 0 zO];rfl
  |2,_=>rw[show(((B,0):Addr).add 2)=(B,2)from zR,h];simp only[lF,aB4,aEi];rw[<-e _ 0 zO];rfl
  |3,_=>rw[show(((B,0):Addr).add 3)=(B,3)from zR,i];simp only[lF,aB4,aEi];rw[<-e _ 0 zO,show c/16777216%256=c/16777216 by omega];rfl);exact k
theorem K8(s:ByteArray)(w:aS)(M:s.size<=9223372036854775807):
  qK 166 #[aB s] w (Rt (aB (rS (gQ s.data.toList))) w):=by
 obtain⟨c,B⟩:=eR (FQ s.data.toList);have J:c<4294967296:=by rw[<-B];exact aBe _
 have hcv:=aJg c J;change Hid _ at B;go_enter func166,ntmps166;go_wp2_with(go_at_call 219;refine(aHb s _ M).mono ?_;rintro e N⟨rfl,D⟩;rw[B]);go_ret;exact⟨by rw[gQ,B];rfl,D.alloc D.size _⟩
theorem aGl(a b:ByteArray):(a.toList==b.toList)=decide (a.data.toList=b.data.toList):=by rw[Bool.eq_iff_iff,beq_iff_eq,AX];rw[bU,bU]
theorem aEV(h:s.size=n+4):kY s.data.toList=((rS (gQ (List.take n s.data.toList))).toList==(s.extract n s.size).toList):=by
 rw[aGl,LG];unfold kY;have d:s.data.toList.length=n+4:=by simpa using h
 have e:(s.extract n s.size).data.toList=s.data.toList.drop n:=by rw[ByteArray.data_extract,Array.toList_extract];simp only[List.extract];rw[nH (by rw[sB,d];omega)]
 rw[e,d,show n+4-4=n by omega];simp
theorem aCi(s:ByteArray)(d:Int)(hd:d=-4\/d=-3\/d=-2\/d=-1)(D:(s.size:Int)-4=d)(w:aS)(J:s.size<=3):
  qK 242 #[aB s] w (Rt (aG false) w):=by
 have B:(s.size:Int)=d+4:=zO;change Hid _ at B;obtain rfl|rfl|rfl|rfl:=hd
 all_goals
  go_enter func242,ntmps242;go_wp2;go_quiet (fail)
  all_goals go_wp2
  all_goals go_ret
  all_goals exact⟨rfl,(iL _ _).trans ⟨rfl,rfl,rfl,eX _,λ_ _=>rfl⟩⟩
theorem WB(s:ByteArray)(w:aS)(d:s.size<4):
  qK 242 #[aB s] w (Rt (aG false) w):=
 aCi s _ zO rfl w zO
theorem aI6{f d:aS}(h:Bl W f)(e:Bl f d):Bl W d/\W<=(d:Nat):=⟨aHJ h e,(aHJ h e).size⟩
theorem aA8(s:ByteArray)(w:aS)(M:4<=s.size)(U:s.size<=9223372036854775807):
  qK 242 #[aB s] w (Rt (aG (kY s.data.toList)) w):=by
 obtain⟨n,D⟩:∃n,s.size=n+4:=⟨s.size-4,zO⟩;have N:(s.size:Int)-4=n:=zO;have S:n<=s.size:=zO;have J:=eC (show(s.extract 0 n).size<=9223372036854775807 by rw[LZ];omega);change Hid _ at D;clear M;go_enter func242,ntmps242;go_wp2;have O:=iL w w;go_region_held3(λw'=>Bl w w') (first|assumption|go_grown) ((go_at_call 166;refine(K8 _ _ J).mono ?_;rintro e X⟨rfl,B⟩;obtain⟨R,W⟩:=aI6 zG B;clear B))
 all_goals go_wp2
 all_goals go_ret
 all_goals exact⟨by rw[aEV D];rfl,zA⟩
theorem aEX(s:ByteArray)(w:aS)(d:s.size<=9223372036854775807):
  qK 242 #[aB s] w (Rt (aG (kY s.data.toList)) w):=by
 by_cases h:s.size<4
 .have e:kY s.data.toList=false:=by unfold kY;rw[show decide (4<=s.data.toList.length)=false by simp;omega];rfl
  rw[e];exact WB s w h
 .exact aA8 s w zO d
def sF(f d:Nat)(W e:aS):Prop:=aV f W e/\e.heap[d]?=W.heap[d]?
theorem sF.refl(e d:Nat)(W:aS):sF e d W W:=⟨iL _ _,rfl⟩
theorem sF.trans{e d:Nat}{A B C:aS}(h:sF e d A B)(k:sF e d B C):sF e d A C:=⟨h.1.trans k.1,k.2.trans h.2⟩
theorem sF.put{l:Nat}{o g:Obj}(h:W.heap[l]?=some o)(j:d<=l)(i:l≠f):sF d f W (W.putObj l g):=
 ⟨(iL d W).grown (grownBy_putObj' W l g) (by have:=(fB.1 h).1;omega) (λk e=>by cases e;omega),jY (Ne.symm i)⟩
theorem sF.below(h:Bl W e)(g:f<=W)(i:d<W):sF f d W e:=⟨h.mono g,h.block d i⟩
def O3(i j:Nat)(W d:aS):Prop:=∀k,i<=k->k<j->d.heap[k]?=W.heap[k]?
def aGN{α:Type}(n0 Bn i j:Nat)(I:List α->aS->Prop)(xs:List α)(W:aS):Exit->Act->aS->Prop
 |.normal,_,W'=>KeepsOthers W W'/\sF n0 Bn W W'/\O3 i j W W'/\I xs W'
 |_,_,_=>False
def ZD{α:Type}(n:Nat)(P:Program)(gf j i:Nat)(lb:Array aT)(aa:α->Array aT)(xs:List α)(w:aS):Prop:=
 ∀(l:Nat)(J:List α->aS->Prop)(W:aS),sF j i w W->(∀f d W2,J f d->aV d.heap.size d W2->J f W2)->j<=(W:Nat)->i<(W:Nat)->
  (∀f x h d,J f h->aV h.heap.size h d->f++[x]<+:xs->YieldAt Fence.wide n P l (aa x) d λe g=>e=aO (aG true)/\J (f++[x]) g/\sF j i d g/\O3 h.heap.size d.heap.size d g)->
  J [] W->CallsIn Fence.wide (n+1) P gf (#[aD (.yield l) #[] #[]]++lb) W λe g=>(∃v,e=aO v)/\J xs g
theorem NB{α:Type}{P:Program}{g:Operand}{ps:Array Tmp}{assign body:Code}{a:Act}{w:aS}{gf n0 Bn:Nat}{lb:Array aT}
  (hg:a.eval g=aD (.func gf) #[] lb)(eg:∀ak w,(callFunc gf ak).run P w=.ok (.enter gf ak) w)
  {af:α->Array aT}{xs:List α}(bj:ZD n P gf n0 Bn lb af xs w)(au:Bn<w)(be:n0<=w)(bh:∀x,(af x).size=ps.size)
  (I:List α->aS->Prop)(hI:OwnFrom w I)(ah:∀J W W',I J W->Bl W W'->I J W')(h0:I [] w)(al:aS->α->Act)(N:aS->α->aS)(aw:∀W x,Bl W (N W x))
  (ax:∀(l:Nat) (x:α) (W:aS) (K:Act->aS->Prop),K (al W x) (N W x)->
   assign.wpIn (Fence.wide.inRound l) n P (Exit.then K (λ_ _ _=>False)) {tmps:=(ps.zip (af x)).foldl (λt (p,v)=>t.setIfInBounds p v) a.tmps,defers:=[]} W)
  (az:∀(l:Nat) (J:List α) (x:α) (M W B:aS),I J M->J++[x]<+:xs->w+2<=(M:Nat)->(∃r,M.heap[w.heap.size+1]?=some (aN r))->eN (w.heap.size+1) M B->M<=W.heap.size->
   (∀k,W.heap.size<=k->B.heap[k]?=(N W x).heap[k]?)->(B:Nat)=(N W x).heap.size->body.wpIn (Fence.wide.inRound l) n P (aGN n0 Bn M W I (J++[x]) B) (al W x) B)
  (a2:∀(D:Nat) (W:aS),w<=D->I xs W->W.heap[D]?=some (aM (some []))->Q .normal {a with defers:={target:=.collected D,args:=#[]}::a.defers} W):
  (Code.rangeFunc g ps assign body).wpIn Fence.wide (n+2) P Q a w:=by
 refine wpIn_rangeFunc λfn a5=>?_;obtain⟨R,ab⟩:∃R:LoopState->Loop,R=λst=>{state:=st,pending:=none,fn,tmps:=a.tmps,params:=ps,assign,body,defers:=w.heap.size}:=⟨_,rfl⟩;obtain⟨V,hV⟩:=eR ((w.alloc (aM (some []))).alloc (aN (R .ready)));have bm:V=w.heap.size+1+1:=by rw[<-hV,fO,fO]
 have bi:V.heap[w.heap.size+1]?=some (aN (R .ready)):=by have:=E9 (w.alloc (aM (some []))) (aN (R .ready));rw[fO,hV]at this;exact this
 have a1:V.heap[w.heap.size]?=some (aM (some [])):=by rw[<-hV];exact(iI _ _ _ zS).trans (E9 w _)
 have av:I [] V:=by rw[<-hV];exact hI.alloc _ (hI.alloc _ h0)
 have ar:Bl w V:=by rw[<-hV];exact(fL w _).alloc zS _
 refine⟨w.heap.size+1,[{target:=.collected w,args:=#[]}],V,{target:=.fn (.func gf) lb,args:=#[aD (.yield (w.heap.size+1)) #[] #[]]},V,gf,
  #[aD (.yield (w.heap.size+1)) #[] #[]]++lb,V,?_,?_,(λ_ _=>trivial),?_,(λh=>by cases h),?_⟩
 .rw[<-hV,ab];exact run_enterLoop_outer _ _ _ _ _
 .simp only[resolve,hg];simp[go_sem]
 .simp[invoke,go_sem,eg]
 .refine(bj (w.heap.size+1) (λJ W=>I J W/\W.heap[w.heap.size+1]?=some (aN (R .ready))/\W.heap[w.heap.size]?=some (aM (some []))) V (sF.below ar be au)
   (λJ W W' h hb=>⟨ah J W W' h.1 hb,(hb.block _ (fB.1 h.2.1).1).trans h.2.1,(hb.block _ (fB.1 h.2.2).1).trans h.2.2⟩) zO zO ?_ ⟨av,bi,a1⟩).mono ?_
  .rintro J x M W⟨am,ai,aL⟩ac bg;have ao:w+1<(M:Nat):=(fB.1 ai).1;have hl:W.heap[w.heap.size+1]?=some (aN (R .ready)):=(ac.block _ ao).trans ai;have hd:W.heap[w.heap.size]?=some (aM (some [])):=(ac.block _ zO).trans aL;have hi:=ah J M W am ac;have aj:w+1<W.heap.size:=(fB.1 hl).1;have hy:=run_yield (P:=P) (args:=af x) hl (by rw[ab];exact bh x);rw[ab]at hy;refine⟨fn,_,assign,body,hy,roundIn_of_wpIn a5 (ax _ x W _ ?_)⟩;have aa:=aw W x;have bl:w+2<=W.heap.size:=aj;have bk:=ah J W _ hi aa;have ap:(N W x).heap[w.heap.size+1]?=some (aN (R .ready)):=(aa.block _ aj).trans hl;have a4:(N W x).heap[w.heap.size]?=some (aM (some [])):=(aa.block _ zO).trans hd;have bd:w.heap.size+1<(N W x).heap.size:=gV aj aa.size;have bb:sF n0 Bn W (N W x):=sF.below aa zO zO;refine⟨_,run_beginRound ap (by rw[ab]),?_⟩;obtain⟨B,O⟩:=eR ((N W x).putObj (w.heap.size+1) (aN {R .ready with state:=.busy}));have bc:B.heap[w.heap.size+1]?=some (aN {R .ready with state:=.busy}):=by rw[<-O];exact G1 bd
   have G7:B.heap[w.heap.size]?=some (aM (some [])):=by rw[<-O];exact(jY zO).trans a4
   have ba:sF n0 Bn (N W x) B:=by rw[<-O];exact sF.put ap zO zO
   have aq:(B:Nat)=(N W x).heap.size:=by rw[<-O];exact World.putObj_size
   have ae:Bl M (N W x):=fC ac aa;have bf:eN (w.heap.size+1) M B:=⟨by rw[<-O];exact ae.os,by rw[<-O];exact ae.tape,by rw[<-O];exact ae.output,by rw[aq];exact ae.size,λk hk hn=>by rw[<-O];exact(jY hn).trans (ae.block k hk)⟩;have a7:O3 M W W B:=λk h1 h2=>by rw[<-O];exact(jY zO).trans (aa.block k h2)
   rw[O];refine wpIn_mono (az _ J x M W B am bg ao ⟨_,ai⟩ bf ac.size (λk hk=>by rw[<-O];exact jY zO) aq) ?_;rintro e a3 W3 hp;cases e with
   |normal=>obtain⟨hk,ay,a8,a6⟩:=hp;have ag:=hk.same _ _ bc rfl;have a0:=hk.same _ _ G7 rfl;have hr:=run_endRound (P:=P) none ag;refine⟨_,_,hr,rfl,⟨hI.putObj _ a6 zO ag rfl,?_,(jY zO).trans a0⟩,(bb.trans (ba.trans ay)).trans (sF.put ag zO zO),λk h1 h2=>(jY zO).trans ((a8 k h1 h2).trans (a7 k h1 h2))⟩;rw[G1 (fB.1 ag).1,ab];rfl
   |ret=>exact hp.elim
   |exit id=>exact hp.elim
   |goto t=>exact hp.elim
   |panic ch=>exact hp.elim
   |outgrown=>exact hp.elim
  .rintro e B⟨⟨v,rfl⟩,hi,hl,hd⟩;have hr:=run_endLoop (P:=P) hl (by rw[ab];simp);refine⟨none,_,by rw[ab]at hr;exact hr,a2 _ _ (eX _) (hI.putObj _ hi zO hl rfl) ((jY zO).trans hd)⟩
end Go.Proofs.YtgmjilingndloaaGreatDoor
