/- Part 9 of the proof of TopFuel. No conditions. -/
import Derived.Test.YtgmjilingndloaaGreatDoorZ8
import Derived.Lib.SmallJoins
open Array renaming getElem?_eq_some_iff->bD
open Go renaming TypeId->aX,Value->aT,World->aS,maxLen->aZ,undef->aY
open Go.Ending renaming returned->aO
open Go.Fn renaming func->bC
open Go.IntKind renaming i64->aP,u32->aQ,u64->bK
open Go.Lib renaming hid->eB
open Go.Obj renaming cells->aK
open Go.RowKit renaming Below->aV,intOf->aW,wrap64->a9
open Go.Value renaming bool->aG,func->aD,int->aC,ownBlock->bY,pointer->aE,slice->aA,string->aB,tuple->aF
open Go.World renaming cell?->bH,ownsRow_nil->dY,size_alloc->bP
open List renaming length_append->bM,length_pos_iff->eA,mem_map->cG,mem_of_mem_take->bW,range->dH
open Nat renaming le_refl->bF
open Option renaming map_some->cI,some->dL
open UInt8 renaming ofNat->bI
namespace Go.Proofs.YtgmjilingndloaaGreatDoor
set_option linter.unusedVariables false
set_option linter.unusedSimpArgs false
set_option maxRecDepth 100000
set_option maxHeartbeats 20000000
open Go Go.RowKit Go.Proofs.Tryz Go.Shelf
variable{s S:ByteArray}{v:aT}{k d a n g b r t p i e j m N:Nat}{L:List (List Int)}{w' u W:aS}{l:List Int}{M:List jJ}{x:jJ}{ops:Array Oper}{o:Oper}{Q:Exit->Act->aS->Prop}{z f:Int}
section
attribute [local go_sem] Oper.semAt_some
def QG(a:Nat)(l:List (Nat×jJ)):Nat:=l.foldl (λ_ p=>p.1+jP p.2) a
theorem aAs(a:Nat)(l:List (Nat×jJ))(p:Nat×jJ):QG a (l++[p])=p.1+jP p.2:=by simp[QG]
theorem aEs(a:Nat)(L:List jJ):QG a (iO a L)=a+jB L:=by
 induction L generalizing a with
 |nil=>simp[QG,iO,jB]
 |cons x L ih=>have:QG a (iO a (x::L))=QG (a+jP x) (iO (a+jP x) L):=rfl;rw[this,ih,sG,Nat.add_assoc]
def BhI(e:aS)(n:Nat)(d:List (Nat×jJ))(W:aS):Prop:=aV n e W/\Boxed W n 3 (aC aP (QG 7 d:Nat))
theorem BhI.own{h:aS}{B:Nat}(k:n<=B)(u:n=h):OwnFrom B (BhI h n):=by rintro s W d q⟨i,j⟩f g;have m:nV W d:=nV.grown f λr e=>(g r e).2;exact⟨ownFrom_below (β:=Unit) zO k () W d q i f g,m _ _ j rfl⟩
theorem BhI.later{d:aS}(k:n=d){j:List (Nat×jJ)}{e:aS}(h:BhI d n j W)(i:Bl W e):BhI d n j e:=by obtain⟨f,g⟩:=h;exact⟨f.trans (i.mono (by have:=f.size;omega)),(i.block _ g.lt).trans g⟩
theorem WR(J:Option Addr)(c:Nat)(L:List jJ)(w:aS)(hL:mP w J L)(hs:jB L<=1100000):
  CallsIn Fence.wide 3 prog 101 #[aA J L.length c] w λe w'=>e=aO (aB (eH (i9 L)))/\aV w w w':=by
 refine callsIn_of_wp_marks func101 rfl trivial ?_ rfl;simp only[ntmps101,pN,Nat.reduceAdd,Nat.reduceSub];gi_wp2_with(refine⟨trivial,?_⟩;gi_at_call 164;refine(NT _ _ _ _ _).mono ?_;rintro e w3⟨rfl,rfl⟩);have u:aV w w ((w.alloc (aK #[qI 7] 3)).alloc (aK #[aA J L.length c] 69)):=(fL w _).alloc zS _;have aj:Boxed ((w.alloc (aK #[qI 7] 3)).alloc (aK #[aA J L.length c] 69)) ((w:Nat)+1) 69 (aA J L.length c):=by have:=Boxed.new (w.alloc (aK #[qI 7] 3)) 69 (aA J L.length c);rw[bP]at this;exact this
 have ah:BhI w w [] ((w.alloc (aK #[qI 7] 3)).alloc (aK #[aA J L.length c] 69)):=⟨u,(Boxed.new w 3 (qI 7)).alloc _⟩;have a2:((w.alloc (aK #[qI 7] 3)).alloc (aK #[aA J L.length c] 69)).heap.size=w+1+1:=by rw[bP,bP]
 refine NB (n:=1) (gf:=218) (n0:=(w:Nat)) (Bn:=(w:Nat)+1) (lb:=#[qP ((w:Nat)+1) 0]) rfl (enters_of func218 zK rfl)
  (KL _ _ _ J c L w _ aj rfl u hL zO) zS u.size (λ_=>rfl)
  (BhI w w) (BhI.own u.size rfl) (λae W W' h M=>h.later rfl M) ah
  (λW p=>{tmps:=#[aA J L.length c,aY,aB ⟨#[]⟩,qP w 0,qI p.1,qP W 0,aY,aY,aY,aA J L.length c,aD (bC 218) #[] #[qP ((w:Nat)+1) 0],qI p.1,FX p.2,aY,aY,aY,aY,aY,aY,aY,aY,aY,aY,aY,aY,aY,aY,aY,aY,aY,aY,aY,aY,aY,aY,aY,aY,aY,aY],defers:=[]})
  (λW p=>W.alloc (aK #[qI p.2.1,aB p.2.2] 75)) (λW p=>fL W _) ?assign ?body ?done
 case assign=>
  intro l x W K hK;obtain⟨O,U,d⟩:=x;unfold FX at hK;simp only at hK;unfold YK FX;gi_wp2
  first|exact hK|simpa using hK
 case body=>
  rintro l ae⟨O,U,d⟩W0 W Z⟨al,am⟩a0 be ay ac bk aq bh;have av:nV W0 Z:=nV.only ac ay;have hx:Z.heap[(W:Nat)]?=some (aK #[qI U,aB d] 75):=(aq _ (bF _)).trans (heap_alloc_new W _);have aa:Boxed Z w 3 (qI (QG 7 ae:Nat)):=av _ _ am rfl;have c1:Z.cell? (W,0)=some (qI U):=by unfold bH;rw[hx];rfl
  have c2:Z.cell? (W,1)=some (aB d):=by unfold bH;rw[hx];rfl
  rw[a2]at be ac;have az:(O,(U,d))∈iO 7 L:=a0.subset (List.mem_append.2 (.inr (List.mem_singleton.2 rfl)));have aL:=BR _ az;simp only at aL;have aw:d.size<=1000000000:=by have:d.size<=jP (U,d):=by{unfold jP;simp only;omega};omega
  have CZ:=eB (λV=>zX (U,d) V aw);have HS:=eB (aAs 7 ae (O,(U,d)));have a1:=(bD.1 hx).1;have a5:aV w w Z:=al.trans (ac.below zO zO);unfold FX at CZ|-;simp only at CZ HS|-;generalize jP (U,d)=z at*;have hq:O+z<=2000000:=zO;clear hx av az aL aw al am a0 ay ac aq bh aj u ah;gi_wp2_with(first|(refine⟨trivial,rfl,?_⟩;refine(xV (CZ.out _)).mono ?_;rintro e W4⟨rfl,S⟩;have j:=(S.block _ aa.lt).trans aa;have ba:=Boxed.frozen j;have a8:=Boxed.cell j)|(refine⟨trivial,?_⟩;refine(xV (CZ.out _)).mono ?_;rintro e W4⟨rfl,S⟩;have j:=(S.block _ aa.lt).trans aa;have ba:=Boxed.frozen j;have a8:=Boxed.cell j));have a7:aV w Z W4:=S.mono (by have:=aa.lt;omega);have au:=a7.setCell (p:=(w,0)) (bF _) (qI ((O:Int)+(z:Int)));refine⟨(KeepsOthers.mk S.size λk o hk ho=>(S.block _ (bD.1 hk).1).trans hk).trans (KeepsOthers.setCell _ _ _),⟨au,(pK zO).trans (S.block _ zO)⟩,λk h1 h2=>(pK zO).trans (S.block _ zO),a5.trans au,?_⟩;rw[HS.out];have ab:Boxed W4 w 3 (qI (QG 7 ae:Nat)):=j;have:=ab.set (qI ((O+z:Nat):Int));rwa[show((O+z:Nat):Int)=(O:Int)+(z:Int) by omega]at this
 case done=>
  rintro D W hD⟨h2,h3⟩hK;rw[aEs]at h3;have CI:=eB (WU J c L W (hL.later h2) hs);have bb:=KF (L:=L) zO;have bd:L.length<=220000:=by have:=jK L;omega
  have a1:(eH (lG L)).data.toList.length<=6700000:=by rw[rL,jT];omega
  have HX:=eB (show(eH (lG L)).data.toList=lG L from rfl);have bg:(eH (lG L)).size<=6700000:=by rw[jT];omega
  have HE:=eB (show eH (i9 L)=eH (lG L++gQ (lG L)++lF (7+jB L)++UC)from rfl);have hE:7+jB L<=1100007:=zO;generalize y:eH (i9 L)=R at HE;have a3:=eB y;clear y;generalize eH (lG L)=x at CI HX bg a1;generalize lG L=ci at HX HE;generalize 7+jB L=E at h3 HE hE;have HB:=eB h2;have HK:=eB hK;have H3:=eB h3;have ak:=HB.out.size;clear hL hs aj u ah a2 h2 h3 hK bb bd;gi_wp2_with(first
   |(refine⟨trivial,?_⟩;gi_at_call 165;refine(callsIn_wide.2 CI.out).mono ?_;rintro e N⟨rfl,ab⟩;have f:=eB ab;clear ab)
   |(refine⟨trivial,?_⟩;gi_at_call 39;refine(callsIn_wide.2 (pJ _)).mono ?_;rintro e W6⟨rfl,rfl⟩;have R0:=eB (xY.new (fY.new N N (bF _))))
   |(refine⟨trivial,?_⟩;gi_at_call 166;refine(callsIn_wide.2 (K8 x _ zO)).mono ?_;rintro e W8⟨rfl,ar⟩;have R2:=eB (R1.out.later ar);clear ar R1)
   |(refine⟨trivial,?_⟩;gi_at_call 119;(with_reducible refine(callsIn_wide.2 (aE9 R0.out x zT)).mono ?_);rintro e W7⟨rfl,B⟩;have R1:=eB B;clear B R0)
   |(refine⟨trivial,?_⟩;gi_at_call 119;(with_reducible refine(callsIn_wide.2 (aE9 R2.out _ (by rw[bM,show(rS (gQ x.data.toList)).size=4 from rfl,List.length_nil];omega))).mono ?_);rintro e W9⟨rfl,B⟩;have R3:=eB B;clear B R2));gi_loopw [25] (λi wr=>∃k:Nat,k<=4/\i=qI k/\xY (N.alloc (aK #[qN] 175)) N qN ([]++x.data.toList++(rS (gQ x.data.toList)).data.toList++(lF E).take k) wr) (λi _=>4-(aW i).toNat)
  case atStart=>exact⟨0,zO,rfl,by simpa using R3.out⟩
  case round=>
   obtain⟨k,hk,rfl,y⟩:=hrel;have X:=eB y;clear y R3;by_cases hlt:k<4
   .have bc:k=0\/k=1\/k=2\/k=3:=zO;have ai:Boxed wr w 3 (qI (E:Nat)):=(X.out.block (k:=(w:Nat)) (by have:=f.out.size;have:=H3.out.lt;simp;omega) (by have:=f.out.size;have:=H3.out.lt;omega) (by simp[bY])).trans ((Boxed.alloc (show Boxed N w 3 (qI (E:Nat))from(f.out.block _ H3.out.lt).trans H3.out) _));have hc:=ai.cell;have bi:=eB ai;clear ai;obtain rfl|rfl|rfl|rfl:=bc
    .have M:(((bI (E%256)).toNat:Nat):Int)=(E:Int)%256:=by rw[pL zO];omega
     have RB:=eB (QB X.out (bI (E%256)) (by rw[bM,bM,bM,List.length_take,show(rS (gQ x.data.toList)).data.toList.length=4 from rfl,List.length_nil];omega));rw[M]at RB;gi_wp2_with(refine⟨trivial,?_⟩;gi_at_call 40;(with_reducible refine(callsIn_wide.2 RB.out).mono ?_);rintro e af⟨rfl,B⟩;have Y:=eB B;clear B);go_roundw
     case rel=>exact⟨0+1,zO,by go_num,by have h:=Y.out;simpa[lF]using h⟩
     case measure=>simp[aW];try omega
    .have M:(((bI (E/256%256)).toNat:Nat):Int)=(E:Int)/256%256:=by rw[pL zO];omega
     have RB:=eB (QB X.out (bI (E/256%256)) (by rw[bM,bM,bM,List.length_take,show(rS (gQ x.data.toList)).data.toList.length=4 from rfl,List.length_nil];omega));rw[M]at RB;gi_wp2_with(refine⟨trivial,?_⟩;gi_at_call 40;(with_reducible refine(callsIn_wide.2 RB.out).mono ?_);rintro e af⟨rfl,B⟩;have Y:=eB B;clear B);go_roundw
     case rel=>exact⟨1+1,zO,by go_num,by have h:=Y.out;simpa[lF]using h⟩
     case measure=>simp[aW];try omega
    .have M:(((bI (E/65536%256)).toNat:Nat):Int)=(E:Int)/65536:=by rw[pL zO];omega
     have RB:=eB (QB X.out (bI (E/65536%256)) (by rw[bM,bM,bM,List.length_take,show(rS (gQ x.data.toList)).data.toList.length=4 from rfl,List.length_nil];omega));rw[M]at RB;gi_wp2_with(refine⟨trivial,?_⟩;gi_at_call 40;(with_reducible refine(callsIn_wide.2 RB.out).mono ?_);rintro e af⟨rfl,B⟩;have Y:=eB B;clear B);go_roundw
     case rel=>exact⟨2+1,zO,by go_num,by have h:=Y.out;simpa[lF]using h⟩
     case measure=>simp[aW];try omega
    .have M:(((bI (E/16777216%256)).toNat:Nat):Int)=(E:Int)/16777216:=by rw[pL zO];omega
     have RB:=eB (QB X.out (bI (E/16777216%256)) (by rw[bM,bM,bM,List.length_take,show(rS (gQ x.data.toList)).data.toList.length=4 from rfl,List.length_nil];omega));rw[M]at RB;gi_wp2_with(refine⟨trivial,?_⟩;gi_at_call 40;(with_reducible refine(callsIn_wide.2 RB.out).mono ?_);rintro e af⟨rfl,B⟩;have Y:=eB B;clear B);go_roundw
     case rel=>exact⟨3+1,zO,by go_num,by have h:=Y.out;simpa[lF]using h⟩
     case measure=>simp[aW];try omega
   .obtain rfl:k=4:=zO;have R5:=eB (aE9 X.out ⟨#[69,78,68,46]⟩ (by rw[bM,bM,bM,List.length_take,show(rS (gQ x.data.toList)).data.toList.length=4 from rfl,List.length_nil];show _+4<=_;omega));have ax:([]++x.data.toList++(rS (gQ x.data.toList)).data.toList++(lF E).take 4++(⟨#[69,78,68,46]⟩:ByteArray).data.toList)=ci++gQ ci++lF E++UC:=by rw[HX.out];rfl
    rw[ax]at R5;clear ax X;gi_wp2_with(first|(refine⟨trivial,?_⟩;gi_at_call 119;(with_reducible refine(callsIn_wide.2 R5.out).mono ?_);rintro e ag⟨rfl,B⟩;have R6:=eB B;clear B)|(refine⟨trivial,?_⟩;gi_at_call 42;refine(callsIn_wide.2 (aHm R6.out)).mono ?_;rintro e bj⟨rfl,rfl⟩));have a4:=(bD.1 HK.out).1;have ap:=f.out.size;have bf:=fY.new N N (bF _);have a6:aV w w ag:=HB.out.trans ((f.out.mono ak).trans ((((Below.refl _ N).alloc (bF _) (aK #[qN] 175)).mono (Nat.le_trans ak ap)).trans ((R6.out.under bf).mono (Nat.le_trans ak ap))));have ao:ag.heap[D]?=some (.deferred (some [])):=(R6.out.block (k:=D) zT zO (by simp[bY])).trans ((Below.heap_alloc _ _ _ zO).trans ((f.out.block D a4).trans HK.out));refine⟨zS,.inl ⟨_,_,rfl,run_takeDeferred ao,?_⟩⟩;exact⟨_,results_tmp rfl _ _ _,by have h:=a3.out.trans HE.out;simp only[List.append_assoc]at h;exact congrArg (λx=>aO (aB x)) h.symm,a6.trans (belowK_b (w:=w) (bF _) ag D _ _ (by simp at hD;omega) ao rfl rfl)⟩
theorem GV(d:Option Addr)(c:Nat)(L:List jJ)(w:aS)(e:mP w d L)(f:jB L<=1100000):
 qK 101 #[aA d L.length c] w (Rt (aB (eH (i9 L))) w):=hH.1 (WR d c L w e f)
end
theorem aDM:(prog.info? 34).map (·.zero)=some (some (qI 0)):=zK
theorem CY(w:aS):(Instr.typeAssert .nilIface 20 34 true).run prog w=.ok (aF #[qI 0,aG false]) w:=by have B:=aDM;simp[Instr.typeAssert,go_sem]
theorem KR(p q:Addr)(w:aS):
  CallsD prog 98 #[aE (some p),aE (some q)] .returning w λe J w'=>e=aO (aF #[])/\J=.returning/\w'=w:=by refine callsD_of_wpS func98 rfl λB M D=>?_;simp only[ntmps98,pN,Nat.reduceAdd,Nat.reduceSub];apply wpS_seq;apply wpS_region;simp[wpOpsS,go_sem,recoverD,D,Exit.thenS,CY];apply wpS_seq;apply wpS_region;simp[wpOpsS,go_sem,Exit.thenS];refine wpS_cond (t:=false) (by simp[Act.eval]) ?_;simp only[Bool.false_eq_true,if_false];refine wpS_of_wp (wp_skip ?_);cases B;simp_all[bodyPostS,results,results98]
theorem KX(p q:Addr)(w:aS):
  CallsD prog 186 #[aE (some p),aE (some q)] .returning w λe J w'=>e=aO (aF #[])/\J=.returning/\w'=w:=by refine callsD_of_wpS func186 rfl λB M D=>?_;simp only[ntmps186,pN,Nat.reduceAdd,Nat.reduceSub];apply wpS_seq;apply wpS_region;simp[wpOpsS,go_sem,recoverD,D,Exit.thenS,CY];apply wpS_seq;apply wpS_region;simp[wpOpsS,go_sem,Exit.thenS];refine wpS_cond (t:=false) (by simp[Act.eval]) ?_;simp only[Bool.false_eq_true,if_false];refine wpS_of_wp (wp_skip ?_);cases B;simp_all[bodyPostS,results,results186]
theorem bs2(A B:List UInt8):eH A++eH B=eH (A++B):=sS (by rw[rX];rfl)
theorem O8{L:List jJ}(h:L[k]?=some x):fW (L.take (k+1))=fW (L.take k)++iM x.1 x.2:=by rw[FT h,RK];simp[fW]
theorem G4(L:List jJ)(k:Nat):(fW (L.take k)).length<=jB L:=by rw[tY];exact vR L k
theorem aDZ(pa:Option Addr)(c:Nat)(L:List jJ)(w:aS)(hL:mP w pa L)(ho:BT L=true)(hb:(p9 L).length<=1048576):
  qK 35 #[aA pa L.length c] w λe w'=>e=aO (aF #[aB (eH (p9 L)),qI 0])/\aV w w w':=by
 have a7:=IZ;have a3:=vM L;have a0:=jK L;have aL:jB L<=1100000:=zO;have hm:L.length<=16:=(PW ho).2.2;have Z:=ZK ho zO;have ah:aV w w ((w.alloc (aK #[aB ⟨#[]⟩] 9)).alloc (aK #[qI 0] 34)):=(fL w _).alloc zS _;have b0:Boxed ((w.alloc (aK #[aB ⟨#[]⟩] 9)).alloc (aK #[qI 0] 34)) w 9 (aB ⟨#[]⟩):=(oI w _ _).alloc _;have b1:Boxed ((w.alloc (aK #[aB ⟨#[]⟩] 9)).alloc (aK #[qI 0] 34)) ((w:Nat)+1) 34 (qI 0):=by have:=oI (w.alloc (aK #[aB ⟨#[]⟩] 9)) 34 (qI 0);rw[fO]at this;exact this
 have u:=eC (λW(h:aV w w W)=>hL.below h (eX _));have OA:=eC (λW h=>GG pa c L W h (by unfold aZ;omega));rw[ho]at OA;have y:=eC (λW h=>GV pa c L W h aL);have ak:=eC (show(eH (i9 L)).size+7+jB L<=1048576 by rw[jT,yJ];omega);have HT:=eC (λk x h=>ND (L:=L) (k:=k) (x:=x) h);have HU:=eC (vR L);have HF:=eC (λk x h=>O8 (L:=L) (k:=k) (x:=x) h);have ae:=eC (G4 L);have HZ:=eC (λ(k:Nat)(x:jJ)(h:L[k]?=some x)=>show x.2.size<=1000000000 by have:=D8 (iG h);omega);have aq:=eC (λ(k:Nat)(x:jJ)(h:L[k]?=some x)=>Z x (iG h));have ab:=eC (λk(h:k<L.length)=>US (A:=L) h);have HE:=eC (show jB (L.take L.length)=jB L by rw[List.take_length]);have ac:=eC (show eH (jI++fW (L.take L.length))++eH (i9 L)=eH (p9 L) by rw[List.take_length,bs2];rfl);generalize L.length=n at OA y ab HE ac hm|-;generalize eH (i9 L)=bh at y ak ac;generalize eH (p9 L)=R at ac|-;clear hL ho hb a3 a0 Z;go_enter_defers func35,ntmps35;generalize hV:(w.alloc (aK #[aB ⟨#[]⟩] 9)).alloc (aK #[qI 0] 34)=V at b0 b1 ah;go_wp2_with fail;refine(OA V (u V ah)).mono ?_;rintro e w1⟨rfl,af⟩;have B1:=fC ah af;have k0:Boxed w1 w 9 (aB ⟨#[]⟩):=(af.block _ b0.lt).trans b0;have k1:Boxed w1 ((w:Nat)+1) 34 (qI 0):=(af.block _ b1.lt).trans b1;clear af b0 b1 ah hV OA;go_wp2_with fail;refine(sC 20 _).mono ?_;rintro e w2⟨rfl,rfl⟩;go_wp2_with fail;refine(y w1 (u w1 B1)).mono ?_;rintro e w2⟨rfl,ag⟩;have B2:=eC (fC B1 ag);have K0:=eC (show Boxed w2 w 9 (aB ⟨#[]⟩)from(ag.block _ k0.lt).trans k0);have K1:=eC (show Boxed w2 ((w:Nat)+1) 34 (qI 0)from(ag.block _ k1.lt).trans k1);have a6:bh.size<=1048576:=by have:=ak.out;omega
 clear ag k0 k1 B1;go_wp2_with fail;go_loopw [4,21] (λs i wr=>∃k:Nat,k<=n/\i=qI k/\s=qI (7+bh.size+jB (L.take k):Nat)/\aV w w wr/\Boxed wr w 9 (aB ⟨#[]⟩)/\Boxed wr ((w:Nat)+1) 34 (qI 0)) (λ_ i _=>n-(aW i).toNat)
 case atStart=>exact⟨0,zO,rfl,rfl,B2,K0,K1⟩
 case round=>
  obtain⟨k,hk,rfl,rfl,Y,h0,h1⟩:=hrel;have N:=eC Y;have D:=eC h0;have X:=eC h1;have am:=Y.size;clear Y h0 h1;by_cases hlt:k<n
  .obtain⟨x,O⟩:=ab k hlt;obtain⟨b,a5,hp,ay,c0,c1⟩:=(u wr N).at O;have ar:=eC (HT k x O);have hu:=HU (k+1);rw[ar]at hu;have hz:=HZ k x O;obtain⟨B,d⟩:=x;simp only at c0 c1 hz;subst hp;have CZ:=eC (λW=>zX (B,d) W hz);generalize jB (L.take k)=q at*;generalize jP (B,d)=z at*;unfold FX at CZ;simp only at CZ;go_wp2_with fail;have aa:aV w w (wr.alloc (aK #[qI B,d] 75)):=N.alloc am _;have x0:=eC (D.alloc (aK #[qI B,d] 75));have x1:=eC (X.alloc (aK #[qI B,d] 75));generalize wr.alloc (aK #[qI B,d] 75)=wx at aa x0 x1|-;refine(CZ wx).mono ?_;rintro e w4⟨rfl,M⟩;have R1:=eC (fC aa M);have J:=eC (show Boxed w4 w 9 (aB ⟨#[]⟩)from(M.block _ x0.lt).trans x0);have R3:=eC (show Boxed w4 ((w:Nat)+1) 34 (qI 0)from(M.block _ x1.lt).trans x1);clear M;go_wp2_with fail;go_roundw
   case rel=>exact⟨k+1,zO,by go_num,by rw[ar];go_num,R1,J,R3⟩
   case measure=>simp[aW];omega
  .obtain rfl:k=n:=zO;rw[HE];have hq:=ak.out;generalize jB L=q at*;have d1:decide (7+(bh.size:Int)+(q:Int)<=1048576)=true:=zT;go_wp2_with fail;refine(sC 4 _).mono ?_;rintro e w5⟨rfl,rfl⟩;have ai:=D.cell;have aj:=D.frozen;go_wp2_with fail;have g0:=eC (D.set (aB (eH (jI++fW (L.take 0)))));have g1:=eC (X.other (B':=(w:Nat)) zO (aB (eH (jI++fW (L.take 0)))));have gB:=eC (N.setCell (p:=(w,0)) (eX _) (aB (eH (jI++fW (L.take 0)))));rw[show eH (jI++fW (L.take 0))=(⟨#[77,85,84,65,82,67,1]⟩:ByteArray)from rfl]at g0 g1 gB;clear ai aj D X N;go_loopw [35] (λi wr=>∃j:Nat,j<=k/\i=qI j/\aV w w wr/\Boxed wr w 9 (aB (eH (jI++fW (L.take j))))/\Boxed wr ((w:Nat)+1) 34 (qI 0)) (λi _=>k-(aW i).toNat)
   case atStart=>exact⟨0,zO,rfl,gB,g0,g1⟩
   case round=>
    obtain⟨j,hj,rfl,Y,h0,h1⟩:=hrel;have N:=eC Y;have D:=eC h0;have X:=eC h1;have am:=Y.size;clear Y h0 h1 g0 g1 gB;by_cases hlt:j<k
    .obtain⟨x,O⟩:=ab j hlt;obtain⟨b,a5,hp,ay,c0,c1⟩:=(u wr N).at O;have hz:=HZ j x O;have Z:=aq j x O;have ap:=eC (HF j x O);have a2:=ae j;have al:=ae (j+1);rw[ap,iR]at al;obtain⟨B,d⟩:=x;simp only at c0 c1 hz Z al;subst hp;have FP:=eC (λW=>aEm B d W zO);have au:fS B d=eH (iM B d):=by unfold fS;rw[eI Z]
     rw[au,Z]at FP;have e1:(eH (jI++fW (L.take j))).size<=7+q:=by rw[jT,iR];show 7+_<=_;omega
     have e2:(eH (iM B d)).size<=q:=by rw[jT];omega
     have e3:(eH (jI++fW (L.take j))).size+(eH (iM B d)).size<=9223372036854775807:=zO;have HN:=eC (show eH (jI++fW (L.take j))++eH (iM B d)=eH (jI++fW (L.take (j+1))) by rw[bs2,ap,jH]);generalize eH (jI++fW (L.take j))=S at*;generalize eH (iM B d)=F at*;clear au a2 al Z;go_wp2_with fail;have aa:aV w w (wr.alloc (aK #[qI B,d] 75)):=N.alloc am _;have x0:=eC (D.alloc (aK #[qI B,d] 75));have x1:=eC (X.alloc (aK #[qI B,d] 75));generalize wr.alloc (aK #[qI B,d] 75)=wx at aa x0 x1|-;refine(FP wx).mono ?_;rintro e w4⟨rfl,M⟩;have R1:=eC (fC aa M);have J:=eC (show Boxed w4 w 9 (aB S)from(M.block _ x0.lt).trans x0);have R3:=eC (show Boxed w4 ((w:Nat)+1) 34 (qI 0)from(M.block _ x1.lt).trans x1);clear M;go_wp2_with fail;refine(sC 0 _).mono ?_;rintro e w5⟨rfl,rfl⟩;have ai:=J.cell;have aj:=J.frozen;go_wp2_with fail;go_roundw
     case rel=>exact⟨j+1,zO,by go_num,R1.setCell (p:=(w,0)) (eX _) _,by rw[<-HN];exact J.set _,R3.other zO _⟩
     case measure=>simp[aW];omega
    .obtain rfl:j=k:=zO;have av:=eC (λV(h:aV w w V)=>y V (u V h));have a8:(eH (jI++fW (L.take j))).size<=7+q:=by have:=ae j;rw[jT,iR];show 7+_<=_;omega
     generalize eH (jI++fW (L.take j))=S at*;have a4:S.size+bh.size<=9223372036854775807:=zO;clear ab HZ aq HF ae HT HU u y;go_wp2_with fail;have ax:qC wr.drew w 0 (aB S):=D.cell;refine Code.wp_mono (Q:=Exit.then _ (λ_ _ _=>False)) (λe a w h=>by cases e<;>first|exact h|exact h.elim) ?_;refine zgW [0] (λi U=>match i with|0=>qC U w 0 (aB S)|_=>True) (.cons ax .nil) ?_;have ra:=λU=>run_string_add_sum (P:=prog) U S bh a4;refine BS 0 ?_;refine jV 1 ?_;refine tG 2 [0] λK hK=>?_;go_simp;have ao:=fC N.out (jX wr);refine(av _ ao).mono ?_;rintro e V⟨rfl,hb⟩;have R1:=eC (fC ao hb);have J:=eC (show Boxed V w 9 (aB S)from(hb.block _ D.lt).trans D);have R3:=eC (show Boxed V ((w:Nat)+1) 34 (qI 0)from(hb.block _ X.lt).trans X);refine hK _ _ (.cons J.out.cell .nil) ?_;clear hK K;refine jV 3 ?_;have ai:=J.cell;have aj:=J.frozen;have H2:=eC (J.set (aB (S++bh)));have H3:=eC (R3.other (B':=(w:Nat)) zO (aB (S++bh)));have az:=H3.cell;have a1:=H3.frozen;have aw:=eC ((R1.setCell (p:=(w,0)) (eX _) (aB (S++bh))).setCell (p:=((w:Nat)+1,0)) (Nat.le_succ _) (qI 0));refine EY 4 [] ?_;refine EY 5 [] ?_;refine QU ?_;have c4:=(H2.out.other (B':=(w:Nat)+1) (by omega) (qI 0)).cell;have c5:=(H3.out.set (qI 0)).cell;clear ai aj az a1;go_wp2_with fail;refine P7 (f:=98) (args:=#[qP w 0,qP ((w:Nat)+1) 0]) zS (by simp[go_sem]) ?_;refine(KR _ _ _).mono ?_;rintro e u' ba⟨rfl,rfl,rfl⟩;simp[Leaves,settle,results,results35,go_sem,c4,c5];exact⟨ac,aw⟩
def xN:List jJ->List aT
 |[]=>[]
 |x::L=>aC aP x.1::aB x.2::xN L
theorem SO(L:List jJ)(x:jJ):xN (L++[x])=xN L++[qI x.1,aB x.2]:=by
 induction L with
 |nil=>rfl
 |cons y L ih=>simp only[rO,xN,ih]
theorem V8:∀(L:List jJ)(i:Nat)(x:jJ),L[i]?=some x->(xN L)[i*2]?=some (qI x.1)/\(xN L)[i*2+1]?=some (aB x.2):=by
 intro L;induction L with
 |nil=>intro i x h;simp at h
 |cons y L ih=>
  intro i x h;cases i with
  |zero=>simp at h;subst h;exact⟨rfl,rfl⟩
  |succ i=>obtain⟨a,b⟩:=ih i x (by simpa using h);rw[show(i+1)*2=i*2+1+1 by omega];exact⟨a,b⟩
abbrev tC(w:aS)(n₀:Nat)(v:aT)(M:List jJ):Prop:=w.ownsRow n₀ 75 2 v M.length (xN M)
theorem aFx:(prog.info? 75).map (λi=>(i.zero.map (λz=>z.cells.size),i.size,i.bytes))=some (some 2,2,24):=zK
theorem aFF:∃(i:TypeInfo)(z:aT),prog.info? 75=some i/\i.zero=some z/\i.size=2/\i.bytes=24/\z.cells.size=2:=by
 have h:=aFx;cases h':prog.info? 75 with
 |none=>rw[h']at h;simp at h
 |some i=>
  rw[h']at h;simp only[cI,BU,Prod.mk.injEq]at h;obtain⟨d,e,f⟩:=h;cases hz:i.zero with
  |none=>rw[hz]at d;simp at d
  |some z=>rw[hz]at d;exact⟨i,z,rfl,hz,e,f,by simpa using d⟩
theorem tC.at{w:aS}(h:tC w d v M)(e:∀k,v.ownBlock=some k->w'.heap[k]?=w.heap[k]?):tC w' d v M:=by
 refine⟨h.1,?_⟩;obtain hn|⟨g,cap,cur,rfl,hg,hgg,rest⟩:=h.2
 .exact .inl hn
 .exact .inr ⟨g,cap,cur,rfl,hg,by rw[e g rfl];exact hgg,rest⟩
theorem tC.lt{w:aS}(h:tC w d v M):∀k,v.ownBlock=some k->d<=k/\k<(w:Nat):=BK h
theorem tC.later{w:aS}(h:tC w d v M)(e:Bl w w'):tC w' d v M:=h.at λk f=>e.block k (h.lt k f).2
theorem tC.nil(w:aS)(d:Nat):tC w d qN []:=dY _ _ _ _
theorem ZN(b d k:Nat):((b,d):Addr).add k=(b,d+k):=by
 unfold Addr.add;split
 .next h=>rw[h];rfl
 .rfl
theorem tC.secs{w:aS}{s:Nat}(h:tC w s v M):∃a c,v=aA a M.length c/\mP w a M:=by
 obtain⟨d,n⟩|⟨g,m,u,d,y,q,C,A,B,D⟩:=h.2
 .have k:M=[]:=List.eq_nil_of_length_eq_zero n;exact⟨none,0,by rw[d,k];rfl,.inl k⟩
 .refine⟨some (g,0),m,d,?_⟩;refine .inr ⟨g,0,rfl,(fB.1 q).1,λi x r=>?_⟩;obtain⟨a,b⟩:=V8 M i x r;have j:=World.ownsRow.cells h (g:=g) (by rw[d];rfl);have e:=j _ _ a;have f:=j _ _ b;rw[ZN]at e f;rw[kQ]at e f|-;exact⟨e,f⟩
def QH(w:aS)(g:Nat)(x:jJ):Prop:=w.heap[g]?=some (aK #[aC aP x.1,aB x.2] 75 (0,0))
theorem QH.cells{w:aS}(h:QH w g x):w.cell? (g,0)=some (qI x.1)/\w.cell? (g,1)=some (aB x.2):=by unfold bH;rw[show w.heap[g]?=_ from h];exact⟨rfl,rfl⟩
theorem sM{w:aS}{X:List Oper}{J:Act}(aa:o.guard=none)(s x:Operand)
  (ho:o.op=.call {callee:=.builtin .append,args:=#[s,x],argTypes:=#[69,69]})(D:Nat)(v:aT)(M:List jJ)(hs:J.eval s=v)(U:tC w D v M)
  (O:Nat)(y:jJ)(hx:J.eval x=aA (some (O,0)) 1 1)(hg:QH w O y)(af:M.length+1<=10000000)(R:D<=w)
  (h:∀N w',tC w' D N (M++[y])->w.grownBy w' v.ownBlock->aV D w w'->wpList prog ops Q X (J.put o.dst N) w'):wpList prog ops Q (o::X) J w:=by
 obtain⟨i,z,hi,hz,ac,f,ae⟩:=aFF;refine wpList_append_own _ aa s x 69 ho D 75 i z 2 24 underlying69 hi hz ac f ae zD v M.length (xN M) hs U (O,0) 1 1 [qI y.1,y.2] hx rfl ?_ (λu W=>?_) (by unfold aZ;omega) zO R (λN w' ab S _=>h N w' ?_ S ?_)
 .intro j u B;obtain⟨Y,Z⟩:=hg.cells;rw[ZN,kQ];match j,B with
  |0,B=>simp at B;subst B;exact Y
  |1,B=>simp at B;subst B;exact Z
 .simp only[xD,List.not_mem_nil,or_false]at W;obtain rfl|rfl:=W<;>rfl
 .unfold tC;rw[SO,iR];exact ab
 .exact(iL D w).grown S R (λk hk=>(U.lt k hk).1)
def aHF(s:ByteArray)(w w':aS)(e:Ending):Prop:=(∃d c,e=aO (aF #[aA d (oX s).1.length c,aC aP (oX s).2])/\mP w' d (oX s).1)/\aV (w:Nat) w w'
theorem TV(h:cOk s=false):oX s=([],7):=by unfold oX;rw[h];rfl
theorem RZ{a:ByteArray}{l:List UInt8}(h:a=eH l):(a.toList==l)=true:=by rw[h,ByteArray.toList_eq];simp[eH]
theorem MV{a:ByteArray}{l:List UInt8}(h:a≠eH l):(a.toList==l)=false:=by rw[beq_eq_false_iff_ne];intro e;apply h;rw[ByteArray.toList_eq]at e;exact sS e
def vZ(s:ByteArray)(q:Nat):Nat->Nat
 |0=>0
 |k+1=>vZ s q k+lO s (q+k)*256^k
theorem U9(a b:Nat)(d:a<4611686018427387904)(e:b<4611686018427387904):bits .or aP (a:Int) (b:Int)=((a|||b:Nat):Int):=by
 have g:a|||b<2^62:=Nat.or_lt_two_pow zO zO;have o:∀c:Nat,c<4611686018427387904->(BitVec.ofInt 64 (c:Int)).toNat=c:=λc f=>by rw[BitVec.ofInt_natCast,BitVec.toNat_ofNat];exact Nat.mod_eq_of_lt zO
 show aP.wrap ((BitVec.ofInt 64 (a:Int)|||BitVec.ofInt 64 (b:Int)).toNat:Int)=_;rw[BitVec.toNat_or,o a d,o b e,iA];omega
theorem ZV(s:ByteArray)(q k:Nat):vZ s q k<256^k:=by
 induction k with
 |zero=>simp[vZ]
 |succ k ih=>have:lO s (q+k)<256:=UInt8.toNat_lt _;rw[vZ,Nat.pow_succ];have d:lO s (q+k)*256^k<=255*256^k:=Nat.mul_le_mul_right _ zO;omega
theorem VD(h:i<s.size):lO s i=s[i].toNat:=by unfold lO;rw[vT,lJ (show i<s.data.toList.length from h)];rfl
theorem IB(s:ByteArray)(q k:Nat)(j:k<4)(hq:q+k<s.size):bits .or aP ((vZ s q k:Nat):Int) (a9 (a9 ((s[q+k].toNat:Nat):Int)*((256^k:Nat):Int)))=((vZ s q (k+1):Nat):Int):=by
 have f:s[q+k].toNat<256:=UInt8.toNat_lt _;have d:=ZV s q k;rw[vZ,VD hq];generalize s[q+k].toNat=b at f|-;generalize vZ s q k=a at d|-;have g:256^k<=256^3:=Nat.pow_le_pow_right zO zO;have hm:b*256^k<=255*256^3:=Nat.mul_le_mul zO g;have h:a9 ((b:Nat):Int)=(b:Int):=by unfold a9;omega
 have i:a9 ((b:Int)*((256^k:Nat):Int))=((b*256^k:Nat):Int):=by rw[<-Int.natCast_mul];generalize b*256^k=m at hm|-;unfold a9;omega
 rw[h,i,U9 a (b*256^k) zO zO];have e:256^k=2^(8*k):=by rw[Nat.pow_mul]
 rw[e]at d|-;have:=Nat.two_pow_add_eq_or_of_lt d b;rw[Nat.mul_comm b,Nat.or_comm,<-this,Nat.add_comm]
theorem aEL(s:ByteArray)(q:Nat):vZ s q 4=AT s q:=by simp only[vZ,AT,yZ];omega
def tX(s:ByteArray)(t:Nat):List jJ×Nat:=
 if 7<=t/\t<=s.size-8 then(match mI (s.extract 0 t) s.size 7 with
  |none=>([],8)
  |some L=>if BT L=true then(if s.extract t s.size=eH (i9 L)then(L,0)else([],9))else([],20))
 else([],9)
theorem aEJ(h:cOk s=true):oX s=tX s (AT s (s.size-8)):=by
 unfold oX tX;rw[eI h];split
 .cases mI (s.extract 0 (AT s (s.size-8))) s.size 7<;>rfl
 .rfl
theorem GQ(h:¬(7<=t/\t<=s.size-8)):tX s t=([],9):=by unfold tX;rw[eE h]
theorem PP(h:7<=t/\t<=s.size-8)(d:mI (s.extract 0 t) s.size 7=none):tX s t=([],8):=by unfold tX;rw[eI h,d]
theorem PL{L:List jJ}(h:7<=t/\t<=s.size-8)(d:mI (s.extract 0 t) s.size 7=some L):tX s t=if BT L=true then(if s.extract t s.size=eH (i9 L)then(L,0)else([],9))else([],20):=by unfold tX;rw[eI h,d]
theorem aEO{d:ByteArray}(h:p<S.size)(f:vA S p=((e,d),z,0)):mI S (k+1) p=(mI S k z.toNat).map (λL=>(((e:Int),d):jJ)::L):=by rw[mI,eE zO,f];simp only[eI]
theorem aCz{d:ByteArray}(h:p<S.size)(f:vA S p=((g,d),z,e))(he:e≠0):mI S (k+1) p=none:=by rw[mI,eE zO,f];simp only;rw[eE he]
theorem aBo(h:S.size<=p):mI S k p=some []:=by
 cases k with
 |zero=>rfl
 |succ k=>rw[mI,eI h]
theorem U6(s:ByteArray)(w:aS)(hs:s.size<=1048576)(az:(oX s).2=0):
  qK 129 #[aB s] w λe w'=>aHF s w w' e:=by
 have bx:=IZ;have al:Bl w ((w.alloc (aK #[qN] 69)).alloc (aK #[qI 0] 34)):=(fL w _).alloc zS _;have b0:Boxed ((w.alloc (aK #[qN] 69)).alloc (aK #[qI 0] 34)) w 69 qN:=(oI w _ _).alloc _;have b1:Boxed ((w.alloc (aK #[qN] 69)).alloc (aK #[qI 0] 34)) ((w:Nat)+1) 34 (qI 0):=by have:=oI (w.alloc (aK #[qN] 69)) 34 (qI 0);rw[fO]at this;exact this
 have R:=eC az;clear az;have af:=eC (TV (s:=s));have dz:decide ((s.size:Int)<=1048576)=true:=zT;by_cases h15:15<=s.size
 .have d15:decide ((s.size:Int)>=15)=true:=zT;by_cases hmg:s.extract 0 7=eH jI
  .have em:=RZ hmg;by_cases Y:s.extract (s.size-4) s.size=eH UC
   .have ee:=RZ Y;have a1:cOk s=true:=by unfold cOk;rw[uW hmg,uW Y,uW h15];rfl
    have ap:=eC a1;clear Y hmg a1 af;unfold jI at em;unfold UC at ee;go_enter_defers func129,ntmps129;generalize hV:(w.alloc (aK #[qN] 69)).alloc (aK #[qI 0] 34)=V at b0 b1 al;go_wp2_with fail;refine(sC 4 _).mono ?_;rintro e w1⟨rfl,rfl⟩;go_wp2_with fail;refine(sC 7 _).mono ?_;rintro e w1⟨rfl,rfl⟩;clear hV;go_wp2_with fail;go_loopw [5,32] (λa i wr=>∃k:Nat,k<=4/\i=qI k/\a=qI (vZ s (s.size-8) k:Nat)/\V=wr) (λ_ i _=>4-(aW i).toNat)
    case atStart=>exact⟨0,zO,rfl,rfl,rfl⟩
    case round=>
     obtain⟨k,hk,rfl,rfl,rfl⟩:=hrel;by_cases hlt:k<4
     .have bm:k=0\/k=1\/k=2\/k=3:=zO;obtain rfl|rfl|rfl|rfl:=bm
      .have Z:bits .or aP ((vZ s (s.size-8) 0:Nat):Int) (a9 (a9 ((s[s.size-8].toNat:Nat):Int)))=((vZ s (s.size-8) (0+1):Nat):Int):=by have h:=IB s (s.size-8) 0 zO zO;simpa using h
       go_wp2_with fail;exact⟨⟨1,zO,rfl,by first|rfl|rw[Z],trivial⟩,by simp[aW]⟩
      .have Z:bits .or aP ((vZ s (s.size-8) 1:Nat):Int) (a9 (a9 ((s[s.size-8+1].toNat:Nat):Int)*256))=((vZ s (s.size-8) (1+1):Nat):Int):=IB s (s.size-8) 1 zO zO;go_wp2_with fail;exact⟨⟨2,zO,rfl,by first|rfl|rw[Z],trivial⟩,by simp[aW]⟩
      .have Z:bits .or aP ((vZ s (s.size-8) 2:Nat):Int) (a9 (a9 ((s[s.size-8+2].toNat:Nat):Int)*65536))=((vZ s (s.size-8) (2+1):Nat):Int):=IB s (s.size-8) 2 zO zO;go_wp2_with fail;exact⟨⟨3,zO,rfl,by first|rfl|rw[Z],trivial⟩,by simp[aW]⟩
      .have Z:bits .or aP ((vZ s (s.size-8) 3:Nat):Int) (a9 (a9 ((s[s.size-8+3].toNat:Nat):Int)*16777216))=((vZ s (s.size-8) (3+1):Nat):Int):=IB s (s.size-8) 3 zO zO;go_wp2_with fail;exact⟨⟨4,zO,rfl,by first|rfl|rw[Z],trivial⟩,by simp[aW]⟩
     .obtain rfl:k=4:=zO;rw[aEL];have y:=eC (aEJ ap.out);have bp:AT s (s.size-8)<4294967296:=by rw[<-aEL];exact ZV s _ 4
      generalize AT s (s.size-8)=t at y bp|-;clear em ee d15 ap;by_cases g1:7<=t
      .by_cases g2:t<=s.size-8
       .have d1:decide ((t:Int)>=7)=true:=zT;have d2:decide ((t:Int)<=(s.size:Int)-8)=true:=zT;have hS:(s.extract 0 t).size=t:=by rw[LZ];omega
        obtain⟨S,ak⟩:=eR (s.extract 0 t);have FG:=eC (λ(p:Nat)W=>aDy (s.extract 0 t) p W (by rw[hS];unfold aZ;omega));simp only[congrArg (λx=>vA x) ak]at FG;have ON:=eC (λh=>PP (s:=s) (t:=t) ⟨g1,g2⟩ h);have OS:=eC (λL h=>PL (s:=s) (t:=t) (L:=L) ⟨g1,g2⟩ h);have HG:=eC (λ(p:Nat)B d tt h=>aBx (s:=s.extract 0 t) (at':=p) (toQ:=tt) (ty:=B) (d:=d) h);have bO:t<=s.size:=zO;go_wp2_with fail;refine(sC 9 _).mono ?_;rintro e w2⟨rfl,rfl⟩;rw[ak]at ON OS HG hS;have a3:mI S s.size 7=(mI S s.size 7).map ([]++·):=by simp
        clear ak;have ar:=eC a3;have K0:=eC b0;have K1:=eC b1;have KB:=eC al;have ac:=eC hS;clear a3 b0 b1 al d1 d2 hS dz;go_wp2_with fail;go_loopw [7] (λf wr=>∃(p k:Nat)(M:List jJ)(v:aT),f=qI p/\7<=p/\p<=t/\t<=p+k/\7+jB M=p/\mI S s.size 7=(mI S k p).map (M++·)/\Bl w wr/\Boxed wr w 69 v/\tC wr w v M/\Boxed wr ((w:Nat)+1) 34 (qI 0)) (λf _=>t-(aW f).toNat)
        case atStart=>exact⟨7,s.size,[],qN,rfl,zO,g1,zO,rfl,ar.out,KB.out,K0.out,tC.nil _ _,K1.out⟩
        case round=>
         obtain⟨p,k,M,v,rfl,bz,bL,bA,bu,a4,hB,au,a5,aw⟩:=hrel;have aa:=eC a4;have HB:=eC hB;have O:=eC au;have u:=eC aw;have ab:=eC a5;have bb:=hB.size;clear a4 hB au aw a5 K0 K1 KB ar;by_cases hlt:p<t
         .have d3:decide ((p:Int)<(t:Int))=true:=zT;have ae:=eC (FG.out p);obtain⟨k',rfl⟩:∃j,k=j+1:=⟨k-1,zO⟩;obtain⟨g,hg⟩:=eR (vA S p);rw[hg]at ae;have ai:=eC hg;obtain⟨⟨B,d⟩,tt,er⟩:=g;unfold FV at ae;simp only at ae;clear hg;by_cases he:er=0
          .subst he;have ag:=aEO (k:=k') (by rw[ac.out];exact hlt) ai.out;obtain⟨a',t',bg,br,bs,ba,bl,hex⟩:=HG.out p B d tt ai.out;have bi:a'=p:=zO;subst bi;subst br;rw[ac.out]at ba;have a8:jP ((B:Int),d)=t'-a':=by have:=congrArg ByteArray.size hex;rw[LZ,jT,ac.out]at this;rw[<-GM];simp only;omega
           have HN:=eC (show mI S s.size 7=(mI S k' t').map ((M++[((B:Int),d)])++·) by
            rw[aa.out,ag,xC,Option.map_map]
            congr 1
            funext q
            simp);have be:=eC (show 7+jB (M++[((B:Int),d)])=t' by rw[JZ,show jB [((B:Int),d)]=jP ((B:Int),d) by simp[jB],a8];omega);have aL:M.length<=1048576:=by have:=jK M;omega
           clear ag hex a8 bl bg aa;go_wp2_with fail;with_reducible refine(ae.out wr).mono ?_
           rintro e J⟨rfl,N⟩;have B4:=HB.out.trans (N.mono bb);have J0:Boxed J w 69 v:=(N.block _ O.out.lt).trans O.out;have J1:Boxed J ((w:Nat)+1) 34 (qI 0):=(N.block _ u.out.lt).trans u.out;have JR:=ab.out.later N;clear N O u ab HB;go_wp2_with fail;have BX:=B4.alloc B4.size (aK #[qI (B:Nat),d] 75);have X0:=J0.alloc (aK #[qI (B:Nat),d] 75);have X1:=J1.alloc (aK #[qI (B:Nat),d] 75);have XR:=JR.later ((iL _ J).alloc (eX _) (aK #[qI (B:Nat),d] 75));have XS:QH (J.alloc (aK #[qI (B:Nat),d] 75)) J ((B:Int),d):=fG J _;generalize J.alloc (aK #[qI (B:Nat),d] 75)=wx at BX X0 X1 XR XS|-;generalize(J:Nat)=X at XS|-;obtain⟨c0,c1⟩:=XS.cells;simp only at c0 c1;have hc:=X0.cell;refine(sC 8 _).mono ?_;rintro e w5⟨rfl,rfl⟩;have YR:=eC (XR.later ((iL _ wx).alloc (eX _) (aK #[qI (B:Nat),d] 75)));have Y0:=eC (X0.alloc (aK #[qI (B:Nat),d] 75));have Y1:=eC (X1.alloc (aK #[qI (B:Nat),d] 75));have YB:=eC (BX.alloc BX.size (aK #[qI (B:Nat),d] 75));have YS:QH (wx.alloc (aK #[qI (B:Nat),d] 75)) wx ((B:Int),d):=fG wx _;have YZ:=eC YS;clear BX X0 X1 XR XS J0 J1 JR B4 YS;go_wp2_with(at_builtin;refine sM rfl (.tmp 72) (.tmp 74) rfl w v M rfl YR.out wx ((B:Int),d) rfl YZ.out zO YB.out.size ?_;intro v' w7 ao am ax;have z0:Boxed w7 w 69 v:=(am.block _ Y0.out.lt (Y0.out.not_row zD YR.out)).trans Y0.out;have z1:Boxed w7 ((w:Nat)+1) 34 (qI 0):=(am.block _ Y1.out.lt (Y1.out.not_row zD YR.out)).trans Y1.out;have bt:=z0.cell;have bw:=z0.frozen;have Z0:=eC z0;have Z1:=eC z1;have ZB:=eC (YB.out.trans ax);have ZR:=eC ao;obtain⟨av,cv,rfl,_⟩:=ao.secs;clear z0 z1 am ax ao);have bn:(M++[((B:Int),d)]).length=M.length+1:=by simp
           have a0:=Z0.out.not_row zD ZR.out;rw[bn]at ZR a0;exact⟨⟨t',k',M++[((B:Int),d)],aA av (M.length+1) cv,rfl,zO,ba,zO,be.out,HN.out,ZB.out.setCell (p:=(w,0)) (eX _) _,Z0.out.set _,ZR.out.at (λk hk=>pK (λe=>a0 (by rw[hk,e]))),Z1.out.other zO _⟩,by simp[aW];omega⟩
          .have ag:=aCz (k:=k') (by rw[ac.out];exact hlt) ai.out he;have D:Hid (oX s=([],8)/\(8:Int)=((8:Nat):Int)):=eC ⟨by rw[y.out];exact ON.out (by rw[aa.out,ag];rfl),rfl⟩;exact absurd R.out (by rw[D.out.1];decide)
         .obtain rfl:p=t:=zO;have bv:decide ((p:Int)<(p:Int))=false:=by simp
          have Y:mI S s.size 7=some M:=by rw[aa.out,aBo (by rw[ac.out];exact eX _)];simp
          have HQ:=eC (y.out.trans (OS.out M Y));have aL:M.length<=1048576:=by have:=jK M;omega
          have bo:jB M<=1100000:=zO;obtain⟨a,c,rfl,a6⟩:=ab.out.secs;have HM:=eC a6;have OA:=eC (λW h=>GG a c M W h (by unfold aZ;omega));have BH:=eC (λW h=>GV a c M W h bo);clear Y aa y OS ON HG FG a6;have ay:=O.out.cell;by_cases ho:BT M=true
          .rw[ho]at OA;rw[eI ho]at HQ;clear ho;by_cases hbh:s.extract p s.size=eH (i9 M)
           .have aq:Hid (oX s=(M,0)):=eC (by rw[HQ.out,eI hbh]);have bk:((s.extract p s.size).toList==(eH (i9 M)).toList)=true:=by rw[hbh];simp
            have bf:Hid (M.length=M.length):=eC rfl;obtain⟨n,hn⟩:=eR M.length;have HN:=eC hn;rw[hn]at OA BH O ay aL;clear hbh HQ hn bf;generalize eH (i9 M)=bh at BH bk;go_wp2_with fail;refine(OA.out wr HM.out).mono ?_;rintro e J⟨rfl,N⟩;have B4:=HB.out.trans (N.mono bb);have J0:Boxed J w 69 (aA a n c):=(N.block _ O.out.lt).trans O.out;have J1:Boxed J ((w:Nat)+1) 34 (qI 0):=(N.block _ u.out.lt).trans u.out;have J2:=HM.out.later N;have JR:=eC (ab.out.later N);clear N O u HB ay HM ab;go_wp2_with fail;refine(sC 20 _).mono ?_;rintro e w5⟨rfl,rfl⟩;have bj:=J0.cell;go_wp2_with fail;refine Code.wp_mono (Q:=Exit.then _ (λ_ _ _=>False)) (λe a w h=>by cases e<;>first|exact h|exact h.elim) ?_;refine zgW [3] (λi U=>match i with|3=>qC U w 0 (aA a n c)|_=>True) (.cons bj .nil) ?_;refine jV 0 ?_;refine jV 1 ?_;refine jV 2 ?_;refine BS 3 ?_;refine tG 4 [] λK hK=>?_;go_simp;refine(BH.out _ (J2.later (jX J))).mono ?_;rintro e V⟨rfl,hb⟩;have ah:Bl J V:=fC (jX J) hb;refine hK _ _ .nil ?_;clear hK K;refine jV 5 ?_;refine tG 6 [] λK hK=>?_;go_simp;refine(sC 9 _).mono ?_;rintro e V'⟨rfl,rfl⟩;refine hK _ _ .nil ?_;clear hK K;refine QU ?_;have JB:=fC B4 ah;have aj:=eC (JR.out.later ah);have L0:Boxed V w 69 (aA a n c):=(ah.block _ J0.lt).trans J0;have L1:Boxed V ((w:Nat)+1) 34 (qI 0):=(ah.block _ J1.lt).trans J1;have q0:=L0.cell;have q1:=L0.frozen;have m0:=(L1.other (B':=(w:Nat)) zO (aA a n c)).cell;have m1:=(L1.other (B':=(w:Nat)) zO (aA a n c)).frozen;have M0:=eC ((L0.set (aA a n c)).other (B':=(w:Nat)+1) zO (qI 0));have M1:=eC ((L1.other (B':=(w:Nat)) zO (aA a n c)).set (qI 0));have MB:=eC ((JB.setCell (p:=(w,0)) (eX _) (aA a n c)).setCell (p:=((w:Nat)+1,0)) zS (qI 0));have bc:=L0.not_row zD aj.out;have bd:=L1.not_row zD aj.out;have MS:=eC ((aj.out.at (w':=qS V (w,0) (aA a n c)) (λk hk=>pK (λe=>bc (by rw[hk,e])))).at (w':=qS (qS V (w,0) (aA a n c)) ((w:Nat)+1,0) (qI 0)) (λk hk=>pK (λe=>bd (by rw[hk,e]))));clear JB L0 L1 bc bd;go_wp2_with fail;refine P7 (f:=186) (args:=#[qP w 0,qP ((w:Nat)+1) 0]) zS (by simp[go_sem]) ?_;refine(KX _ _ _).mono ?_;rintro e u' bV⟨rfl,rfl,rfl⟩;have c4:=M0.out.cell;have c5:=M1.out.cell;simp[Leaves,settle,results,results129,go_sem,c4,c5];obtain⟨a2,c2,a7,bq⟩:=MS.out.secs;simp only[Value.slice.injEq]at a7;obtain⟨rfl,-,rfl⟩:=a7;refine⟨⟨a,c,?_,?_⟩,MB.out⟩
            .rw[aq.out,HN.out];rfl
            .rw[aq.out];exact bq
           .have D:Hid (oX s=([],9)/\(9:Int)=((9:Nat):Int)):=eC ⟨by rw[HQ.out,eE hbh],rfl⟩;exact absurd R.out (by rw[D.out.1];decide)
          .rw[show BT M=false by simpa using ho]at OA;rw[eE ho]at HQ;have D:Hid (oX s=([],20)/\(20:Int)=((20:Nat):Int)):=eC ⟨HQ.out,rfl⟩;exact absurd R.out (by rw[D.out.1];decide)
       .have D:Hid (oX s=([],9)/\(9:Int)=((9:Nat):Int)):=eC ⟨by rw[y.out,GQ zO],rfl⟩;exact absurd R.out (by rw[D.out.1];decide)
      .have D:Hid (oX s=([],9)/\(9:Int)=((9:Nat):Int)):=eC ⟨by rw[y.out,GQ zO],rfl⟩;exact absurd R.out (by rw[D.out.1];decide)
   .have ee:=MV Y;have D:Hid (oX s=([],7)/\(7:Int)=((7:Nat):Int)):=eC ⟨af.out (by unfold cOk;rw[BQ Y];simp),rfl⟩;exact absurd R.out (by rw[D.out.1];decide)
  .have em:=MV hmg;have D:Hid (oX s=([],7)/\(7:Int)=((7:Nat):Int)):=eC ⟨af.out (by unfold cOk;rw[BQ hmg];simp),rfl⟩;exact absurd R.out (by rw[D.out.1];decide)
 .have d15:decide ((s.size:Int)>=15)=false:=zT;have D:Hid (oX s=([],7)/\(7:Int)=((7:Nat):Int)):=eC ⟨af.out (by unfold cOk;rw[BQ h15];rfl),rfl⟩;exact absurd R.out (by rw[D.out.1];decide)
theorem aJe(p:ByteArray)(n:Nat)(q:ByteArray)(d:jG n):gN (p++iF n++q) p.size=n/\gT (p++iF n++q) p.size=p.size+(iF n).size/\gE (p++iF n++q) p.size=0:=by have h:=GJ p d q;unfold gN gT gE;rw[h];exact⟨rfl,by simp only;omega,rfl⟩
section
open Go.ChangeShapes Go.Deep Go.Joins Go.WideShapes
section
variable {H : Type} {enc : aX × aT → H} {w : aS} {base : Nat} {spare : Nat → Bool} {held : Bool}
end
end
theorem aIt(w:aS)(d e f:Obj):(((w.alloc d).alloc e).alloc f).heap[(w:Nat)]?=some d/\(((w.alloc d).alloc e).alloc f).heap[(w:Nat)+1]?=some e/\(((w.alloc d).alloc e).alloc f).heap[(w:Nat)+1+1]?=some f/\Bl w (((w.alloc d).alloc e).alloc f):=by
 have j:(w.alloc d).heap.size=w+1:=by simp
 have k:((w.alloc d).alloc e).heap.size=w+1+1:=by simp
 have i:=fG w d;have g:=fG (w.alloc d) e;have h:=fG ((w.alloc d).alloc e) f;rw[j]at g;rw[k]at h;refine⟨?_,?_,h,(((fL w _).alloc zO _).alloc zO _)⟩
 .exact(iI _ _ _ zO).trans ((iI _ _ _ zO).trans i)
 .exact(iI _ _ _ zO).trans g
theorem aGC(w:aS)(d e f g:Obj):((((w.alloc d).alloc e).alloc f).alloc g).heap[(w:Nat)]?=some d/\((((w.alloc d).alloc e).alloc f).alloc g).heap[(w:Nat)+1]?=some e/\((((w.alloc d).alloc e).alloc f).alloc g).heap[(w:Nat)+1+1]?=some f/\((((w.alloc d).alloc e).alloc f).alloc g).heap[(w:Nat)+1+1+1]?=some g/\Bl w ((((w.alloc d).alloc e).alloc f).alloc g):=by
 obtain⟨j,k,m,h⟩:=aIt w d e f;have n:(((w.alloc d).alloc e).alloc f).heap.size=w+1+1+1:=by simp
 have i:=fG (((w.alloc d).alloc e).alloc f) g;rw[n]at i;exact⟨(iI _ _ _ zO).trans j,(iI _ _ _ zO).trans k,(iI _ _ _ zO).trans m,i,h.alloc h.size _⟩
def oB(w:aS)(a:Option Addr)(l:List Int):Prop:=l=[]\/∃b d,a=some ⟨b,d,none⟩/\b<(w:Nat)/\∀j x,l[j]?=some x->w.cell? ⟨b,d+j,none⟩=some (aC aP x)
def gG(w:aS)(a:Option Addr)(L:List (List Int)):Prop:=L=[]\/∃b d,a=some ⟨b,d,none⟩/\b<(w:Nat)/\∀i l,L[i]?=some l->∃e c,w.cell? ⟨b,d+i,none⟩=some (aA e l.length c)/\oB w e l
theorem oB.later{w:aS}{a:Option Addr}(h:oB w a l)(d:Bl w w'):oB w' a l:=by
 obtain h|⟨b,off,rfl,hlt,h⟩:=h
 .exact .inl h
 .exact .inr ⟨b,off,rfl,gV hlt d.size,λj x e=>(d.cell (p:=(qP b (off+j))) hlt).trans (h j x e)⟩
theorem gG.later{w w':aS}{a:Option Addr}{L:List (List Int)}(h:gG w a L)(d:Bl w w'):gG w' a L:=by
 obtain h|⟨b,off,rfl,hlt,h⟩:=h
 .exact .inl h
 .refine .inr ⟨b,off,rfl,gV hlt d.size,λi l g=>?_⟩;obtain⟨j,c,e,f⟩:=h i l g;exact⟨j,c,(d.cell (p:=(b,off+i)) hlt).trans e,f.later d⟩
theorem yL(w:aS)(k:Nat):Bl w (w.drewN k):=⟨rfl,rfl,rfl,eX _,λ_ _=>rfl⟩
theorem oB.at{w:aS}{a:Option Addr}{l:List Int}(h:oB w a l){j:Nat}{x:Int}(e:l[j]?=some x):∃b d,a=some ⟨b,d,none⟩/\w.cell? (qP b (d+j))=some (qI x):=by
 obtain rfl|⟨b,d,rfl,hlt,h⟩:=h
 .simp at e
 .exact⟨b,d,rfl,h j x e⟩
theorem gG.at{w:aS}{a:Option Addr}{L:List (List Int)}(h:gG w a L){i:Nat}{l:List Int}(f:L[i]?=some l):∃b d e c,a=some ⟨b,d,none⟩/\w.cell? (qP b (d+i))=some (aA e l.length c)/\oB w e l:=by
 obtain rfl|⟨b,d,rfl,hlt,h⟩:=h
 .simp at f
 .obtain⟨e,c,g,j⟩:=h i l f;exact⟨b,d,e,c,rfl,g,j⟩
theorem AR{α:Type}{A B:List α}(hl:A.length=B.length)(h:∀j,j<A.length->A[j]?=B[j]?):A=B:=by
 apply List.ext_getElem?;intro j;by_cases hj:j<A.length
 .exact h j hj
 .rw[AS zO,AS zO]
theorem fN{α:Type}{A:List α}(h:k<A.length):∃x,A[k]?=some x:=⟨A[k],lJ h⟩
theorem AM{α:Type} [DecidableEq α]{a b:α}(h:a≠b):decide (a=b)=false:=BQ h
theorem aIZ{a b:Bool}(h:a=b):aO (aG a)=aO (aG b):=by rw[h]
theorem NP(W X:Option Addr)(u cb:Nat)(A B:List Int)(w:aS)(O:oB w W A)(R:oB w X B)(hm:A.length<=aZ):
  qK 192 #[aA W A.length u,aA X B.length cb] w λe w'=>e=aO (aG (decide (A=B)))/\∃m,w'=w.drewN m:=by
 unfold aZ at hm;by_cases hl:A.length=B.length
 .obtain⟨n,J⟩:=eR A.length;have S:B.length=n:=zO;rw[J]at hm;rw[J,S];have f:=eC hl;change Hid _ at J S;clear hl;have Y:=eC O;have Z:=eC R;clear O R;go_enter func192,ntmps192;go_wp2_with fail;go_loopw [13] (λi wr=>∃k m:Nat,k<=n/\i=qI k/\(∀j,j<k->A[j]?=B[j]?)/\wr=w.drewN m) (λi _=>n-(aW i).toNat)
  case atStart=>exact⟨0,0,zO,rfl,λj hj=>zO,rfl⟩
  case round=>
   obtain⟨k,m,hk,rfl,U,rfl⟩:=hrel;change Hid _ at U;by_cases hlt:k<n
   .obtain⟨x,M⟩:=fN (show k<A.length by rw[J];exact hlt);obtain⟨y,N⟩:=fN (show k<B.length by rw[S];exact hlt);obtain⟨b1,o1,rfl,c1⟩:=Y.at M;obtain⟨b2,o2,rfl,c2⟩:=Z.at N;change Hid _ at M N;by_cases hxy:x=y
    .subst hxy;go_wp2_with fail;go_quiet (fail);go_wp2_with fail;refine⟨⟨k+1,m+nq,zO,by go_num,λj hj=>?_,rfl⟩,by simp[aW];omega⟩;by_cases hjk:j<k
     .exact U j hjk
     .obtain rfl:j=k:=zO;rw[M,N]
    .have ac:(x==y)=false:=by simpa using hxy
     have D:Hid (decide (A=B)=false):=eC (AM λh=>hxy (by have:=M.out;rw[h,N]at this;exact(dL.inj this).symm));clear hxy;go_wp2_with fail;go_quiet (fail);go_wp2_with fail;go_ret;exact⟨by rw[D];rfl,m+nq,by rw[World.drewN_drewN]⟩
   .obtain rfl:k=n:=zO;have D:Hid (decide (A=B)=true):=eC (uW (AR f (by rw[J];exact U)));go_wp2_with fail;go_ret;exact⟨by rw[D];rfl,m,rfl⟩
 .have aa:((A.length:Int)==(B.length:Int))=false:=zT;have ab:((A.length:Int) !=(B.length:Int))=true:=zT;have D:Hid (decide (A=B)=false):=eC (AM λh=>hl (by rw[h]));clear O R hl;go_enter func192,ntmps192;go_wp2_with fail;go_ret;exact⟨by rw[D];rfl,0,rfl⟩
theorem L5(f u:Option Addr)(ca cb:Nat)(A B:List (List Int))(w:aS)(R:gG w f A)(S:gG w u B)(hm:A.length<=aZ)(X:∀l∈A,l.length<=aZ):
  qK 194 #[aA f A.length ca,aA u B.length cb,aD (bC 192) #[] #[]] w λe w'=>e=aO (aG (decide (A=B)))/\∃m,w'=w.drewN m:=by
 unfold aZ at hm;change Hid _ at X;by_cases hl:A.length=B.length
 .obtain⟨n,J⟩:=eR A.length;have U:B.length=n:=zO;rw[J]at hm;rw[J,U];have HL:=eC hl;change Hid _ at J U;clear hl;have HA:=eC R;have HB:=eC S;clear R S;go_enter func194,ntmps194;go_wp2_with fail;go_loopw [17] (λi wr=>∃k m:Nat,k<=n/\i=qI k/\(∀j,j<k->A[j]?=B[j]?)/\wr=w.drewN m) (λi _=>n-(aW i).toNat)
  case atStart=>exact⟨0,0,zO,rfl,λj hj=>zO,rfl⟩
  case round=>
   obtain⟨k,m,hk,rfl,W,rfl⟩:=hrel;change Hid _ at W;by_cases hlt:k<n
   .obtain⟨x,M⟩:=fN (show k<A.length by rw[J];exact hlt);obtain⟨y,O⟩:=fN (show k<B.length by rw[U];exact hlt);obtain⟨b1,o1,p1,q1,rfl,c1,Y⟩:=HA.at M;obtain⟨b2,o2,p2,q2,rfl,c2,Z⟩:=HB.at O;have N:=eC (λn=>NP p1 p2 q1 q2 x y (w.drewN n) (Y.later (yL w n)) (Z.later (yL w n)) (X x (iG M)));change Hid _ at M O;clear Y Z;by_cases hxy:x=y
    .subst hxy;have hd:decide (x=x)=true:=uW rfl;rw[hd]at N;go_wp2_with fail;refine(N _).mono ?_;rintro e w4⟨rfl,m4,rfl⟩;go_wp2_with fail;go_roundw
     case rel=>
      refine⟨k+1,_,zO,by go_num,λj hj=>?_,rfl⟩;by_cases hjk:j<k
      .exact W j hjk
      .obtain rfl:j=k:=zO;rw[M,O]
     case measure=>simp[aW];omega
    .have hd:decide (x=y)=false:=BQ hxy;rw[hd]at N;have D:Hid (decide (A=B)=false):=eC (AM λh=>hxy (by have:=M.out;rw[h,O]at this;exact(dL.inj this).symm));clear hxy;go_wp2_with fail;refine(N _).mono ?_;rintro e w4⟨rfl,m4,rfl⟩;go_wp2_with fail;go_ret;exact⟨by rw[D];rfl,_,rfl⟩
   .obtain rfl:k=n:=zO;have D:Hid (decide (A=B)=true):=eC (uW (AR HL (by rw[J];exact W)));go_wp2_with fail;go_ret;exact⟨by rw[D];rfl,m,rfl⟩
 .have aa:((A.length:Int)==(B.length:Int))=false:=zT;have ab:((A.length:Int) !=(B.length:Int))=true:=zT;have D:Hid (decide (A=B)=false):=eC (AM λh=>hl (by rw[h]));clear R S hl;go_enter func194,ntmps194;go_wp2_with fail;go_ret;exact⟨by rw[D];rfl,0,rfl⟩
theorem aDC(J M:Option Addr)(N O:Nat)(A B:List (List Int))(w:aS)(R:gG w J A)(S:gG w M B)(hm:A.length<=aZ)(U:∀l∈A,l.length<=aZ):
  qK 140 #[aA J A.length N,aA M B.length O] w λe w'=>e=aO (aG (decide (A=B)))/\∃m,w'=w.drewN m:=by have D:=eC (L5 J M N O A B w R S hm U);clear R S hm U;generalize decide (A=B)=r at D|-;generalize A.length=n at D|-;generalize B.length=n' at D|-;go_enter func140,ntmps140;go_wp2_with fail;refine D.mono ?_;rintro e X⟨rfl,W,rfl⟩;go_wp2_with fail;go_ret;exact⟨rfl,W,rfl⟩
def vJ(L:List (List Int))(p:Int):Bool:=L.all λl=>decide ((l.length:Int)=p)
def pW(p:Int)(L:List (List Int))(f:Int):Nat:=if L.length<1\/20<L.length then 18 else if vJ L p=false then 18 else if f<1\/10000<f then 19 else 0
theorem aCI{p:Int}(h:∀(j:Nat) (l:List Int),L[j]?=some l->(l.length:Int)=p):vJ L p=true:=by unfold vJ;rw[IR];intro l e;obtain⟨j,d⟩:=List.mem_iff_getElem?.1 e;exact uW (h j l d)
theorem aG1{p:Int}(d:L[j]?=some l)(h:(l.length:Int)≠p):vJ L p=false:=by unfold vJ;rw[List.all_eq_false];exact⟨l,iG d,by simpa using h⟩
theorem nA(so:Bool)(e:Nat)(w:aS):qK 115 #[aG so,qI e] w λB w'=>B=aO (qI ((if so=true then 0 else e:Nat):Int))/\w=w':=by
 cases so
 .go_enter func115,ntmps115;go_wp2_with fail;go_ret;exact⟨rfl,rfl⟩
 .go_enter func115,ntmps115;go_wp2_with fail;go_ret;exact⟨rfl,rfl⟩
theorem YT(B:Option Addr)(n c P:Nat)(p:Int)(w:aS)(D:w.cell? (P,0)=some (qI p)):qK 112 #[aA B n c,qP P 0] w λe w'=>e=aO (aG (!((n:Int)==p)))/\w=w':=by go_enter func112,ntmps112;go_wp2_with fail;go_ret;exact⟨rfl,rfl⟩
theorem aAR(f:Option Addr)(c P:Nat)(p:Int)(L:List (List Int))(w:aS)(W:gG w f L)(X:qC w P 0 (qI p))(hm:L.length<=aZ):
  qK 182 #[aA f L.length c,aD (bC 112) #[] #[qP P 0]] w λe w'=>(∃k:Int,e=aO (qI k)/\decide (0<=k)=!(vJ L p))/\w=w':=by
 obtain⟨n,D⟩:=eR L.length;rw[D]at hm;rw[D];have R:=eC D;have y:=eC W;unfold aZ at hm;clear D W;go_enter func182,ntmps182;go_wp2_with fail;go_loopw [8] (λi wr=>∃k:Nat,k<=n/\i=qI k/\(∀j l,j<k->L[j]?=some l->(l.length:Int)=p)/\w=wr) (λi _=>n-(aW i).toNat)
 case atStart=>exact⟨0,zO,rfl,λj l hj=>zO,rfl⟩
 case round=>
  obtain⟨k,hk,rfl,Y,rfl⟩:=hrel;have S:=eC Y;clear Y;by_cases hlt:k<n
  .obtain⟨x,N⟩:=fN (show k<L.length by rw[R];exact hlt);obtain⟨b1,o1,Z,u,rfl,c1,i1⟩:=y.at N;have U:=eC N;clear N i1;obtain⟨m,hmx⟩:=eR x.length;rw[hmx]at c1;have O:=eC hmx;clear hmx;by_cases hp:(m:Int)=p
   .have M:((m:Int)==p)=true:=by simpa using hp
    have HP:=eC hp;clear hp;go_wp2_with fail;refine(YT Z m u P p _ X).mono ?_;rintro e w4⟨rfl,rfl⟩;rw[M];go_wp2_with fail;go_roundw
    case rel=>
     refine⟨k+1,zO,by go_num,λj l hj B=>?_,by first|rfl|trivial⟩;by_cases hjk:j<k
     .exact S j l hjk B
     .obtain rfl:j=k:=zO;rw[U]at B;cases B;rw[O];exact HP
    case measure=>simp[aW];omega
   .have M:((m:Int)==p)=false:=by simpa using hp
    have J:Hid (vJ L p=false):=eC (aG1 U (by rw[O];exact hp));clear hp;go_wp2_with fail;refine(YT Z m u P p _ X).mono ?_;rintro e w4⟨rfl,rfl⟩;rw[M];go_wp2_with fail;go_ret;exact⟨⟨k,rfl,by rw[J];simp⟩,rfl⟩
  .obtain rfl:k=n:=zO;have J:Hid (vJ L p=true):=eC (aCI λj l B=>S j l (by
    have:=(gX.1 B).1
    have h2:=R.out
    omega) B);go_wp2_with fail;go_ret;exact⟨⟨-1,rfl,by rw[J];rfl⟩,rfl⟩
theorem P6(D:Option Addr)(c P:Nat)(p:Int)(L:List (List Int))(w:aS)(J:gG w D L)(M:qC w P 0 (qI p))(hm:L.length<=aZ):
  qK 117 #[aA D L.length c,aD (bC 112) #[] #[qP P 0]] w λe w'=>e=aO (aG (!(vJ L p)))/\w=w':=by have B:=eC (aAR D c P p L w J M hm);clear J M hm;generalize vJ L p=r at B|-;generalize L.length=n at B|-;go_enter func117,ntmps117;go_wp2_with fail;refine B.mono ?_;rintro e O⟨⟨k,rfl,N⟩,rfl⟩;go_wp2_with fail;go_ret;exact⟨aIZ (by rw[<-N]),rfl⟩
theorem aDu(D:Option Addr)(n c T:Nat)(w:aS)(hT:qC w T 0 (aA D n c)):
  qK 114 #[qP T 0] w λe w'=>e=aO (qI ((if n<1\/20<n then 18 else 0:Nat):Int))/\w=w':=by
 by_cases h1:n<1
 .have d1:decide ((1:Int)<=n)=false:=zT;rw[eI (.inl h1)];clear h1;go_enter func114,ntmps114;go_wp2_with fail;refine(nA false 18 _).mono ?_;rintro e B⟨rfl,rfl⟩;go_wp2_with fail;go_ret;exact⟨rfl,rfl⟩
 .have d1:decide ((1:Int)<=n)=true:=zT;by_cases h2:20<n
  .have d2:decide ((n:Int)<=20)=false:=zT;rw[eI (.inr h2)];clear h1 h2;go_enter func114,ntmps114;go_wp2_with fail;refine(nA false 18 _).mono ?_;rintro e B⟨rfl,rfl⟩;go_wp2_with fail;go_ret;exact⟨rfl,rfl⟩
  .have d2:decide ((n:Int)<=20)=true:=zT;rw[eE (show¬(n<1\/20<n)from zO)];clear h1 h2;go_enter func114,ntmps114;go_wp2_with fail;refine(nA true 18 _).mono ?_;rintro e B⟨rfl,rfl⟩;go_wp2_with fail;go_ret;exact⟨rfl,rfl⟩
theorem aEH(D:Option Addr)(c T F P:Nat)(p:Int)(L:List (List Int))(w:aS)(hT:qC w T 0 (aA D L.length c))(hF:qC w F 0 (aD (bC 112) #[] #[qP P 0]))(J:gG w D L)(M:qC w P 0 (qI p))(hm:L.length<=aZ):
  qK 116 #[qP T 0,qP F 0] w λe w'=>e=aO (qI ((if vJ L p=false then 18 else 0:Nat):Int))/\w=w':=by
 have B:=eC (P6 D c P p L w J M hm);clear J M hm;generalize vJ L p=r at B|-;generalize L.length=n at B hT|-;cases r
 .go_enter func116,ntmps116;go_wp2_with fail;refine B.mono ?_;rintro e O⟨rfl,rfl⟩;go_wp2_with fail;refine(nA false 18 _).mono ?_;rintro e N⟨rfl,rfl⟩;go_wp2_with fail;go_ret;exact⟨rfl,rfl⟩
 .go_enter func116,ntmps116;go_wp2_with fail;refine B.mono ?_;rintro e O⟨rfl,rfl⟩;go_wp2_with fail;refine(nA true 18 _).mono ?_;rintro e N⟨rfl,rfl⟩;go_wp2_with fail;go_ret;exact⟨rfl,rfl⟩
theorem aDF(U:Nat)(f:Int)(w:aS)(D:qC w U 0 (qI f)):
  qK 118 #[qP U 0] w λe w'=>e=aO (qI ((if f<1\/10000<f then 19 else 0:Nat):Int))/\w=w':=by
 by_cases h1:f<1
 .have d1:decide ((1:Int)<=f)=false:=zT;rw[eI (.inl h1)];clear h1;go_enter func118,ntmps118;go_wp2_with fail;refine(nA false 19 _).mono ?_;rintro e B⟨rfl,rfl⟩;go_wp2_with fail;go_ret;exact⟨rfl,rfl⟩
 .have d1:decide ((1:Int)<=f)=true:=zT;by_cases h2:10000<f
  .have d2:decide (f<=10000)=false:=zT;rw[eI (.inr h2)];clear h1 h2;go_enter func118,ntmps118;go_wp2_with fail;refine(nA false 19 _).mono ?_;rintro e B⟨rfl,rfl⟩;go_wp2_with fail;go_ret;exact⟨rfl,rfl⟩
  .have d2:decide (f<=10000)=true:=zT;rw[eE (show¬(f<1\/10000<f)from zO)];clear h1 h2;go_enter func118,ntmps118;go_wp2_with fail;refine(nA true 19 _).mono ?_;rintro e B⟨rfl,rfl⟩;go_wp2_with fail;go_ret;exact⟨rfl,rfl⟩
def aE3(w:aS)(g T F U:Nat):Prop:=w.heap[g]?=some (aK #[aD (bC 114) #[] #[aE (some ⟨T,0,none⟩)],aD (bC 116) #[] #[aE (some ⟨T,0,none⟩),aE (some ⟨F,0,none⟩)],aD (bC 118) #[] #[aE (some ⟨U,0,none⟩)]] 156 (0,0))
theorem aE3.cells{w:aS}{T F U:Nat}(h:aE3 w g T F U):w.cell? (g,0)=some (aD (bC 114) #[] #[qP T 0])/\w.cell? (g,1)=some (aD (bC 116) #[] #[qP T 0,qP F 0])/\w.cell? (g,2)=some (aD (bC 118) #[] #[qP U 0]):=by unfold aE3 at h;refine⟨?_,?_,?_⟩<;>(unfold bH;rw[h];rfl)
theorem aB1(W:Option Addr)(c T F P U g:Nat)(p f:Int)(L:List (List Int))(w:aS)(x:aE3 w g T F U)(hT:qC w T 0 (aA W L.length c))(hF:qC w F 0 (aD (bC 112) #[] #[qP P 0]))(u:qC w U 0 (qI f))(Z:gG w W L)(j:qC w P 0 (qI p))(hm:L.length<=aZ):
  qK 113 #[aA (some (g,0)) 3 3] w λe w'=>e=aO (qI (pW p L f:Nat))/\w=w':=by
 obtain⟨f0,f1,f2⟩:=x.cells;have O:=eC (aDu W L.length c T w hT);have X:=eC (aEH W c T F P p L w hT hF Z j hm);have S:=eC (aDF U f w u);have D:Hid ((L.length<1\/20<L.length->pW p L f=18)/\(¬(L.length<1\/20<L.length)->vJ L p=false->pW p L f=18)/\(¬(L.length<1\/20<L.length)->vJ L p=true->(f<1\/10000<f)->pW p L f=19)/\(¬(L.length<1\/20<L.length)->vJ L p=true->¬(f<1\/10000<f)->pW p L f=0)):=eC (by
  unfold pW
  refine⟨λh=>by rw[eI h],λh B=>by rw[eE h,eI B],λh B N=>by rw[eE h,B,eE zD,eI N],λh B N=>by rw[eE h,B,eE zD,eE N]⟩);clear x hT hF u Z j hm;generalize pW p L f=V at D|-;generalize L.length=n at O D;generalize vJ L p=r at X D;go_enter func113,ntmps113;go_wp2_with fail;go_loopw [8] (λi wr=>∃k:Nat,k<=3/\i=qI k/\w=wr/\(1<=k->¬(n<1\/20<n))/\(2<=k->r=true)/\(3<=k->¬(f<1\/10000<f))) (λi _=>3-(aW i).toNat)
 case atStart=>exact⟨0,zO,rfl,rfl,λh=>zO,λh=>zO,λh=>zO⟩
 case round=>
  obtain⟨k,y,rfl,rfl,M,B,N⟩:=hrel;change Hid _ at M B N;rcases(show k=0\/k=1\/k=2\/k=3 from zO)with rfl|rfl|rfl|rfl
  .by_cases hc:n<1\/20<n
   .rw[eI hc]at O;have J:=eC (D.1 hc);clear hc;go_wp2_with fail;refine O.mono ?_;rintro e R⟨rfl,rfl⟩;go_wp2_with fail;go_ret;exact⟨by rw[J];rfl,rfl⟩
   .rw[eE hc]at O;have Y:=eC hc;clear hc;go_wp2_with fail;refine O.mono ?_;rintro e R⟨rfl,rfl⟩;go_wp2_with fail;go_roundw
    case rel=>exact⟨1,zO,by go_num,by first|rfl|trivial,λ_=>Y,λh=>zO,λh=>zO⟩
    case measure=>simp[aW]
  .cases r
   .have J:=eC (D.2.1 (M zO) rfl);go_wp2_with fail;refine X.mono ?_;rintro e R⟨rfl,rfl⟩;go_wp2_with fail;go_ret;exact⟨by rw[J];rfl,rfl⟩
   .go_wp2_with fail;refine X.mono ?_;rintro e R⟨rfl,rfl⟩;go_wp2_with fail;go_roundw
    case rel=>exact⟨2,zO,by go_num,by first|rfl|trivial,λ_=>M zO,λ_=>by first|rfl|trivial,λh=>zO⟩
    case measure=>simp[aW]
  .by_cases hc:f<1\/10000<f
   .rw[eI hc]at S;have J:=eC (D.2.2.1 (M zO) (B zO) hc);clear hc;go_wp2_with fail;refine S.mono ?_;rintro e R⟨rfl,rfl⟩;go_wp2_with fail;go_ret;exact⟨by rw[J];rfl,rfl⟩
   .rw[eE hc]at S;have Y:=eC hc;clear hc;go_wp2_with fail;refine S.mono ?_;rintro e R⟨rfl,rfl⟩;go_wp2_with fail;go_roundw
    case rel=>exact⟨3,zO,by go_num,by first|rfl|trivial,λ_=>M zO,λ_=>B zO,λ_=>Y⟩
    case measure=>simp[aW]
  .have J:=eC (D.2.2.2 (M zO) (B zO) (N zO));go_wp2_with fail;go_ret;exact⟨by rw[J];rfl,rfl⟩
theorem aGL{w:aS}{T:aX}(h:w.heap[g]?=some (aK #[v] T (0,0))):w.cell? (g,0)=some v:=by unfold bH;rw[h];rfl
theorem sI(p:Int)(B:Option Addr)(c:Nat)(L:List (List Int))(f:Int)(w:aS)(y:gG w B L)(hm:L.length<=aZ):
  qK 43 #[qI p,aA B L.length c,qI f] w (Rt (qI (pW p L f:Nat)) w):=by
 have ab:=IZ;obtain⟨n,O⟩:=eR L.length;have HL:=eC y;have HM:=eC hm;have HN:=eC O;rw[O];clear y hm O;obtain⟨Z,j,u,x,N⟩:=aGC w (aK #[qI p] 3) (aK #[aA B n c] 26) (aK #[qI f] 3) (aK #[aD (bC 112) #[] #[qP w 0]] 178);have M:=fG ((((w.alloc (aK #[qI p] 3)).alloc (aK #[aA B n c] 26)).alloc (aK #[qI f] 3)).alloc (aK #[aD (bC 112) #[] #[qP w 0]] 178)) (aK #[aD (bC 114) #[] #[qP ((w:Nat)+1) 0],aD (bC 116) #[] #[qP ((w:Nat)+1) 0,qP ((w:Nat)+1+1+1) 0],aD (bC 118) #[] #[qP ((w:Nat)+1+1) 0]] 156);have D:((((w.alloc (aK #[qI p] 3)).alloc (aK #[aA B n c] 26)).alloc (aK #[qI f] 3)).alloc (aK #[aD (bC 112) #[] #[qP w 0]] 178)).heap.size=w+1+1+1+1:=by simp
 rw[D]at M;have k0:=(iI ((((w.alloc (aK #[qI p] 3)).alloc (aK #[aA B n c] 26)).alloc (aK #[qI f] 3)).alloc (aK #[aD (bC 112) #[] #[qP w 0]] 178)) (aK #[aD (bC 114) #[] #[qP ((w:Nat)+1) 0],aD (bC 116) #[] #[qP ((w:Nat)+1) 0,qP ((w:Nat)+1+1+1) 0],aD (bC 118) #[] #[qP ((w:Nat)+1+1) 0]] 156) w (by rw[D];omega)).trans Z;have k1:=(iI ((((w.alloc (aK #[qI p] 3)).alloc (aK #[aA B n c] 26)).alloc (aK #[qI f] 3)).alloc (aK #[aD (bC 112) #[] #[qP w 0]] 178)) (aK #[aD (bC 114) #[] #[qP ((w:Nat)+1) 0],aD (bC 116) #[] #[qP ((w:Nat)+1) 0,qP ((w:Nat)+1+1+1) 0],aD (bC 118) #[] #[qP ((w:Nat)+1+1) 0]] 156) ((w:Nat)+1) (by rw[D];omega)).trans j;have k2:=(iI ((((w.alloc (aK #[qI p] 3)).alloc (aK #[aA B n c] 26)).alloc (aK #[qI f] 3)).alloc (aK #[aD (bC 112) #[] #[qP w 0]] 178)) (aK #[aD (bC 114) #[] #[qP ((w:Nat)+1) 0],aD (bC 116) #[] #[qP ((w:Nat)+1) 0,qP ((w:Nat)+1+1+1) 0],aD (bC 118) #[] #[qP ((w:Nat)+1+1) 0]] 156) ((w:Nat)+1+1) (by rw[D];omega)).trans u;have k3:=(iI ((((w.alloc (aK #[qI p] 3)).alloc (aK #[aA B n c] 26)).alloc (aK #[qI f] 3)).alloc (aK #[aD (bC 112) #[] #[qP w 0]] 178)) (aK #[aD (bC 114) #[] #[qP ((w:Nat)+1) 0],aD (bC 116) #[] #[qP ((w:Nat)+1) 0,qP ((w:Nat)+1+1+1) 0],aD (bC 118) #[] #[qP ((w:Nat)+1+1) 0]] 156) ((w:Nat)+1+1+1) (by rw[D];omega)).trans x;have kb:=N.alloc N.size (aK #[aD (bC 114) #[] #[qP ((w:Nat)+1) 0],aD (bC 116) #[] #[qP ((w:Nat)+1) 0,qP ((w:Nat)+1+1+1) 0],aD (bC 118) #[] #[qP ((w:Nat)+1+1) 0]] 156);have K0:=eC (aGL k0);have S:=eC (aGL k1);have U:=eC (aGL k2);have X:=eC (aGL k3);have Y:=eC (show aE3 _ _ _ _ _ from M);have J:=eC kb;clear Z j u x M N D k0 k1 k2 k3 kb;go_enter func43,ntmps43;go_wp2_with fail;generalize((((w.alloc (aK #[qI p] 3)).alloc (aK #[aA B n c] 26)).alloc (aK #[qI f] 3)).alloc (aK #[aD (bC 112) #[] #[qP w 0]] 178)).alloc (aK #[aD (bC 114) #[] #[qP ((w:Nat)+1) 0],aD (bC 116) #[] #[qP ((w:Nat)+1) 0,qP ((w:Nat)+1+1+1) 0],aD (bC 118) #[] #[qP ((w:Nat)+1+1) 0]] 156)=W at K0 S U X Y J|-;have R:=aB1 B c _ _ _ _ _ p f L W Y (by rw[HN];exact S) X U (HL.later J) K0 HM;have aa:=eC R;clear R;refine aa.mono ?_;rintro e w4⟨rfl,rfl⟩;go_wp2_with fail;go_ret;exact⟨rfl,J⟩
def gI:List Int->List UInt8
 |[]=>[]
 |x::l=>eK (iT x)++gI l
theorem FO(a b:List Int):gI (a++b)=gI a++gI b:=by
 induction a with
 |nil=>rfl
 |cons x a ih=>rw[rO,gI,ih,gI,jH]
theorem IQ(a:List Int)(x:Int):gI (a++[x])=gI a++eK (iT x):=by rw[FO,gI,gI,EL]
theorem OB(l:List Int)(h:∀x∈l,rH x):(gI l).length<=10*l.length:=by
 induction l with
 |nil=>exact eX _
 |cons x l ih=>rw[gI,iR,iW];have e:=ih λy d=>h y (BP _ d);have f:=eU (lW (h x (DZ ..)));omega
def BD(L:List (List Int)):List Int:=L.headD []
def GF(L:List (List Int))(f:Int):List UInt8:=[]++eK f.toNat++eK L.length++eK (BD L).length
def fP(L:List (List Int))(f:Int):List UInt8:=GF L f++gI L.flatten
def tE(L:List (List Int))(f:Int):Nat:=if L=[]\/12<(BD L).length then 18 else pW (BD L).length L f
def BJ(L:List (List Int))(f:Int):ByteArray:=if tE L f=0 then eH (fP L f)else⟨#[]⟩
theorem IE{p:Int}(h:pW p L f=0):1<=L.length/\L.length<=20/\(∀l∈L,(l.length:Int)=p)/\1<=f/\f<=10000:=by
 unfold pW at h;split at h
 .cases h
 .split at h
  .cases h
  .split at h
   .cases h
   .rename_i i e j;refine⟨zO,zO,λl g=>?_,zO,zO⟩;have d:vJ L p=true:=by cases hb:vJ L p;exact absurd hb e;rfl
    unfold vJ at d;rw[IR]at d;exact of_decide_eq_true (d l g)
theorem aHW(h:tE L f=0):L≠[]/\(BD L).length<=12/\L.length<=20/\(∀l∈L,l.length=(BD L).length)/\1<=f/\f<=10000:=by
 unfold tE at h;split at h
 .cases h
 .rename_i g;obtain⟨a,b,c,d,e⟩:=IE h;exact⟨λh=>g (.inl h),by have:=λh=>g (.inr h);omega,b,λl i=>by have:=c l i;omega,d,e⟩
theorem QZ(L:List (List Int))(m:Nat)(h:∀l∈L,l.length<=m):L.flatten.length<=L.length*m:=by
 induction L with
 |nil=>simp
 |cons l L ih=>rw[L3,iR,iW];have e:=ih λx d=>h x (BP _ d);have f:=h l (DZ ..);rw[Nat.add_mul];omega
theorem gW{α:Type}{l:List α}{x:α}(h:l[j]?=some x):l.take (j+1)=l.take j++[x]:=by obtain⟨aa,he⟩:=gX.1 h;rw[TN aa,he]
theorem PK(pa:Option Addr)(c:Nat)(L:List (List Int))(f:Int)(w:aS)(hL:gG w pa L)(hI:∀l∈L,∀x∈l,rH x)(hE:tE L f=0):
  qK 14 #[aA pa L.length c,qI f] w (Rt (aF #[aB (eH (fP L f)),qI 0]) w):=by
 obtain⟨R,g2,g3,g4,g5,g6⟩:=aHW hE;obtain⟨l0,h0⟩:∃l,L[0]?=some l:=fN (eA.2 R);have Y:BD L=l0:=by
  cases L with
  |nil=>exact absurd rfl R
  |cons a b=>simpa[BD]using h0
 obtain⟨M,o0,p0,q0,bc,c0,i0⟩:=hL.at h0;have az:=oF w _ c0;obtain⟨n,u⟩:=eR L.length;obtain⟨J,S⟩:∃m,l0.length=m:=⟨_,rfl⟩;obtain⟨fn,am⟩:=qJ (show 0<=f from zO);have hm:L.length<=aZ:=by unfold aZ;omega
 have bq:J<=12:=by rw[Y,S]at g2;exact g2
 have CK:=eC (λW h=>sI J pa c L f W h hm);have ba:pW J L f=0:=by have:=hE;unfold tE at this;rw[eE (by rw[Y,S];intro h;obtain h|h:=h;exact R h;omega),Y,S]at this;exact this
 rw[ba,u]at CK;have aa:Hid (GF L f=[]++eK fn++eK n++eK J):=eC (by unfold GF;rw[Y,S,u,am];rfl);have ag:Hid (∀k l j,L[k]?=some l->(GF L f++gI (L.take k).flatten++gI (l.take j)).length<=100000):=eC (by
  intro k l j hk
  have a1:(GF L f).length<=30:=by
   rw[aa]
   simp only[iR,rP]
   have u1:=eU (show jG fn by unfold jG;omega)
   have u2:=eU (show jG n by unfold jG;omega)
   have u3:=eU (show jG J by unfold jG;omega)
   omega
  have a2:(gI (L.take k).flatten).length<=10*(L.take k).flatten.length:=OB _ λx O=>by
   obtain⟨q,hq,bj⟩:=List.mem_flatten.1 O
   exact hI q (bW hq) x bj
  have a3:=QZ (L.take k) 12 λq hq=>by have:=g4 q (bW hq);omega
  have a4:(L.take k).length<=20:=by rw[jR];omega
  have Z:=iG hk
  have a5:(gI (l.take j)).length<=10*(l.take j).length:=OB _ λx O=>hI l Z x (bW O)
  have a6:(l.take j).length<=12:=by rw[jR];have:=g4 l Z;omega
  simp only[iR]
  have a7:(L.take k).flatten.length<=20*12:=fA a3 (Nat.mul_le_mul_right 12 a4)
  omega);have HI:=eC hI;have HL:=eC hL;have HN:=eC u;have bz:bK.wrap (fn:Int)=(fn:Int):=by rw[sU];omega
 have bA:bK.wrap (n:Int)=(n:Int):=by rw[sU];omega
 have ap:bK.wrap (J:Int)=(J:Int):=by rw[sU];omega
 have bp:fn<=10000:=zO;have bu:n<=20:=zO;have n0:((n:Int)==0)=false:=by have:=eA.2 R;simp;omega
 have d12:decide ((12:Int)<J)=false:=zT;have bs:(0:Int)<n:=by have:=eA.2 R;omega
 have bt:0<n:=zO;rw[u];rw[S,yZ]at c0;subst bc;rw[show fP L f=GF L f++gI L.flatten from rfl];have HR:Hid (∀l∈L,l.length<=12):=eC (λl Z=>by have:=g4 l Z;omega);generalize GF L f=hd at aa ag|-;rw[am]at CK|-;have al:M<w:=az;go_enter func14,ntmps14;go_wp2_with fail;refine(CK _ HL).mono ?_;rintro e D⟨rfl,X⟩;have c1:qC D M o0 (aA p0 J q0):=(X.cell (p:=(M,o0)) al).trans c0;have aq:=eC (HL.later X);have af:=eC X;have bl:M<D:=gV al X.size;have l0:=rU c1;have aL:=iL D D;have bL:D=(D:Nat):=rfl;obtain⟨N,hN⟩:=eR (D:Nat);rw[hN]at l0 aL;go_wp2_with fail;go_region_held3(λw'=>aV N D w') (first|(with_reducible assumption)|go_grown)
  (first|(go_at_call 39;refine(pJ _).mono ?_;rintro e w2⟨rfl,rfl⟩;obtain⟨ai,bv⟩:=fY.fresh D _ hN)|(go_at_call 44;(with_reducible refine(lS _ _ _ _ fn _ ai (by unfold jG;omega) zS).mono ?_);rintro e w3 ap;obtain⟨rfl,bn,bw,v3,aj⟩:=gM (by first|(with_reducible assumption)|go_grown) zA ai ap)|(go_at_call 44;(with_reducible refine(lS _ _ _ _ n _ aj (by unfold jG;omega) (by have:=eU (show jG fn by unfold jG;omega);simp;omega)).mono ?_);rintro e w4 bg;obtain⟨rfl,bo,bx,v4,ak⟩:=gM (by first|(with_reducible assumption)|go_grown) zA aj bg)|(go_at_call 44;(with_reducible refine(lS _ _ _ _ J _ ak (by unfold jG;omega) (by have h1:=eU (show jG fn by unfold jG;omega);have h2:=eU (show jG n by unfold jG;omega);simp;omega)).mono ?_);rintro e w5 bh;obtain⟨rfl,a0,be,v5,ax⟩:=gM (by first|(with_reducible assumption)|go_grown) zA ak bh));have W5:=eC (show fY w5 N N v5 hd by rw[aa];exact ax);go_wp2_with fail;go_loopw [48] (λi wr=>∃k:Nat,k<=n/\i=qI k/\(∃v,fY wr N N v (hd++gI (L.take k).flatten))/\aV N D wr/\N<=wr) (λi _=>n-(aW i).toNat)
 case atStart=>exact⟨0,zO,rfl,⟨v5,by simpa[gI]using W5.out⟩,a0,be⟩
 case round=>
  obtain⟨k,hk,rfl,⟨v,av⟩,ac,bd⟩:=hrel;have HW:=eC av;by_cases hlt:k<n
  .obtain⟨x,O⟩:=fN (show k<L.length by rw[HN];exact hlt);obtain⟨b1,o1,p1,q1,hp,c1,i1⟩:=aq.at O;simp only[BU,Addr.mk.injEq,and_true]at hp;obtain⟨rfl,rfl⟩:=hp;have c2:qC wr M (o0+k) (aA p1 x.length q1):=(ac.cell (p:=(M,o0+k)) (by show M<N;omega)).trans c1;have HX:=eC O;have I1:=eC i1;obtain⟨m,hmx⟩:=eR x.length;rw[hmx]at c2;have ah:=eC hmx;have br:m<=12:=by rw[<-hmx];exact HR x (iG O)
   go_wp2_with fail;generalize wr=wo at*;go_loopw [54] (λi wq=>∃j:Nat,j<=m/\i=qI j/\(∃v,fY wq N N v (hd++gI (L.take k).flatten++gI (x.take j)))/\aV N D wq/\N<=wq) (λi _=>m-(aW i).toNat)
   case atStart=>exact⟨0,zO,rfl,⟨v,by simpa[gI]using HW.out⟩,ac,bd⟩
   case round=>
    obtain⟨j,hj,rfl,⟨v',aw⟩,ae,ao⟩:=hrel;have ab:=eC aw;by_cases hjl:j<m
    .obtain⟨y,hy⟩:=fN (show j<x.length by rw[ah];exact hjl);obtain⟨U,o3,rfl,c3⟩:=I1.at hy;have bm:U<D:=oF D _ c3;have c4:qC wr U (o3+j) (qI y):=(ae.cell (p:=(U,o3+j)) (by show U<N;omega)).trans c3;have bk:rH y:=HI x (iG HX) y (iG hy);have HY:=eC hy;have CI:=eC (yP N N v' _ y wr ab bk (fA (ag k x j HX) zD));go_wp2_with fail;refine CI.mono ?_;rintro e w6 bi;obtain⟨rfl,a8,bf,v6,ay⟩:=gM ae ao ab bi;have ar:=eC ay;go_wp2_with fail;go_roundw
     case rel=>exact⟨j+1,zO,by go_num,⟨v6,by rw[gW HY,IQ,<-jH];exact ar⟩,a8,bf⟩
     case measure=>simp[aW];omega
    .obtain rfl:j=m:=zO;have au:Hid (fY wr N N v' (hd++gI (L.take (k+1)).flatten)):=eC (by
      have h:=ab.out
      rw[nH (l:=x) (uU ah)]at h
      rw[gW HX,List.flatten_append,FO,<-jH]
      simpa using h);go_wp2_with fail;exact⟨⟨k+1,zO,by go_num,⟨v',au⟩,ae,ao⟩,by simp[aW];omega⟩
  .obtain rfl:k=n:=zO;have HE:=eC (nH (l:=L) (uU HN));rw[HE]at HW;have CB:=eC (mE N N v _ wr HW);have bb:=af.trans (Below.mono (B:=N) ac (by rw[<-hN];exact af.size));go_wp2_with fail;refine CB.mono ?_;rintro e w6⟨rfl,rfl⟩;go_wp2_with fail;go_ret2;exact⟨rfl,bb⟩
theorem aC2(x:Option Addr)(c:Nat)(L:List (List Int))(f:Int)(w:aS)(O:gG w x L)(hm:L.length<=aZ)(Z:∀l∈L,l.length<=aZ)(N:tE L f≠0):
  qK 14 #[aA x L.length c,qI f] w (Rt (aF #[aB ⟨#[]⟩,qI (tE L f:Nat)]) w):=by
 by_cases h0:L=[]
 .subst h0;have B:tE [] f=18:=by unfold tE;rw[eI (.inl rfl)]
  rw[B];clear N B O;go_enter func14,ntmps14;go_wp2_with fail;go_ret2;exact⟨rfl,iL _ _⟩
 .obtain⟨D,R⟩:∃l,L[0]?=some l:=fN (eA.2 h0);have X:BD L=D:=by
   cases L with
   |nil=>exact absurd rfl h0
   |cons a b=>simpa[BD]using R
  obtain⟨y,o0,p0,q0,rfl,U,i0⟩:=O.at R;have J:=eC (λW h=>sI (D.length:Nat) (some (y,o0)) c L f W h hm);have B:tE L f=if 12<D.length then 18 else pW (D.length:Nat) L f:=by
   unfold tE;rw[X];by_cases h:12<D.length
   .rw[eI (.inr h),eI h]
   .rw[eE (by intro M;obtain M|M:=M;exact h0 M;exact h M),eE h]
  have j:=Z D (iG R);obtain⟨n,u⟩:=eR L.length;have ac:0<n:=by have:=eA.2 h0;omega
  obtain⟨S,Y⟩:∃m,D.length=m:=⟨_,rfl⟩;rw[Y]at B j J U;rw[u]at hm J|-;rw[yZ]at U;unfold aZ at hm j;have n0:((n:Int)==0)=false:=zT;have ab:(0:Int)<n:=zO;change Hid _ at O;clear Z h0 R X i0 u Y;by_cases h12:12<S
  .have d12:decide ((12:Int)<S)=true:=zT;rw[B,eI h12];clear N B h12;go_enter func14,ntmps14;go_wp2_with fail;go_ret2;exact⟨rfl,iL _ _⟩
  .have d12:decide ((12:Int)<S)=false:=zT;rw[eE h12]at B;rw[<-B]at J;clear B h12;generalize tE L f=E at J N|-;have dE:((E:Int)==0)=false:=zT;clear N;go_enter func14,ntmps14;go_wp2_with fail;refine(J _ O).mono ?_;rintro e w1⟨rfl,aa⟩;go_wp2_with fail;go_ret2;exact⟨rfl,aa⟩
theorem aDa(d:Option Addr)(c:Nat)(L:List (List Int))(f:Int)(w:aS)(e:gG w d L)(hm:L.length<=aZ)(i:∀l∈L,l.length<=aZ)(g:∀l∈L,∀x∈l,rH x):
  qK 14 #[aA d L.length c,qI f] w (Rt (aF #[aB (BJ L f),qI (tE L f:Nat)]) w):=by
 unfold BJ;by_cases h:tE L f=0
 .rw[eI h,h];exact PK d c L f w e g h
 .rw[eE h];exact aC2 d c L f w e hm i h
theorem IY{O:List Oper}{D:Act}(Z:o.guard=none)(S E:aX)(i:TypeInfo)(z:aT)(M:Nat)(hu:prog.underlying S=some (.slice E))(f:prog.info? E=some i)(hz:i.zero=some z)(J:i.size=1)(R:i.bytes=M)(U:z.cells.size=1)(X:M<=48)(s x:Operand)
  (y:o.op=.call {callee:=.builtin .append,args:=#[s,x],argTypes:=#[S,S]})(n:Nat)(v:aT)(B:List aT)(hs:D.eval s=v)(ac:W.ownsRow n E 1 v B.length B)
  (u:aT)(aa:u.oneCell'=true)(hx:D.eval x=aA (some (W,0)) 1 1)(hn:n<=W)(af:B.length<=100000)
  (h:∀N w',w'.ownsRow n E 1 N (B++[u]).length (B++[u])->(W.alloc (aK #[u] E)).grownBy w' v.ownBlock->nF W v N->wpList prog ops Q O (D.put o.dst N) w'):
  wpList prog ops Q (o::O) D (W.alloc (aK #[u] E)):=by
 refine wpList_append_lies _ Z s x S y n E i z 1 M hu f hz J R U zD v B.length B hs (World.ownsRow.alloc ac _) (W,0) 1 1 [u] hx rfl (cell_one_new _ _ _) (by intro q hq;simp at hq;subst hq;exact aa) zD (by unfold aZ;omega) (fA (Nat.mul_le_mul_left _ X) zO) zT ((W:Nat)+1) zS (λg ae w' ab Y j _=>h _ w' ?_ Y ?_)
 .simpa using ab
 .obtain J|J:=j
  .exact .inl (by rw[J];rfl)
  .exact .inr ⟨g,rfl,zO⟩
theorem aJu:(prog.info? 3).map (λi=>(i.zero.map (λz=>z.cells.size),i.size,i.bytes))=some (some 1,1,8):=zK
theorem aJE:(prog.info? 22).map (λi=>(i.zero.map (λz=>z.cells.size),i.size,i.bytes))=some (some 1,1,24):=zK
theorem YU{E:aX}(h:(prog.info? E).map (λi=>(i.zero.map (λz=>z.cells.size),i.size,i.bytes))=some (some 1,1,b)):∃(i:TypeInfo)(z:aT),prog.info? E=some i/\i.zero=some z/\i.size=1/\i.bytes=b/\z.cells.size=1:=by
 cases h':prog.info? E with
 |none=>rw[h']at h;simp at h
 |some i=>
  rw[h']at h;simp only[cI,BU,Prod.mk.injEq]at h;obtain⟨d,e,f⟩:=h;cases hz:i.zero with
  |none=>rw[hz]at d;simp at d
  |some z=>rw[hz]at d;exact⟨i,z,rfl,hz,e,f,by simpa using d⟩
def oM(s:ByteArray)(a d:Nat):Nat->Nat×Nat
 |0=>(a,d)
 |k+1=>(uF (oM s a d k).1 (oM s a d k).2 (gT s (oM s a d k).1) (gE s (oM s a d k).1),xM (oM s a d k).2 (gE s (oM s a d k).1))
def vI(s:ByteArray)(a d k:Nat):Int:=tk (oM s a d k).2 (gE s (oM s a d k).1) (zN s (oM s a d k).1) 0
def tN(s:ByteArray)(a d n:Nat):List Int:=(dH n).map (vI s a d)
theorem VI(s:ByteArray)(a d n:Nat):tN s a d (n+1)=tN s a d n++[vI s a d n]:=by unfold tN;rw[List.range_succ,DO];rfl
theorem N8(s:ByteArray)(a d n:Nat):(tN s a d n).length=n:=by unfold tN;simp
theorem QO(h:a<=s.size)(k:Nat):(oM s a d k).1<=s.size:=by
 induction k with
 |zero=>exact h
 |succ k ih=>obtain⟨_,e,f,_⟩:=A0 s _ ih;exact(XK ih ⟨e,f⟩).2
theorem MR(s:ByteArray)(a d m k:Nat):oM s (oM s a d m).1 (oM s a d m).2 k=oM s a d (m+k):=by
 induction k with
 |zero=>rfl
 |succ k ih=>rw[oM,ih,<-Nat.add_assoc,oM]
def aJi(x:Int):aT:=aC aP x
abbrev X7(w:aS)(n:Nat)(v:aT)(l:List Int):Prop:=w.ownsRow n 3 1 v (l.map aJi).length (l.map aJi)
theorem aEx{w:aS}{E:aX}{d:List aT}(h:w.ownsRow n E 1 v m d)(e:∀k,v.ownBlock=some k->w'.heap[k]?=w.heap[k]?):w'.ownsRow n E 1 v m d:=by
 refine⟨h.1,?_⟩;obtain hn|⟨g,cap,cur,rfl,hg,hgg,rest⟩:=h.2
 .exact .inl hn
 .exact .inr ⟨g,cap,cur,rfl,hg,by rw[e g rfl];exact hgg,rest⟩
theorem UI(r:Nat)(s:ByteArray)(a B D:Nat)(w:aS)(h:eV w r s a B)(hs:s.size<=aZ)(ha:a<=s.size)(hc:D<=10000):
  qK 128 #[qI D,aD (bC 109) #[qP r 0] #[]] w λe w'=>(∃v,e=aO v/\X7 w' w v (tN s a B D))/\eV w' r s (oM s a B D).1 (oM s a B D).2/\eN r w w':=by
 have u:=eC h;have aj:=h.lt;obtain⟨i0,z0,hi,hz,k1,k2,k3⟩:=YU aJu;change Hid _ at hi hz k1 k2 k3;clear h;go_enter func128,ntmps128;go_wp2_with fail;go_loopw [5,7] (λv i wr=>∃k:Nat,k<=D/\i=qI k/\X7 wr w v (tN s a B k)/\eV wr r s (oM s a B k).1 (oM s a B k).2/\eN r w wr) (λ_ i _=>D-(aW i).toNat)
 case atStart=>exact⟨0,zO,rfl,dY _ _ _ _,u,eN.refl _ _⟩
 case round=>
  obtain⟨k,hk,rfl,S,Z,X⟩:=hrel;change Hid _ at S Z X;clear u;by_cases hlt:k<D
  .have N:=eC (λW h=>TJ r s (oM s a B k).1 (oM s a B k).2 W h hs (QO ha k));have U:=eC (show oM s a B (k+1)=(uF (oM s a B k).1 (oM s a B k).2 (gT s (oM s a B k).1) (gE s (oM s a B k).1),xM (oM s a B k).2 (gE s (oM s a B k).1))from rfl);have y:=eC (show vI s a B k=tk (oM s a B k).2 (gE s (oM s a B k).1) (zN s (oM s a B k).1) 0 from rfl);generalize uF (oM s a B k).1 (oM s a B k).2 (gT s (oM s a B k).1) (gE s (oM s a B k).1)=A2 at N U;generalize xM (oM s a B k).2 (gE s (oM s a B k).1)=R2 at N U;generalize tk (oM s a B k).2 (gE s (oM s a B k).1) (zN s (oM s a B k).1) 0=x at N y;go_wp2_with fail;refine(N _ Z).mono ?_;rintro e R⟨rfl,f,Y⟩;have O:∀q,bY u5=some q->(w:Nat)<=q/\q<(wr:Nat):=BK S;have aa:X7 R w u5 (tN s a B k):=aEx S λq hq=>Y.block q (O q hq).2 (by have:=(O q hq).1;omega);have J:=X.trans Y;have ag:w<=(R:Nat):=J.size;have ai:(tN s a B k).length<=10000:=by rw[N8];omega
   change Hid _ at aa f J O;clear Y N;go_wp2_with(at_builtin;refine IY rfl 22 3 i0 z0 8 underlying22 hi hz k1 k2 k3 zD (.tmp 9) (.tmp 12) rfl w u5 _ rfl aa (qI x) rfl rfl ag (by rw[rN];omega) ?_;intro v' w5 ae M ah);have j:(R.alloc (aK #[qI x] 3)).heap.size=R+1:=by simp
   have af:r<R:=f.lt;have ac:some r≠bY u5:=λh=>by have:=(O r h.symm).1;omega
   have R5:eV w5 r s A2 R2:=f.at ((M.block r (by rw[j];omega) ac).trans (iI _ _ _ af));have O5:eN r w w5:=⟨M.os.trans J.os,M.tape.trans J.tape,M.output.trans J.output,fA J.size (by have:=M.size;rw[j]at this;omega),λq hq ab=>((M.block q (by rw[j];omega) (λh=>by have:=(O q h.symm).1;omega)).trans (iI _ _ _ zO)).trans (J.block q hq ab)⟩;exact⟨⟨k+1,zO,by go_num,by rw[VI,y];unfold X7;rw[DO];exact ae,by rw[U];exact R5,O5⟩,by simp[aW];omega⟩
  .obtain rfl:k=D:=zO;go_wp2_with fail;go_ret;exact⟨⟨_,rfl,S⟩,Z,X⟩
theorem UU(N M r:Nat)(s:ByteArray)(a D B:Nat)(w:aS)(hW:qC w N 0 (qI B))(Y:qC w M 0 (qP r 0))(h:eV w r s a D)(S:s.size<=aZ)(O:a<=s.size)(R:B<=10000):
  qK 127 #[qP N 0,qP M 0] w λe w'=>(∃v,e=aO v/\X7 w' w v (tN s a D B))/\eV w' r s (oM s a D B).1 (oM s a D B).2/\eN r w w':=by have Z:=IZ;have J:=eC (UI r s a D B w h S O R);clear h S O R;generalize tN s a D B=l at J|-;generalize(oM s a D B).1=A2 at J|-;generalize(oM s a D B).2=R2 at J|-;go_enter func127,ntmps127;go_wp2_with fail;refine J.mono ?_;rintro e f⟨⟨v,rfl,X⟩,W,U⟩;go_wp2_with fail;go_ret;exact⟨⟨v,rfl,X⟩,W,U⟩
def aC9(w:aS)(N:Nat)(v:aT)(a:Option Addr)(l:List Int):Prop:=l=[]\/∃b,a=some ⟨b,0,none⟩/\N<=b/\b<(w:Nat)/\some b≠v.ownBlock/\∀j x,l[j]?=some x->w.cell? ⟨b,j,none⟩=some (aC aP x)
def wG(w:aS)(N:Nat)(v:aT)(e:List aT)(L:List (List Int)):Prop:=e.length=L.length/\∀(i:Nat)(l:List Int),L[i]?=some l->∃d c,e[i]?=some (Value.slice d l.length c)/\aC9 w N v d l
def EF(s:ByteArray)(a e d i:Nat):List Int:=tN s (oM s a e (i*d)).1 (oM s a e (i*d)).2 d
def pB(s:ByteArray)(a d e n:Nat):List (List Int):=(dH n).map (EF s a d e)
theorem VJ(s:ByteArray)(a d e n:Nat):pB s a d e (n+1)=pB s a d e n++[EF s a d e n]:=by unfold pB;rw[List.range_succ,DO];rfl
theorem zU(s:ByteArray)(a d e n:Nat):(pB s a d e n).length=n:=by unfold pB;simp
theorem X7.inner{w:aS}(h:X7 w n v l):∃a c,v=aA a l.length c/\(l=[]\/∃b,a=some ⟨b,0,none⟩/\n<=b/\b<(w:Nat)/\∀j x,l[j]?=some x->w.cell? (qP b j)=some (qI x)):=by
 have f:=h;obtain⟨rfl,i⟩|⟨g,e,q,rfl,k,m,y,r,s,A⟩:=h.2
 .have:l=[]:=by simpa using i
  subst this;exact⟨none,0,rfl,.inl rfl⟩
 .refine⟨some (g,0),e,zS,.inr ⟨g,rfl,k,(fB.1 m).1,λj x d=>?_⟩⟩;have u:=(gX.1 d).1;rw[f.cellAt j zT,oY,d];rfl
theorem wG.move{w:aS}{e:aT}{f:List aT}(h:wG w N v f L)(u:w<=(w':Nat))(q:∀k,N<=k->k<(w:Nat)->some k≠v.ownBlock->w'.heap[k]?=w.heap[k]?/\some k≠e.ownBlock):wG w' N e f L:=by
 refine⟨h.1,λi l r=>?_⟩;obtain⟨y,c,n,d⟩:=h.2 i l r;refine⟨y,c,n,?_⟩;obtain d|⟨b,rfl,hN,hlt,hne,d⟩:=d
 .exact .inl d
 .obtain⟨g,m⟩:=q b hN hlt hne;exact .inr ⟨b,rfl,hN,gV hlt u,m,λj x s=>(lA (w:=w) (a:=(qP b j)) g).trans (d j x s)⟩
theorem wG.snoc{w:aS}{f:List aT}{d:Option Addr}{c:Nat}(h:wG w N v f L)(m:aC9 w N v d l):wG w N v (f++[aA d l.length c]) (L++[l]):=by
 refine⟨by rw[iR,iR,h.1];rfl,λi q hq=>?_⟩;by_cases hlt:i<L.length
 .rw[FU hlt]at hq;obtain⟨n,g,j,k⟩:=h.2 i q hq;exact⟨n,g,by rw[FU (by rw[h.1];exact hlt)];exact j,k⟩
 .rw[CQ zO]at hq;have e:i-L.length=0:=by have:=(gX.1 hq).1;simp at this;omega
  rw[e]at hq;simp at hq;subst hq;exact⟨d,c,by rw[CQ (by rw[h.1];omega),h.1,e];rfl,m⟩
theorem eV.alloc{w:aS}(h:eV w r s a d)(c:Obj):eV (w.alloc c) r s a d:=h.at (iI _ _ _ h.lt)
theorem eV.drew{w:aS}(h:eV w r s a d):eV w.drew r s a d:=h.at rfl
theorem eV.setOther{w:aS}{o:Nat}(h:eV w r s a d)(e:r≠k):eV (qS w (k,o) v) r s a d:=h.at (pU w (k,o) v r e)
theorem eN.alloc{w:aS}(h:eN b u w)(c:Obj):eN b u (w.alloc c):=⟨h.os,h.tape,h.output,by rw[fO];exact Nat.le_succ_of_le h.size,λk d e=>(iI _ _ _ (gV d h.size)).trans (h.block k d e)⟩
theorem eN.setNew{o:Nat}{w:aS}(h:eN b u w)(f:u<=k):eN b u (qS w (k,o) v):=⟨h.os,h.tape,h.output,by simpa using h.size,λi d e=>(pU w (k,o) v i (show i≠k from zO)).trans (h.block i d e)⟩
theorem eN.cells{w:aS}(h:eN b u w):(∀k o,b<k->k<(u:Nat)->w.cell? (qP k o)=u.cell? (qP k o))/\(∀k o,b<k->k<(u:Nat)->w.frozen? (qP k o)=u.frozen? (qP k o)):=
 ⟨λk o e d=>lA (w:=u) (a:=(qP k o)) (h.block k d zO),λk o e d=>World.frozen?_of_block (w:=u) (a:=(qP k o)) (h.block k d zO)⟩
def cA(s:ByteArray)(a d m:Nat):Nat:=uF a d (gT s a) (cE s a m)
def cR(s:ByteArray)(a d m:Nat):Nat:=xM d (cE s a m)
def cV(s:ByteArray)(a d m:Nat):Nat:=if d=0/\cE s a m=0 then gN s a else 0
theorem EI(h:a<=s.size):cA s a d m<=s.size:=by obtain⟨_,e,f,_⟩:=A0 s a h;exact(XK h ⟨e,f⟩).2
theorem Z7(s:ByteArray)(a e m:Nat):cV s a e m<=m:=by
 unfold cV;by_cases h:e=0/\cE s a m=0
 .rw[eI h];have d:=h.2;unfold cE at d;split at d
  .cases d
  .rename_i f;have:¬((m:Int)<(gN s a:Int)):=λg=>f ⟨d,.inr g⟩;omega
 .rw[eE h];omega
theorem rcN{er:Nat}{M:Int}(m:Nat)(i:M=m){w:aS}(h:eV w r s a er)(k:s.size<=aZ)(j:a<=s.size)(hm:m<=1000000):
  qK 111 #[qP r 0,qI M] w λe w'=>e=aO (qI (cV s a er m:Nat))/\eV w' r s (cA s a er m) (cR s a er m)/\eN r w w':=by
 subst i;refine(JJ r s a er m w h k j zO).mono ?_;rintro e w'⟨rfl,f,g⟩;refine⟨?_,f,g⟩;have d:=Z7 s a er m;unfold tk;unfold cV at d|-;by_cases hc:er=0/\cE s a m=0
 .rw[eI hc]at d;rw[eI hc,eI hc,show a9 (gN s a:Nat)=(gN s a:Nat) by unfold a9;omega]
 .rw[eE hc,eE hc];rfl
def LJ(s:ByteArray):Nat:=cA s 0 0 10000
def LY(s:ByteArray):Nat:=cR s 0 0 10000
def IX(s:ByteArray):Nat:=cA s (LJ s) (LY s) 20
def K6(s:ByteArray):Nat:=cR s (LJ s) (LY s) 20
def UW(s:ByteArray):Nat:=cA s (IX s) (K6 s) 12
def VL(s:ByteArray):Nat:=cR s (IX s) (K6 s) 12
def rdF(s:ByteArray):Nat:=cV s 0 0 10000
def rdN(s:ByteArray):Nat:=cV s (LJ s) (LY s) 20
def rdW(s:ByteArray):Nat:=cV s (IX s) (K6 s) 12
def YN(s:ByteArray):List (List Int):=pB s (UW s) (VL s) (rdW s) (rdN s)
theorem YM(s:ByteArray):(YN s).length<=20:=by unfold YN;rw[zU];exact Z7 ..
theorem KA(s:ByteArray)(a e d i:Nat):(EF s a e d i).length=d:=N8 ..
theorem aCl(s:ByteArray):∀l∈YN s,l.length=rdW s:=by intro l d;obtain⟨i,_,rfl⟩:=cG.1 d;exact KA ..
theorem aII(h:a<=s.size):rH (zN s a):=by
 unfold zN;split
 .exact aFl (A0 s a h).2.2.2.1
 .unfold rH;omega
theorem aJc(h:a<=s.size)(k:Nat):rH (vI s a d k):=by
 unfold vI tk;split
 .exact aII (QO h k)
 .unfold rH;omega
theorem aGE(s:ByteArray):∀l∈YN s,∀x∈l,rH x:=by intro l d x e;obtain⟨i,_,rfl⟩:=cG.1 d;obtain⟨k,_,rfl⟩:=cG.1 e;exact aJc (QO (EI (EI (EI (kU _)))) _) _
theorem J3(P Q:List UInt8)(n:Nat)(e:jG n):gN (eH (P++eK n++Q)) P.length=n/\gT (eH (P++eK n++Q)) P.length=(P++eK n).length/\gE (eH (P++eK n++Q)) P.length=0:=by
 have h:=aJe (eH P) n (eH Q) e;have d:∀A B:List UInt8,eH A++eH B=eH (A++B):=λA B=>by apply ByteArray.ext;rw[ByteArray.data_append];simp[eH]
 rw[<-aER,d,d]at h;rw[show(eH P).size=P.length by rfl]at h;refine⟨h.1,?_,h.2.2⟩;rw[h.2.1,iR];rfl
theorem aIg(P Q:List UInt8)(n:Int)(f:rH n):zN (eH (P++eK (iT n)++Q)) P.length=n:=by obtain⟨d,_,e⟩:=J3 P Q (iT n) (lW f);unfold zN;rw[eI e,d,NE]
theorem D6(P Q:List UInt8)(n m:Nat)(h:jG n)(hm:n<=m):cV (eH (P++eK n++Q)) P.length 0 m=n/\cA (eH (P++eK n++Q)) P.length 0 m=(P++eK n).length/\cR (eH (P++eK n++Q)) P.length 0 m=0:=by
 obtain⟨d,e,f⟩:=J3 P Q n h;have g:cE (eH (P++eK n++Q)) P.length m=0:=by unfold cE;rw[d,f,eE zO]
 unfold cV cA cR;rw[g,d,e];exact⟨rfl,rfl,rfl⟩
theorem Z3(P Q:List UInt8)(X:List Int){x:Int}(h:X[k]?=some x):P++gI X++Q=(P++gI (X.take k))++eK (iT x)++(gI (X.drop (k+1))++Q):=by
 have e:X=X.take k++(x::X.drop (k+1)):=by obtain⟨g,he⟩:=gX.1 h;rw[<-he,List.getElem_cons_drop,xH]
 have f:gI X=gI (X.take k)++(eK (iT x)++gI (X.drop (k+1))):=by have d:=congrArg gI e;rw[FO]at d;exact d
 rw[f];simp only[jH]
theorem aF6(P Q:List UInt8)(X:List Int)(i:∀x∈X,rH x)(k:Nat)(j:k<=X.length):oM (eH (P++gI X++Q)) P.length 0 k=((P++gI (X.take k)).length,0):=by
 induction k with
 |zero=>simp[oM,gI]
 |succ k e=>have e:=e zO;obtain⟨x,d⟩:=fN (show k<X.length from zO);obtain⟨h,f,g⟩:=J3 (P++gI (X.take k)) (gI (X.drop (k+1))++Q) (iT x) (lW (i x (iG d)));rw[<-Z3 P Q X d]at h f g;rw[oM,e];simp only;rw[f,g,gW d,IQ,<-jH];rfl
theorem aIH(P Q:List UInt8)(X:List Int)(g:∀x∈X,rH x)(k:Nat){x:Int}(d:X[k]?=some x):vI (eH (P++gI X++Q)) P.length 0 k=x:=by have m:=(gX.1 d).1;have h:=g x (iG d);have e:=aIg (P++gI (X.take k)) (gI (X.drop (k+1))++Q) x h;obtain⟨i,j,f⟩:=J3 (P++gI (X.take k)) (gI (X.drop (k+1))++Q) (iT x) (lW h);rw[<-Z3 P Q X d]at e f;unfold vI;rw[aF6 P Q X g k zO];simp only;rw[f,e];rfl
theorem aC3(s:ByteArray)(a d m k:Nat):vI s (oM s a d m).1 (oM s a d m).2 k=vI s a d (m+k):=by unfold vI;rw[MR]
theorem aFX(L:List (List Int))(m:Nat)(h:∀l∈L,l.length=m)(d:L[i]?=some l)(g:k<m):L.flatten[i*m+k]?=l[k]?:=by
 induction L generalizing i with
 |nil=>simp at d
 |cons a L ih=>
  have e:=h a (DZ ..);rw[L3];cases i with
  |zero=>simp at d;subst d;rw[Nat.zero_mul,kQ,FU zO]
  |succ i=>
   have f:L[i]?=some l:=by simpa using d
   have:=ih (λq hq=>h q (BP _ hq)) f;rw[CQ (by rw[e,Nat.add_mul];omega),e,<-this];congr 1;rw[Nat.add_mul];omega
theorem aAk(P:List UInt8)(L:List (List Int))(m:Nat)(hm:∀l∈L,l.length=m)(h:∀l∈L,∀x∈l,rH x):pB (eH (P++gI L.flatten++[])) P.length 0 m L.length=L:=by
 have j:∀x∈L.flatten,rH x:=λx e=>by obtain⟨l,d,q⟩:=List.mem_flatten.1 e;exact h l d x q
 refine AR (zU ..) λi f=>?_;rw[zU]at f;obtain⟨l,d⟩:=fN f;have n:=hm l (iG d);rw[d];unfold pB;rw[oY,List.getElem?_range f,cI];congr 1;refine AR (by rw[KA,n]) λk g=>?_;rw[KA]at g;unfold EF tN;rw[oY,List.getElem?_range g,cI,aC3];obtain⟨x,e⟩:=fN (show k<l.length from zO);rw[e];congr 1;exact aIH P [] L.flatten j (i*m+k) ((aFX L m hm d g).trans e)
theorem aCs(L:List (List Int))(f:Nat)(J:∀l∈L,∀x∈l,rH x)(u:tE L f=0):YN (BJ L f)=L/\rdF (BJ L f)=f:=by
 obtain⟨R,S,U,G,W,X⟩:=aHW u;have hT:BJ L f=eH (fP L f):=by unfold BJ;rw[eI u]
 generalize hm:(BD L).length=m at*;have K:fP L f=[]++eK f++eK L.length++eK m++gI L.flatten:=by unfold fP GF;rw[hm];rfl
 rw[hT,K];have M:jG f:=by unfold jG;omega
 have O:jG L.length:=by unfold jG;omega
 have N:jG m:=by unfold jG;omega
 obtain⟨j,k,n⟩:=D6 [] (eK L.length++(eK m++gI L.flatten)) f 10000 M zO;obtain⟨q,r,s⟩:=D6 ([]++eK f) (eK m++gI L.flatten) L.length 20 O zO;obtain⟨D,E,F⟩:=D6 ([]++eK f++eK L.length) (gI L.flatten) m 12 N zO;have e:=aAk ([]++eK f++eK L.length++eK m) L m G J;rw[EL]at e;rw[show []++eK f++(eK L.length++(eK m++gI L.flatten))=[]++eK f++eK L.length++eK m++gI L.flatten by simp only[jH]]at j k n;rw[show []++eK f++eK L.length++(eK m++gI L.flatten)=[]++eK f++eK L.length++eK m++gI L.flatten by simp only[jH]]at q r s;generalize []++eK f++eK L.length++eK m++gI L.flatten=T at*;rw[rP]at j k n;have d:LJ (eH T)=([]++eK f).length:=k;have h:LY (eH T)=0:=n;have g:IX (eH T)=([]++eK f++eK L.length).length:=by unfold IX;rw[d,h];exact r
 have i:K6 (eH T)=0:=by unfold K6;rw[d,h];exact s
 have y:UW (eH T)=([]++eK f++eK L.length++eK m).length:=by unfold UW;rw[g,i];exact E
 have B:VL (eH T)=0:=by unfold VL;rw[g,i];exact F
 have A:rdN (eH T)=L.length:=by unfold rdN;rw[d,h];exact q
 have C:rdW (eH T)=m:=by unfold rdW;rw[g,i];exact D
 refine⟨?_,j⟩;unfold YN;rw[y,B,A,C];exact e
def E4(x s:Int):Int:=bits .or aQ (aQ.wrap (x*2^s.toNat)) (x/2^(32-s).toNat)
theorem aFt(x k s:Int)(w:aS)(J:bits BinOp.and bK (bK.wrap k) 31=s)(B:0<=s)(D:s<=31):qK 343 #[aC aQ x,qI k] w λe w'=>e=aO (aC aQ (E4 x s))/\w=w':=by
 have hw:bK.wrap (32-s)=32-s:=by rw[sU];omega
 go_enter func343,ntmps343;go_wp2;go_ret;exact⟨rfl,rfl⟩
theorem mN(x n m s:Int)(w:aS)(hm:aP.wrap (-n)=m)(B:bits BinOp.and bK (bK.wrap m) 31=s)(J:0<=s)(M:s<=31):qK 312 #[aC aQ x,qI n] w λe w'=>e=aO (aC aQ (E4 x s))/\w=w':=by have D:=aFt x m s w B J M;clear B;generalize E4 x s=r at*;go_enter func312,ntmps312;go_wp2_with(go_at_call 343;refine D.mono ?_;rintro e N⟨rfl,rfl⟩);go_ret;exact⟨rfl,rfl⟩
def fR(l:List Int):Array aT:=(l.map (aC aQ)).toArray
def F2:List Int:=[1779033703,3144134277,1013904242,2773480762,1359893119,2600822924,528734635,1541459225]
def JM:List Int:=[1116352408,1899447441,3049323471,3921009573,961987163,1508970993,2453635748,2870763221,3624381080,310598401,607225278,1426881987,1925078388,2162078206,2614888103,3248222580,3835390401,4022224774,264347078,604807628,770255983,1249150122,1555081692,1996064986,2554220882,2821834349,2952996808,3210313671,3336571891,3584528711,113926993,338241895,666307205,773529912,1294757372,1396182291,1695183700,1986661051,2177026350,2456956037,2730485921,2820302411,3259730800,3345764771,3516065817,3600352804,4094571909,275423344,430227734,506948616,659060556,883997877,958139571,1322822218,1537002063,1747873779,1955562222,2024104815,2227730452,2361852424,2428436474,2756734187,3204031479,3329325298]
theorem aB5(w:aS):qK 269 #[] w (Rt (.agg (fR F2)) w):=by go_enter func269,ntmps269;go_wp2;exact gO (EP rfl _ _ w 402 _ (0,0) _ rfl (fG w _) underlying402 rfl zK) rfl ⟨rfl,fL w _⟩
theorem aBE(w:aS):qK 311 #[] w λe w'=>e=aO (qP w 0)/\w'=w.alloc (aK (fR JM) 469):=by go_enter func311,ntmps311;go_wp2;exact gO (results_tmp rfl _ _ _) rfl ⟨rfl,rfl⟩
end Go.Proofs.YtgmjilingndloaaGreatDoor
