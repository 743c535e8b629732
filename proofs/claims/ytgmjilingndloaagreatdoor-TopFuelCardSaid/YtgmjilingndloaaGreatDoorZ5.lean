/- Part 5 of the proof of TopFuel. No conditions. -/
import Derived.Test.YtgmjilingndloaaGreatDoorZ4
import Derived.Laws.EntriesVeiled
import Derived.Lib.AppendZerosOnto
import Derived.Lib.Overlaps
open Go renaming TypeId->aX,Value->aT,World->aS,maxLen->aZ,undef->aY
open Go.Ending renaming returned->aO
open Go.Fn renaming func->bC
open Go.IntKind renaming i64->aP
open Go.Obj renaming cells->aK
open Go.RowKit renaming Below->aV,wrap64->a9
open Go.Value renaming agg->aH,bool->aG,func->aD,int->aC,pointer->aE,slice->aA,tuple->aF
open Go.World renaming frozen?_of_block->cO
open List renaming map_cons->bZ,take_left'->dM
open Nat renaming lt_or_ge->cM
namespace Go.Proofs.YtgmjilingndloaaGreatDoor
set_option linter.unusedVariables false
set_option linter.unusedSimpArgs false
set_option maxRecDepth 100000
set_option maxHeartbeats 20000000
open Go Go.RowKit Go.Proofs.Tryz Go.Shelf
variable{w w' V:aS}{s s':Ms}{n i k b:Nat}{ev v d m f j y e u c:aT}{P:Program}{g:List (Fr×aT)}{A q:List (aT×List Int)}{ops:Array Oper}{o:Oper}{a:Act}{Q:Exit->Act->aS->Prop}{L:List Nd}{x:Nd}{t:Int}{o0 o1 o2:Obj}
theorem qW(w:aS)(m F G h:aX)(K g o f q:Nat)(a:Addr)(k E:Nat)(e:Array aT)(t:aX)(d:List aT)
  (D:P.underlying m=some (.slice h))(n:(P.info? h).map (·.size)=some K)
  (u:qB w g e t)(A:d.length=Nat.min k f*K)
  (B:∀j v,d[j]?=some v->w.cell? (a.add j)=some v)(s:o+d.length<=e.size)(r:∀v∈d,v.oneCell'=true):
  (Builtin.copy_ #[m,F] G #[aA (some (g,o)) f q,aA (some a) k E]).run P w=
   .ok (goInt (Nat.min k f)) (w.setRow g (Go.splice e.toList o d).toArray):=by
 have y:=run_loadCells_list (P:=P) w a d B
 have C:=run_storeCells_at P g o t d 0 e w u (by simpa using s) r
 cases hq:P.info? h with
 |none=>simp[hq]at n
 |some i=>
  have x:i.size=K:=by simpa[hq]using n
  simp[Builtin.copy_,run_underlying D,Builtin.lenOf,Builtin.firstCells,sizeOf,typeInfo,hq,x,<-A,y,C,Go.splice]
theorem uR(w:aS){B:List Oper}(M:o.guard=none)(d s:Operand)(t D:aX)
  (N:o.op=.call {callee:=.builtin .copy,args:=#[d,s],argTypes:=#[t,D]})(v u:aT)(hd:a.eval d=v)(R:a.eval s=u){J:aT}{w':aS}
  (O:(Builtin.copy_ #[t,D] o.type #[v,u]).run P w=.ok J w')(h:wpList P ops Q B (a.put o.dst J) w'):wpList P ops Q (o::B) a w:=by refine wpList_plain M λK hK=>?_;unfold Oper.wp execOp;simp only[N,resolve,invoke,builtin,Sem.run_bind,Sem.run_pure,Result.andThen_ok,List.map_toArray,bZ,List.map_nil,hd,R,O];exact hK _ _ h
theorem xZ{K:Act->aS->Prop}{E:Prop}
  (M:o.guard=none)(d x:Operand)(B D:aX)(N:o.op=Op.call {callee:=Callee.builtin Builtin.copy,args:=#[d,x],argTypes:=#[B,D]})
  (v u:aT)(hd:a.eval d=v)(R:a.eval x=u){J:aT}{w':aS}(O:(Builtin.copy_ #[B,D] o.type #[v,u]).run P w=.ok J w')(hK:K (a.put o.dst J) w'):
  if Region.wanted o (yielded ops a.tmps)=true then Oper.wp P o a w K Q else E:=by
 have hw:Region.wanted o (yielded ops a.tmps)=true:=by simp[Region.wanted,M]
 rw[eI hw];unfold Oper.wp;simp[execOp,N,resolve,invoke,builtin,hd,R,O,Result.andThen];exact hK
def fl(L:List Nd):List aT:=L.flatMap λx=>[aC aP x.1,aC aP x.2]
theorem qH(L:List Nd):(fl L).length=L.length*2:=by
 induction L with
 |nil=>rfl
 |cons x r ih=>simp only[fl,List.flatMap_cons,iR,iW,rP]at ih|-;omega
theorem QN(A B:List Nd):fl (A++B)=fl A++fl B:=by simp[fl]
theorem O0(L:List Nd):∀v∈fl L,v.oneCell'=true:=by intro v d;simp only[fl,List.mem_flatMap]at d;obtain⟨x,_,e⟩:=d;simp at e;obtain rfl|rfl:=e<;>rfl
theorem aI7{E:aX}:eD kP E n w v L↔w.ownsRow n E 2 v L.length (fl L):=by
 constructor
 .rintro⟨k,e,f⟩;have:k=L.map λx=>[qI x.1,qI x.2]:=by
   apply List.ext_getElem?;intro i;rw[oY];cases d:L[i]?with
   |none=>exact AS (by rw[e.1];exact List.getElem?_eq_none_iff.1 d)
   |some x=>obtain⟨m,g,j⟩:=e.2 i x d;rw[g];exact congrArg some j
  rw[this,<-List.flatMap_def]at f;exact f
 .intro h;exact⟨L.map λx=>[qI x.1,qI x.2],⟨zS,λi x d=>⟨_,by simp[d],rfl⟩⟩,by rw[<-List.flatMap_def];exact h⟩
theorem zZ{P M S d:List aT}{o:Nat}(e:P.length=o)(h:M.length=d.length):Go.splice (P++(M++S)) o d=P++(d++S):=by
 subst e;unfold Go.splice;rw[dM,<-h,List.drop_append,List.drop_of_length_le zO,uS,show P.length+M.length-P.length=M.length from zO,List.drop_left']
 .rfl
 .rfl
theorem IW{A:List aT}(f:i<=L.length)(e:A.take (i*2)=fl (L.take i))(m:(L.length+1)*2<=A.length):
  ∃C,Go.splice (Go.splice A (i*2+2) (fl (L.drop i))) (i*2) (fl [x])=C/\Go.splice (Go.splice A (i*2) (fl [x])) (i*2+2) (fl (L.drop i))=C/\C.take ((L.length+1)*2)=fl (L.take i++[x]++L.drop i)/\C.length=A.length:=by
 have g:(fl (L.drop i)).length=(L.length-i)*2:=by rw[qH,sB]
 have h:(fl [x]).length=2:=qH _;have d:(fl (L.take i)).length=i*2:=by rw[qH,jR,Nat.min_eq_left f]
 obtain⟨M,R,B,j,k,rfl⟩:∃M R B:List aT,M.length=2/\R.length=(L.length-i)*2/\A=fl (L.take i)++(M++(R++B)):=by
  refine⟨(A.drop (i*2)).take 2,((A.drop (i*2)).drop 2).take ((L.length-i)*2),((A.drop (i*2)).drop 2).drop ((L.length-i)*2),?_,?_,?_⟩
  .rw[jR,sB];omega
  .rw[jR,sB,sB];omega
  .rw[xH,xH,<-e,xH]
 refine⟨fl (L.take i)++(fl [x]++(fl (L.drop i)++B)),?_,?_,?_,?_⟩
 .rw[<-jH,zZ (by rw[iR];omega) zO,jH,zZ d zO]
 .rw[zZ d zO,<-jH,zZ (by rw[iR];omega) zO,jH]
 .rw[QN,QN,<-jH,<-jH,dM];rw[iR,iR];omega
 .simp only[iR];omega
theorem aAj{a b:Addr}{q r:aX}{f d:Array aT}{m:Nat}(y:a.block≠b.block)(g:qB w a.block f q)(u:qB w b.block d r)(x:d.size≠0)(A:a.spot=none):
  (callFunc 341 #[aA (some a) m i,aA (some b) n k]).run prog w=.ok (.value (aG false)) w:=by
 have h:∀j,qF w a.block j:=λj=>g8 w _ _ _ _ g;rw[run_callFunc_extern func341 zK zK zK (e:=Extern.SlicesOverlaps.overlaps #[23,23] #[4]) zK,
  Lib.run_overlaps_apart w 23 4 54 underlying23 2 (λw=>zK) a b m i n k y q r f.size d.size (by unfold World.shape?;rw[g]) (by unfold World.shape?;rw[u]) x (by obtain⟨B,s,C⟩:=a;cases A;exact h s) (h _)];rfl
theorem yB{u v:aS}(h:aV n u v):aV n u v.drew:=⟨h.os,h.tape,h.output,h.size,h.block⟩
theorem aHY(k:Nat):(Builtin.zeroCells (Value.agg #[qI 0,qI 0]).cells k).size=k*2:=by simp[Builtin.zeroCells,Value.cells]
theorem V7(base g n B J i:Nat)(L:List Nd)(x:Nd)(w:aS)(ho:eD kP 54 base w (aA (some (g,0)) n B) L)(y:w.heap[J]?=some (aK #[qI x.1,qI x.2] 54 (0,0)))(ba:J≠g)(hi:i<n)(hn:n=L.length)(hm:n<=100000):
  qK 295 #[aA (some (g,0)) n B,qI i,aA (some (J,0)) 1 1] w λe w'=>mR kP 54 base (L.take i++[x]++L.drop i) w' e/\aV base w w':=by
 have hr:=aI7.1 ho;obtain⟨R,X,aw,bl,a6,ax,ao⟩:∃R:Array aT,w.heap[g]?=some (aK R 54 (0,0))/\base<=g/\n<=B/\B<=aZ/\R.size=B*2/\R.toList.take (n*2)=fl L:=by
  obtain⟨h,_⟩|⟨g',bp,R,h,a,b,c,d,e,f⟩:=hr.2
  .cases h
  .cases h;rw[hn];exact⟨R,b,a,c,d,e,f⟩
 have a7:=(fB.1 X).1;have bn:=(fB.1 y).1;unfold aZ at a6;have ap:∀(j:Nat)(v:aT),(fl [x])[j]?=some v->w.cell? (J,j)=some v:=λj v D=>(kG w J j _ _ _ y).trans (by simpa[fl]using D);have am:∀(j:Nat)(v:aT),(fl (L.drop i))[j]?=some v->w.cell? (g,i*2+j)=some v:=λj v D=>by
  have hl:(fl (L.take i)).length=i*2:=by rw[qH,jR];omega
  have bk:=(gX.1 D).1;rw[qH,sB]at bk;rw[kG w g _ _ _ _ X];have:(fl L)[i*2+j]?=some v:=by rw[<-xH i L,QN,CQ zO,hl,Nat.add_sub_cancel_left];exact D
  rw[<-ao,List.getElem?_take,eI zO]at this;simpa using this
 have w1:aP.wrap ((n:Int)+1)=(n:Int)+1:=by rw[iA];omega
 have w2:aP.wrap ((i:Int)+1)=(i:Int)+1:=by rw[iA];omega
 have w3:aP.wrap ((n:Int)+1-(i:Int))=(n:Int)+1-(i:Int):=by rw[iA];omega
 have q1:((i:Int)==(n:Int))=false:=zT;have t1:((i:Int)+1).toNat=i+1:=zO;have t2:((n:Int)+1).toNat=n+1:=zO;have b0:¬B=i:=zO;have hA:R.toList.take (i*2)=fl (L.take i):=by
  have:=congrArg (List.take (i*2)) ao;rw[List.take_take,Nat.min_eq_left zO]at this;rw[this];conv=>lhs;rw[<-xH i L,QN]
  exact dM (by rw[qH,jR];omega)
 have u:(prog.info? 54).map (·.size)=some 2:=zK;have af:(fl [x]).length=2:=qH _;have ae:(fl (L.drop i)).length=(n-i)*2:=by rw[qH,sB,hn]
 by_cases hroom:n+1<=B
 .obtain⟨C,ai,aj,aa,ab⟩:=IW (A:=R.toList) (L:=L) (i:=i) (x:=x) zO hA zT;have bm:=eC (λW lb kb(h:W.heap=w.heap)=>show(callFunc 341 #[aA (some (J,0)) 1 1,aA (some (g,(i+1)*2)) lb kb]).run prog W=.ok (.value (aG false)) W from aAj ba (by show _=_;rw[h];exact y) (by show _=_;rw[h];exact X) zO rfl);obtain⟨M,U⟩:=eR ((Go.splice R.toList (i*2+2) (fl (L.drop i))).toArray);have bd:M.size=R.size:=by rw[<-U];simp[Go.splice,ae];omega
  have ag:M.toList=Go.splice R.toList (i*2+2) (fl (L.drop i)):=by rw[<-U]
  have ah:=eC (λW N Z S ks(h:W.heap=w.heap)(ay:Z=n-i)=>show(Builtin.copy_ #[23,23] N #[aA (some (g,(i+1)*2)) Z S,aA (some (g,i*2)) (n+1-i) ks]).run prog W=.ok (goInt (Nat.min (n+1-i) Z)) (W.setRow g M)by
   subst ay
   rw[<-U,show i*2+2=(i+1)*2 by omega]
   exact qW W _ _ N 54 2 g ((i+1)*2) (n-i) S (g,i*2) (n+1-i) ks R 54 (fl (L.drop i)) underlying23 u (by show _=_;rw[h];exact X) (by rw[ae];congr 1;simp only[Nat.min_def];split<;>omega) (λj v D=>by rw[kJ];exact(lA (w:=w) (a:=⟨g,_,none⟩) (by rw[h])).trans (am j v D)) zO (O0 _));have aq:=eC (λW N S(h1:W.heap[g]?=some (aK M 54 (0,0)))(h2:W.heap[J]?=w.heap[J]?)=>show(Builtin.copy_ #[23,23] N #[aA (some (g,i*2)) (n+1-i) S,aA (some (J,0)) 1 1]).run prog W=.ok (goInt (Nat.min 1 (n+1-i))) (W.setRow g C.toArray)by
   rw[<-ai,<-ag]
   exact qW W _ _ N 54 2 g (i*2) (n+1-i) S (J,0) 1 1 M 54 (fl [x]) underlying23 u h1 (by rw[af,show Nat.min 1 (n+1-i)=1 by simp only[Nat.min_def];split<;>omega]) (λj v D=>by rw[kJ,kQ];exact(lA (w:=w) (a:=⟨J,_,none⟩) h2).trans (ap j v D)) zO (O0 _));have ar:=eC (λW(h1:W.heap[g]?=some (aK C.toArray 54 (0,0)))(h2:aV base w W)=>show mR kP 54 base (L.take i++[x]++L.drop i) W (aO (aA (some (g,0)) (n+1) B))/\aV base w W from
   ⟨⟨_,rfl,aI7.2 ⟨by rw[qH],.inr ⟨g,B,C.toArray,zT,aw,h1,zT,a6,by simp[ab,ax],by simp only[iR,jR,LV,sB,List.toList_toArray];rw[show(min i L.length+1+(L.length-i))*2=(L.length+1)*2 by omega];exact aa⟩⟩⟩,h2⟩);have HX:=eC y;have HG:=eC X;clear ho hr X y ax ao hA ai aj aa ab U ag ap am u af ae hn;generalize aL:mR kP 54 base (L.take i++[x]++L.drop i)=RO at*;clear aL;go_enter func295,ntmps295;go_wp2_with(rw[bm _ _ _ rfl]);have a5:aV base w (w.drew.setRow g M):=Go.below_setRow (yB (iL _ _)) aw _;have az:(w.drew.setRow g M).heap[g]?=some (aK M 54 (0,0)):=setRow_heap w.drew g _ _ 54 _ HG;have be:(w.drew.setRow g M).heap[J]?=w.heap[J]?:=setRow_other w.drew g J _ ba;have bh:=eC (λN S=>aq _ N S az be);change Hid _ at az a5;clear be;go_region_held_law(λW=>True) (trivial) (refine xZ (o:=⟨some 77,_,_,_,_,_⟩) rfl (.tmp 73) (.tmp 76) 23 23 rfl _ _ zR zR (ah _ _ _ _ _ rfl zO) ?_)
  all_goals go_wp2_with(refine uR _ rfl _ _ 23 23 rfl _ _ zR zR (bh _ _) ?_);go_ret;exact ar _ (setRow_heap _ g _ _ 54 _ az) (Go.below_setRow a5 aw _)
 .have bj:B=n:=zO;subst bj;obtain⟨i0,a8,bf,bg,a2⟩:=info_parts Q4;obtain⟨G,hG⟩:=eR (grownCap w (B+1) B 54);have bq:B+1<=G:=by rw[<-hG];exact grownCap_ge w _ _ _
  have bi:G<=9223372036854775807:=by have:=grownCap_le_maxLen w (B+1) B 54 (by unfold aZ;omega);rw[hG]at this;unfold aZ at this;omega
  obtain⟨O,ak⟩:∃O:Array aT,(fl (L.take i)).toArray++Builtin.zeroCells (Value.agg #[qI 0,qI 0]).cells (B+1-i)++Builtin.zeroCells (Value.agg #[qI 0,qI 0]).cells (G-(B+1))=O:=⟨_,rfl⟩;have a4:O.size=G*2:=by rw[<-ak,Array.size_append,Array.size_append,aHY,aHY];simp only[PO,qH,jR];omega
  have a3:O.toList.take (i*2)=fl (L.take i):=by rw[<-ak];simp only[Array.toList_append,jH];exact dM (by rw[qH,jR];omega)
  obtain⟨C,ai,aj,aa,ab⟩:=IW (A:=O.toList) (L:=L) (i:=i) (x:=x) zO a3 zT;have bb:(Builtin.firstCells i0.size i (aA (some (g,0)) i B)).run prog w.drew=.ok (fl (L.take i)).toArray w.drew:=by
   rw[bg];exact run_firstCells_some w.drew 2 i (g,0) i B (fl (L.take i)) (by rw[qH,jR];omega) (λj v D=>by
    rw[kJ,kQ,World.cell?_drew,kG w g _ _ _ _ X]
    rw[<-hA,List.getElem?_take]at D
    split at D
    .simpa using D
    .cases D)
  have bc:=eC (λN=>show(Builtin.append_ #[23,3] N #[aA (some (g,0)) i B,qI ((B:Int)+1-(i:Int))]).run prog w=.ok (aA (some (w,0)) (B+1) G) (w.drew.alloc (aK O 54))by
   have h:=Lib.run_append_grow_zeros w 23 3 N 54 i0 _ aP aP underlying23 underlying3 a8 bf (some (g,0)) i B (fl (L.take i)) bb (B+1-i) zO zO zO zO (by rw[a2];omega) (by rw[a2,show i+(B+1-i)=B+1 by omega];exact growslice_fits zO zO)
   rw[show i+(B+1-i)=B+1 from zO,hG,ak]at h
   rw[show(B:Int)+1-(i:Int)=((B+1-i:Nat):Int) by omega]
   exact h);obtain⟨Y,ac⟩:=eR (w.drew.alloc (aK O 54));rw[ac]at bc;have bo:=PC ac;have au:Bl w Y:=by rw[<-ac];exact(yB (iL _ _)).alloc (eX _) _
  have a0:Y.heap[(w:Nat)]?=some (aK O 54 (0,0)):=by rw[<-ac];exact fG w.drew _
  obtain⟨M,U⟩:=eR ((Go.splice O.toList (i*2) (fl [x])).toArray);have bd:M.size=O.size:=by rw[<-U];simp[Go.splice,af];omega
  have ag:M.toList=Go.splice O.toList (i*2) (fl [x]):=by rw[<-U]
  have ah:=eC (λN=>show(Builtin.copy_ #[23,23] N #[aA (some (w,i*2)) (B+1-i) (G-i),aA (some (J,0)) 1 1]).run prog Y=.ok (goInt (Nat.min 1 (B+1-i))) (Y.setRow w M)by
   rw[<-U]
   exact qW Y _ _ N 54 2 w (i*2) (B+1-i) (G-i) (J,0) 1 1 O 54 (fl [x]) underlying23 u a0 (by rw[af,show Nat.min 1 (B+1-i)=1 by simp only[Nat.min_def];split<;>omega]) (λj v D=>by rw[kJ,kQ];exact(au.cell (p:=(J,j)) bn).trans (ap j v D)) zO (O0 _));obtain⟨W2,al⟩:=eR (Y.setRow w M);rw[al]at ah;have a1:W2.heap[(w:Nat)]?=some (aK M 54 (0,0)):=by rw[<-al];exact setRow_heap Y _ _ _ 54 _ a0
  have av:Bl w W2:=by rw[<-al];exact Go.below_setRow au (eX _) _
  have aq:=eC (λW N Z S ks(h:W.heap=W2.heap)(ay:Z=B-i)=>show(Builtin.copy_ #[23,23] N #[aA (some (w,(i+1)*2)) Z S,aA (some (g,i*2)) (B-i) ks]).run prog W=.ok (goInt (Nat.min (B-i) Z)) (W.setRow w C.toArray)by
   subst ay
   rw[<-aj,<-ag,show i*2+2=(i+1)*2 by omega]
   exact qW W _ _ N 54 2 w ((i+1)*2) (B-i) S (g,i*2) (B-i) ks M 54 (fl (L.drop i)) underlying23 u (by show _=_;rw[h];exact a1) (by rw[ae];congr 1;simp only[Nat.min_def];split<;>omega) (λj v D=>by rw[kJ];exact((lA (w:=W2) (a:=⟨g,_,none⟩) (by rw[h])).trans (av.cell (p:=(g,i*2+j)) a7)).trans (am j v D)) zO (O0 _));have ar:=eC (λW(h:W.heap=W2.heap)(h2:Bl w W)=>show mR kP 54 base (L.take i++[x]++L.drop i) (W.setRow w C.toArray) (aO (aA (some (w,0)) (B+1) G))/\aV base w (W.setRow w C.toArray)from
   ⟨⟨_,rfl,aI7.2 ⟨by rw[qH],.inr ⟨w,G,C.toArray,zT,zO,setRow_heap W _ _ _ 54 _ (by show _=_;rw[h];exact a1),zT,by unfold aZ;omega,by simp[ab,a4],by simp only[iR,jR,LV,sB,List.toList_toArray];rw[show(min i L.length+1+(L.length-i))*2=(L.length+1)*2 by omega];exact aa⟩⟩⟩,(Go.below_setRow h2 (eX _) _).mono zO⟩);have g1:¬G=i:=zO;have g2:¬G=i+1:=zO;have br:¬B+1<=B:=zO;change Hid _ at av;clear ho hr X y ax ao hA ai aj aa ab U ag ap am u af ae hn a8 bf bg a2 hG bi ak a4 a3 bb ac bo au a0 bd al a1 hroom bl a7;generalize aL:mR kP 54 base (L.take i++[x]++L.drop i)=RO at*;clear aL;go_enter func295,ntmps295;go_wp2_with(first
   |((with_reducible show wpList _ _ _ ({dst:=some 40,op:=_,type:=_,pos:=_,after:=_,guard:=_}::_) _ _);refine Lib.wpList_append_run w rfl _ _ 23 3 rfl _ _ zR zR _ _ (bc _) ?_)
   |((with_reducible show wpList _ _ _ ({dst:=some 45,op:=_,type:=_,pos:=_,after:=_,guard:=_}::_) _ _);refine uR _ rfl _ _ 23 23 rfl _ _ zR zR (ah _) ?_));go_region_held_law(λW=>True) (trivial) (refine xZ (o:=⟨some 54,_,_,_,_,_⟩) rfl (.tmp 50) (.tmp 53) 23 23 rfl _ _ zR zR (aq _ _ _ _ _ rfl zO) ?_)
  all_goals go_wp2;go_ret;exact ar _ rfl (yB av)
theorem Q1:∀(l:List Nd)(c:Nat)(x:Nd),lC (l++[x]) (c+1)=some (l.length+1)->KQ x=some 0
 |[],c,x,h=>by
  simp only[List.nil_append,lC]at h
  cases ha:KQ x with
  |none=>rw[ha]at h;cases h
  |some a=>
   rw[ha]at h
   simp only at h
   cases hq:c+a with
   |zero=>congr 1;omega
   |succ q=>rw[hq]at h;simp[lC]at h
 |y::l,c,x,h=>by
  simp only[List.cons_append,lC]at h
  cases ha:KQ y with
  |none=>rw[ha]at h;cases h
  |some a=>
   rw[ha]at h
   simp only[Option.map_eq_some_iff,List.length_cons]at h
   obtain⟨d,e,f⟩:=h
   cases hq:c+a with
   |zero=>rw[hq]at e;simp[lC]at e;omega
   |succ q=>rw[hq]at e;exact Q1 l q x (by rw[e];congr 1;omega)
theorem aCx{l:List Nd}(f:nL l=0)(m:l[k]?=some x)(j:KQ x≠some 0):k+1<l.length:=by
 obtain⟨i,n⟩:=gX.1 m;obtain h|h:=cM (k+1) l.length
 .exact h
 exfalso;obtain⟨_,_,he⟩:=AH f;have g:l=l.take k++[x]:=by rw[<-n];conv=>lhs;rw[<-xH k l,tL i,D5 h]
 unfold iD at he;rw[List.drop_zero]at he;simp only[OP,kQ]at he;obtain⟨d,e,rfl⟩:=he;rw[g]at e;refine j (Q1 (l.take k) 0 x ?_);rw[e];simp
theorem aHD{q:Int}(h:t=23\/t=24):KQ (t,q)≠some 0:=by
 intro d;have:=(lX d).1;unfold xG nN at this;obtain rfl|rfl:=h
 .simp at this;split at this<;>omega
 .simp at this;split at this<;>omega
theorem XN:Q7 6 260:=by
 intro va f vc Z p k n w hp hk hm al;obtain⟨x,W⟩:∃x,p.bd[k]?=some x:=⟨_,lJ hk⟩;obtain⟨V,N⟩:=eR (w.alloc (aK (wO va f vc Z p k n).toArray 392));have y:=DX N;have O:=eC (BZ (show oH V (w:Nat) (wO va f vc Z p k n) by rw[<-N];exact boxed w _ _));have X:=eC (vC va f vc Z p k n x V (hp.later y) W);have Y:=eC y;have HZ:=eC (show(V:Nat)=(w:Nat)+1 by rw[<-N];simp);have u:iH 6 p.bd k n=if(x.1≠23/\x.1≠24)\/n≠0 then []else p.bd.take (k+1)++[(6,0)]++p.bd.drop (k+1):=by unfold iH;rw[eE (by decide),eE (by decide),eE (by decide),eE (by decide),eE (by decide),eI (by decide),W];rfl
 rw[u];obtain⟨c0,c1,c2,c3,c4⟩:=O V (iL _ _);obtain⟨t,q⟩:=x;have aL:=EK t q;have ai:=eC (λh=>aCx al W (aHD (q:=q) h));have ac:=eC (λU(h:Bl V U)=>((hp.later y).later h).2.1);have aj:=eC (show p.bd≠[]from λe=>by rw[e]at hk;cases hk);unfold wO at N;unfold NL at X|-;clear y hp u W al;simp only at X|-;by_cases ht:(t≠23/\t≠24)\/n≠0
 .rw[eI ht];generalize p.bd.length=m2 at*;generalize p.vs.length=m1 at*;generalize p.pa=pa at*;rcases(show((t≠23/\t≠24))\/((t=23\/t=24)/\n≠0) by omega)with⟨J,M⟩|⟨J|J,M⟩
  .have e1:(t !=23)=true:=by simpa using J
   have e2:(t !=24)=true:=by simpa using M
   clear ht J M;go_enter func260,ntmps260;go_wp2_with(first|(rw[N])|(go_at_call 292;refine X.mono ?_;rintro e B⟨rfl,D⟩;obtain⟨d0,d1,d2,d3,d4⟩:=O B D;have ap:(w:Nat)<(B:Nat):=(by have:=HZ.out;have:=D.size;omega);replace D:=eC D));go_ret;exact⟨⟨_,rfl,eD.nil _ _ _ _⟩,fC Y D⟩
  all_goals
   subst J;have e3:(n !=0)=true:=by simpa using M
   clear ht M;go_enter func260,ntmps260;go_wp2_with(first|(rw[N])|(go_at_call 292;refine X.mono ?_;rintro e B⟨rfl,D⟩;obtain⟨d0,d1,d2,d3,d4⟩:=O B D;have ap:(w:Nat)<(B:Nat):=(by have:=HZ.out;have:=D.size;omega);replace D:=eC D));go_ret;exact⟨⟨_,rfl,eD.nil _ _ _ _⟩,fC Y D⟩
 .rw[eE ht];have J:t=23\/t=24:=zO;obtain rfl:n=0:=zO;have ao:=ai J;obtain⟨j,ab,rfl⟩:∃j ab,f=some ⟨j,ab,none⟩:=by
   obtain h|⟨b,o,h,_⟩:=ac V (iL _ _)
   .exact absurd h aj
   .exact⟨b,o,h⟩
  have CC:=eC (λU(h:Bl V U)=>JI j ab Z p.bd U (ac U h) (by omega));have CI:=eC (λbase g ak vb U(S:eD kP 54 base U (aA (some ⟨g,0,none⟩) p.bd.length ak) p.bd)(W:U.heap[vb]?=some (aK #[aC aP 6,aC aP 0] 54 (0,0)))(aw:vb≠g)=>V7 base g p.bd.length ak vb (k+1) p.bd (6,0) U S W aw ao rfl (by omega));rw[show((k+1:Nat):Int)=(k:Int)+1 by omega]at CI;have B:aP.wrap ((k:Int)+1)=(k:Int)+1:=by rw[iA];omega
  clear ac ai ht ao;generalize u:p.bd.take (k+1)++[(6,0)]++p.bd.drop (k+1)=R at*;clear u;generalize af:p.bd.length=m2 at*;replace af:=eC af;generalize p.bd=bd at*;generalize p.vs.length=m1 at*;generalize p.pa=pa at*;obtain rfl|rfl:=J
  all_goals
   go_enter func260,ntmps260;go_wp2_with(first|(rw[N])|(go_at_call 292;refine X.mono ?_;rintro e B⟨rfl,D⟩;obtain⟨d0,d1,d2,d3,d4⟩:=O B D;have ap:(w:Nat)<(B:Nat):=(by have:=HZ.out;have:=D.size;omega);replace D:=eC D));have s2:∀U,Bl B U->U.cell? ⟨w,2,none⟩=some (aA (some ⟨j,ab,none⟩) m2 Z):=λU h=>(O U (fC D h)).2.2.1;have s3:∀U,Bl B U->U.cell? ⟨w,3,none⟩=some (aC aP k):=λU h=>(O U (fC D h)).2.2.2.1;have aq:=eC (λU(h:Bl B U)=>(CC U (fC D h)).mono λe w' hq=>show(∃g c,e=aO (aA (some ⟨g,0,none⟩) m2 c)/\eD kP 54 B w' (aA (some ⟨g,0,none⟩) m2 c) bd/\U.heap.size<=g/\g<(w':Nat))/\Bl U w' by
    obtain⟨⟨v,rfl,S⟩,hb⟩:=hq
    obtain⟨a,c,rfl,_,M,_⟩:=fV S
    obtain⟨g,rfl⟩:=M aj
    rw[af]at S|-
    exact⟨⟨g,c,rfl,S.mono h.size,S.lt g rfl⟩,hb⟩);have ay:=jX B;have ag:(B.alloc (aK #[aC aP 6,aC aP 0] 54)).heap[(B:Nat)]?=some (aK #[aC aP 6,aC aP 0] 54 (0,0)):=fG B _;have ah:(B.alloc (aK #[aC aP 6,aC aP 0] 54)).heap.size=(B:Nat)+1:=fO _ _;replace ag:=eC ag;replace ah:=eC ah;go_region_held_law(λU=>Bl B U) (first|(with_reducible assumption)|go_grown) (first
    |(go_at_call 296;refine(aq _ (by first|(with_reducible assumption)|go_grown)).mono ?_;rintro e4 w4⟨⟨g4,c4,rfl,aa,ae,av⟩,am⟩;obtain⟨az,a0⟩:=oO (by first|(with_reducible assumption)|go_grown) am;replace aa:=eC aa;replace ae:=eC ae)
    |(go_at_call 295;refine(CI (B:Nat) g4 c4 _ _ (by first|exact aa|exact aa.later (fL _ _)) (by first|exact fG w4 _|exact(am.block _ (by have:=ah.out;simp)).trans ag) (by first|exact Nat.ne_of_gt av|(have:=ae.out;simp at this;omega))).mono ?_;rintro e5 w5⟨⟨v5,rfl,ax⟩,au⟩;have ar:Bl B w5:=(by refine Below.trans ?_ au;first|(with_reducible assumption)|go_grown)))
   all_goals go_wp2;go_ret;exact⟨⟨_,rfl,ax.mono (fA Y.size D.size)⟩,Y.trans ((fC D ar).mono Y.size)⟩
theorem eQ{fn:Func}{p q:Tmp}{i:aX}(h:fn.results=#[.cell p i,.tmp q])(e:Array aT)(w:aS)(g:Nat)(t:aX)(f:Array aT)(j:Nat×Nat)(d:TypeDesc)(v:aT)
  (n:e.getD p aY=qP g 0)(k:w.heap[g]?=some (aK f t j))
  (u:P.underlying i=some d)(hd:(match d with|.struct _|.array _ _=>true|_=>false)=true)(m:(P.info? i).map (·.size)=some f.size)(hq:e.getD q aY=v):
  (results fn e).run P w=.ok (aF #[aH f,v]) w:=by
 have r:e[p]?.getD aY=qP g 0:=by simpa using n
 have s:e[q]?.getD aY=v:=by simpa using hq
 simp[results,h,r,s,asAddr,run_loadVar_row w g t i f j d k u hd m]
def oL(h:Nat)(q:Pg)(j:Nat)(w':aS)(e:Ending):Prop:=∃f i d g,e=aO (aF #[kE f d i g q,aC aP j])/\iE w' f d i g q/\(∀ad,f=some ad->q.vs≠[]->h<=ad.block)/\∀ad,d=some ad->q.bd≠[]->h<=ad.block
theorem JT{α:Type}{K:lL α}{E:aX}{L:List α}(h:eD K E n w v L):∃a c,v=aA a L.length c/\eS K w a L/\L.length<=c/\c<=aZ:=by
 obtain⟨a,c,rfl,e,_⟩:=h.ls;obtain⟨ah,h1,h2⟩:=h;obtain⟨d,h0⟩|⟨g,ac,ae,d,hb,hg,ab,aa,af,ag⟩:=h2.2
 .simp only[Value.slice.injEq]at d;obtain⟨rfl,_,rfl⟩:=d;exact⟨none,0,rfl,e,zO,by unfold aZ;omega⟩
 .cases d;exact⟨_,_,rfl,e,ab,aa⟩
theorem aD5{α:Type}{K:lL α}{E:aX}{m c:Nat}{a:Option Addr}{L:List α}(h:eD K E n w (aA a m c) L){ad:Addr}(e:a=some ad):n<=ad.block:=by obtain⟨a',c',hv,_,h2⟩:=h.ls;cases hv;exact(h2 _ e).1
theorem NI{x z a:aT}{t:aX}(h:w.heap[b]?=some (aK #[x,y,z] t (0,0))):(qS (qS (qS w (b,0) a) (b,1) c) (b,2) d).heap[b]?=some (aK #[a,c,d] t (0,0)):=by have e:=iB w b 0 _ _ a h;have f:=iB _ b 1 _ _ c e;exact iB _ b 2 _ _ d f
theorem rC{u:aS}{a:aT}(h:aV n u w)(e:n<=b):aV n u (qS (qS (qS w (b,0) a) (b,1) c) (b,2) d):=((h.setCell e _).setCell e _).setCell e _
theorem LU(h:aV w.drew.heap.size w.drew w'):Bl w w':=⟨h.os,h.tape,h.output,h.size,h.block⟩
def aGf:List aT:=[.nilFunc,aD (bC 255) #[] #[],aD (bC 256) #[] #[],aD (bC 257) #[] #[],aD (bC 258) #[] #[],aD (bC 259) #[] #[],aD (bC 260) #[] #[],aD (bC 261) #[] #[]]
theorem aD7{m:Nat}(e:1<=m)(g:m<8):∃f,aGf[m]?=some (aD (bC f) #[] #[])/\(∀d w,(callFunc f d).run prog w=.ok (.enter f d) w)/\Q7 m f:=by
 match m,e,g with
 |1,_,_=>exact⟨_,rfl,l8 func255 zK rfl,aBB⟩
 |2,_,_=>exact⟨_,rfl,l8 func256 zK rfl,aGd⟩
 |3,_,_=>exact⟨_,rfl,l8 func257 zK rfl,aAY⟩
 |4,_,_=>exact⟨_,rfl,l8 func258 zK rfl,QR⟩
 |5,_,_=>exact⟨_,rfl,l8 func259 zK rfl,WT⟩
 |6,_,_=>exact⟨_,rfl,l8 func260 zK rfl,XN⟩
 |7,_,_=>exact⟨_,rfl,l8 func261 zK rfl,VO⟩
theorem OD{l:List Nd}:∀{f:List Int}{k e q:Nat},iD l k=some e->pG l k f=some q->q<l.length
 |[],k,e,q,he,h=>by
  simp only[pG,Option.some.injEq]at h
  subst h
  have:=jW he
  omega
 |n::r,k,e,q,he,h=>by
  simp only[pG]at h
  split at h
  .cases h
  .split at h
   .cases h
   .rename_i g hq
    obtain⟨_,i,d,_⟩:=oT he g (iG hq)
    exact OD d h
theorem KS{o3:Obj}(n:(((w.alloc o0).alloc o1).alloc o2).alloc o3=V):V.heap[(w:Nat)]?=some o0/\V.heap[(w:Nat)+1]?=some o1/\V.heap[(w:Nat)+1+1]?=some o2/\V.heap[(w:Nat)+1+1+1]?=some o3/\Bl w V/\V=(w:Nat)+1+1+1+1:=by
 have g:(w.alloc o0).heap.size=w+1:=fO _ _;have j:((w.alloc o0).alloc o1).heap.size=w+1+1:=by rw[fO,g]
 have m:(((w.alloc o0).alloc o1).alloc o2).heap.size=w+1+1+1:=by rw[fO,j]
 have q:=fG w o0;have d:=fG (w.alloc o0) o1;have e:=fG ((w.alloc o0).alloc o1) o2;have f:=fG (((w.alloc o0).alloc o1).alloc o2) o3;rw[g]at d;rw[j]at e;rw[m]at f;have k:∀(u:aS)(o:Obj)(i:Nat),i<u->(u.alloc o).heap[i]?=u.heap[i]?:=λu o i h=>heap_alloc_old u o h;subst n;refine⟨?_,?_,?_,f,?_,by rw[fO,m]⟩
 .rw[k _ _ _ zO,k _ _ _ zO,k _ _ _ zO];exact q
 .rw[k _ _ _ zO,k _ _ _ zO];exact d
 .rw[k _ _ _ zO];exact e
 .exact(((fL w _).alloc zO _).alloc zO _).alloc zO _
theorem aB0(x ba pd:Option Addr)(y bc cd:Nat)(p:Pg)(d:Dl)(w:aS)(hp:iE w x ba y bc p)(hd:eS kI w pd d.path)(ag:nL p.bd=0)(hv:p.vs.length<=1000)(am:d.path.length<=1000000):
  qK 206 #[kE x ba y bc p,GL pd cd d] w λe w'=>oL w (o8 p d).1 (o8 p d).2 w' e/\Bl w w':=by
 obtain⟨R,j⟩:∃R:aS->Ending->Prop,oL w (o8 p d).1 (o8 p d).2=R:=⟨_,rfl⟩;rw[j];obtain⟨ao,au,ab⟩:=AH ag;obtain⟨V,hV⟩:=eR ((((w.alloc (aK #[p.pa,aA x p.vs.length y,aA ba p.bd.length bc] 25)).alloc (aK #[aA pd d.path.length cd,d.op,qI d.n] 38)).alloc (aK #[qI 0,qN,qN] 25)).alloc (aK aGf.toArray 393));obtain⟨h0,h1,h2,h3,ai,bk⟩:=KS hV;unfold aGf at hV;have av:=hp.later ai;have bb:=hd.later ai;have X:=eC (aBb ba pd bc cd p.bd d.path V av.2.1 bb zO am ab);have O:=eC (λU(h:Bl V U)=>show(qC U w 0 p.pa/\qC U w 1 (aA x p.vs.length y)/\qC U w 2 (aA ba p.bd.length bc))/\
   (qC U ((w:Nat)+1) 0 (aA pd d.path.length cd)/\qC U ((w:Nat)+1) 1 d.op/\qC U ((w:Nat)+1) 2 (qI d.n))/\
   (qB U ((w:Nat)+1+1) #[qI 0,qN,qN] 25)/\(∀(m:Nat)v,aGf[m]?=some v->U.cell? ((w:Nat)+1+1+1,m)=some v)by
  have e0:=(h.block _ zO).trans h0
  have e1:=(h.block _ zO).trans h1
  have e2:=(h.block _ zO).trans h2
  have e3:=(h.block _ zO).trans h3
  exact⟨(pX e0),(pX e1),e2,λm v hm=>(kG U _ m _ _ _ e3).trans (by simpa using hm)⟩);have Y:=eC (λ(U:aS)(h:Bl V U)(a c d':aT)=>show qB (qS (qS (qS U ((w:Nat)+1+1,0) a) ((w:Nat)+1+1,1) c) ((w:Nat)+1+1,2) d') ((w:Nat)+1+1) #[a,c,d'] 25/\Bl w (qS (qS (qS U ((w:Nat)+1+1,0) a) ((w:Nat)+1+1,1) c) ((w:Nat)+1+1,2) d')from
  ⟨NI ((h.block _ zO).trans h2),rC (fC ai h) zO⟩);have ak:=eC (λ(er:Nat)(w':aS)=>show oL w mQ er w' (aO (aF #[aH #[qI 0,qN,qN],qI er]))from⟨none,0,none,0,rfl,⟨.inl rfl,.inl rfl,eX _,by unfold aZ;omega,eX _,by unfold aZ;omega⟩,λad e=>(by cases e),λad e=>(by cases e)⟩);have HZ:=eC bk;have HB:=eC ai;obtain⟨⟨a0,a1,a2⟩,⟨b0,b1,b2⟩,r0,_⟩:=O.out V (iL _ _);have ae:=eC av;unfold kE GL;have aq:=eC ab;clear h0 h1 h2 h3 ai bk av bb hd hp;cases hf:OH p.bd d.path with
 |none=>have N:Hid (oL w mQ 16=R):=eC (by rw[<-j];unfold o8;rw[hf]);rw[hf]at X;unfold aI9 at X;simp only at X;clear hf j ag ao au ab am hv aq ae;generalize p.bd.length=bl at*;generalize p.vs.length=vl at*;generalize p.pa=pa at*;generalize d.path.length=dl at*;go_enter func206,ntmps206;go_wp2_with(go_at_call 262;refine X.out.mono ?_;rintro e B⟨rfl,D⟩;obtain⟨_,_,J,_⟩:=O.out B D;have f0:=g8 B _ 0 _ _ J;have f1:=g8 B _ 1 _ _ J;have f2:=g8 B _ 2 _ _ J;obtain⟨g0,g1,g2⟩:=pX J;replace J:=eC J;replace D:=eC D);exact gO (eQ rfl _ _ ((w:Nat)+1+1) 25 _ (0,0) _ _ rfl (Y.out B D.out _ _ _).1 underlying25 rfl zK rfl) rfl ⟨by rw[<-N.out];exact ak.out 16 _,(Y.out B D.out _ _ _).2⟩
 |some k=>
  have ar:k<p.bd.length:=by
   unfold OH at hf;split at hf
   .cases hf
   .exact OD ab hf
  have N:o8 p d=if d.op<1\/8<=d.op then(mQ,17)else if iH d.op p.bd k d.n=[]then(mQ,17)else(⟨p.pa,p.vs,iH d.op p.bd k d.n⟩,0):=by unfold o8;rw[hf]
  rw[hf]at X;unfold aI9 at X;simp only at X;have dk:decide ((k:Int)<0)=false:=by simp
  by_cases hop:d.op<1\/8<=d.op
  .rw[eI hop]at N;replace N:Hid (oL w mQ 17=R):=eC (by rw[<-j,N]);clear hf j ag ao au ab am hv aq ae ar;generalize p.bd.length=bl at*;generalize p.vs.length=vl at*;generalize p.pa=pa at*;generalize d.path.length=dl at*;rcases(show d.op<1\/(¬d.op<1/\8<=d.op)from zO)with ho|⟨hn,ho⟩
   .have q1:decide (d.op<1)=true:=by simpa using ho
    clear hop ho;go_enter func206,ntmps206;go_wp2_with(go_at_call 262;refine X.out.mono ?_;rintro e B⟨rfl,D⟩;obtain⟨⟨a3,a4,a5⟩,⟨b3,b4,b5⟩,J,_⟩:=O.out B D;have f0:=g8 B _ 0 _ _ J;have f1:=g8 B _ 1 _ _ J;have f2:=g8 B _ 2 _ _ J;obtain⟨g0,g1,g2⟩:=pX J;replace J:=eC J;replace D:=eC D);exact gO (eQ rfl _ _ ((w:Nat)+1+1) 25 _ (0,0) _ _ rfl (Y.out B D.out _ _ _).1 underlying25 rfl zK rfl) rfl ⟨by rw[<-N.out];exact ak.out 17 _,(Y.out B D.out _ _ _).2⟩
   .have q1:decide (d.op<1)=false:=by simpa using hn
    have q2:decide (8<=d.op)=true:=by simpa using ho
    clear hop ho hn;go_enter func206,ntmps206;go_wp2_with(go_at_call 262;refine X.out.mono ?_;rintro e B⟨rfl,D⟩;obtain⟨⟨a3,a4,a5⟩,⟨b3,b4,b5⟩,J,_⟩:=O.out B D;have f0:=g8 B _ 0 _ _ J;have f1:=g8 B _ 1 _ _ J;have f2:=g8 B _ 2 _ _ J;obtain⟨g0,g1,g2⟩:=pX J;replace J:=eC J;replace D:=eC D);exact gO (eQ rfl _ _ ((w:Nat)+1+1) 25 _ (0,0) _ _ rfl (Y.out B D.out _ _ _).1 underlying25 rfl zK rfl) rfl ⟨by rw[<-N.out];exact ak.out 17 _,(Y.out B D.out _ _ _).2⟩
  .rw[eE hop]at N;obtain⟨S,bh⟩:∃S:Nat,d.op=S:=⟨d.op.toNat,zO⟩;obtain⟨f,bd,al,bf⟩:=aD7 (m:=S) zO zO;have bz:S<8:=zO;have bx:1<=S:=zO;rw[bh]at N b1 O;have CH:=eC (λU(h:Bl V U)=>bf x ba y bc p k d.n U (ae.out.later h) ar zO ag);have CV:=eC (λU(h:Bl V U)=>MZ x y p.vs U (ae.out.later h).1 hv);have q1:decide ((S:Int)<1)=false:=zT;have q2:decide ((8:Int)<=(S:Int))=false:=zT;have be:=eC al;have aw:=eC bd;replace N:Hid ((iH (S:Int) p.bd k d.n=[]->oL w mQ 17=R)/\(iH (S:Int) p.bd k d.n≠[]->oL w ⟨p.pa,p.vs,iH (S:Int) p.bd k d.n⟩ 0=R)):=eC ⟨λh=>by rw[<-j,N,eI h],λh=>by rw[<-j,N,eE h]⟩;clear hf j ag ao au ab am hv aq ae ar hop bd bf bh;unfold NL at CH;generalize iH (S:Int) p.bd k d.n=L at*;generalize a8:p.bd.length=bl at*;generalize aj:p.vs.length=vl at*;replace a8:=eC a8;replace aj:=eC aj;generalize d.path.length=dl at*;go_enter func206,ntmps206;go_wp2_with(go_at_call 262;refine X.out.mono ?_;rintro e B⟨rfl,D⟩;obtain⟨⟨a3,a4,a5⟩,⟨b3,b4,b5⟩,J,_⟩:=O.out B D;have f0:=g8 B _ 0 _ _ J;have f1:=g8 B _ 1 _ _ J;have f2:=g8 B _ 2 _ _ J;obtain⟨g0,g1,g2⟩:=pX J;replace J:=eC J;replace D:=eC D);have z1:=HZ.out;have zb:=D.out.size;have l0:∀U,Bl B U->qC U w 0 p.pa:=λU h=>(O.out U (fC D h)).1.1;have l1:∀U,Bl B U->qC U w 1 (aA x vl y):=λU h=>(O.out U (fC D h)).1.2.1;have l2:∀U,Bl B U->qC U w 2 (aA ba bl bc):=λU h=>(O.out U (fC D h)).1.2.2;have l3:∀U,Bl B U->qC U ((w:Nat)+1) 1 (qI S):=λU h=>(O.out U (fC D h)).2.1.2.1;have l4:∀U,Bl B U->qC U ((w:Nat)+1) 2 (qI d.n):=λU h=>(O.out U (fC D h)).2.1.2.2;have l5:∀U,Bl B U->qC U ((w:Nat)+1+1+1) S (aD (bC f) #[] #[]):=λU h=>(O.out U (fC D h)).2.2.2 S _ aw.out;have a7:=jX B;have al:=be.out;replace z1:=eC z1;replace zb:=eC zb;clear a0 a1 a2 b0 b1 b2 r0 a3 a4 a5 b3 b4 b5 f0 f1 f2 g0 g1 g2 be aw;by_cases hL:L=[]
   .subst hL;replace N:=eC (N.out.1 rfl);go_region_held_law(λU=>Bl B U) (first|(with_reducible assumption)|go_grown) (((with_reducible refine(CH.out _ (D.out.trans (Below.mono (by first|(with_reducible assumption)|go_grown) D.out.size))).mono ?_);rintro e2 M⟨⟨v2,rfl,ac⟩,ah⟩;obtain⟨a2,c2,rfl,_⟩:=JT ac;have af:Bl B M:=Below.trans (by first|(with_reducible assumption)|go_grown) (show aV B _ M from ah)));have W:=mG D af;obtain⟨_,_,u,_⟩:=O.out M W.out;have f0:=g8 M _ 0 _ _ u;have f1:=g8 M _ 1 _ _ u;have f2:=g8 M _ 2 _ _ u;obtain⟨g0,g1,g2⟩:=pX u;clear u ac ah af l0 l1 l2 l3 l4 l5 a7 al;go_wp2;exact gO (eQ rfl _ _ ((w:Nat)+1+1) 25 _ (0,0) _ _ rfl (Y.out M W.out _ _ _).1 underlying25 rfl zK rfl) rfl ⟨by rw[<-N.out];exact ak.out 17 _,(Y.out M W.out _ _ _).2⟩
   .replace N:=eC (N.out.2 hL);have bu:((L.length:Int)==0)=false:=by have:L.length≠0:=λh=>hL (List.eq_nil_of_length_eq_zero h);simpa using this
    clear hL;go_region_held_law(λU=>Bl B U) (first|(with_reducible assumption)|go_grown) (((with_reducible refine(CH.out _ (D.out.trans (Below.mono (by first|(with_reducible assumption)|go_grown) D.out.size))).mono ?_);rintro e2 M⟨⟨v2,rfl,ac⟩,ah⟩;obtain⟨a2,c2,rfl,bi,bq,br⟩:=JT ac;have ax:=eC (λad(e:a2=some ad)=>show(B:Nat)<=ad.block from aD5 ac e);have af:Bl B M:=Below.trans (by first|(with_reducible assumption)|go_grown) (show aV B _ M from ah)));have W:=mG D af;obtain⟨_,_,u,_⟩:=O.out M W.out;have s0:∀U,eN ((w:Nat)+1+1) M U->qC U w 0 p.pa:=λU h=>(lA (w:=M) (a:=(w,0)) (h.block _ (by have:=W.out.size;have:=HZ.out;simp only;omega) (by simp only;omega))).trans (O.out M W.out).1.1;have s1:∀U,eN ((w:Nat)+1+1) M U->qC U w 1 (aA x vl y):=λU h=>(lA (w:=M) (a:=(w,1)) (h.block _ (by have:=W.out.size;have:=HZ.out;simp only;omega) (by simp only;omega))).trans (O.out M W.out).1.2.1;have bw:eN ((w:Nat)+1+1) M M.drew:=(eN.refl _ _).drew;have bp:=eC u;have bo:=eC bi;have bm:=eC (CV.out M.drew (wR W.out));have ap:=eC (show w+1+1<(M:Nat) by have:=W.out.size;have:=HZ.out;omega);clear u ac ah af bi l0 l1 l2 l3 l4 l5 a7 al;go_wp2;go_region_held_law(λU=>eN ((w:Nat)+1+1) M U) (first|(with_reducible assumption)|exact((az.out.setCell _ _).setCell _ _).setCell _ _) ((go_at_call 263;refine bm.out.mono ?_;rintro e3 Z⟨v3,rfl,bg,a6⟩;have aa:=LU a6;clear a6;obtain⟨a3,c3,rfl,bs,bj,bt⟩:=JT bg;have ay:=eC (λad(e:a3=some ad)=>show(M:Nat)<=ad.block from aD5 bg e);rw[aj.out]at bj|-;have az:Hid (eN ((w:Nat)+1+1) M Z):=eC (Below.only aa);have bv:=az.out;have r3:=(aa.block _ ap.out).trans bp.out;have f0:=g8 Z _ 0 _ _ r3;have f1:=g8 Z _ 1 _ _ r3;have f2:=g8 Z _ 2 _ _ r3;obtain⟨g0,g1,g2⟩:=pX r3;replace r3:=eC r3;replace aa:=eC aa));have aL:=mG W aa.out;have bn:=eC (λw'(h:eN ((w:Nat)+1+1) Z w')=>show R w' (aO (aF #[aH #[p.pa,aA a3 vl c3,aA a2 L.length c2],qI 0]))by
     have hw:∀(b:Nat),b<Z->b≠w+1+1->w'.heap[b]?=Z.heap[b]?:=λb h1 h2=>h.block b h1 h2
     rw[<-N.out,<-aj.out]
     refine⟨a3,c3,a2,c2,rfl,⟨?_,?_,by rw[aj.out];exact bj,bt,bq,br⟩,λad e _=>(by have:=ay.out ad e;have:=ap.out;omega),λad e _=>(by have:=ax.out ad e;have:=zb.out;have:=HZ.out;omega)⟩
     .exact(lH bs h.size λad e ao hl=>hw _ hl (by have:=ay.out ad e;have:=ap.out;omega))
     .exact nG.2 bo.out|>.later aa.out|>.kept h.size λad e hl=>hw _ hl (by have:=ax.out ad e;have:=zb.out;have:=HZ.out;omega));go_wp2;exact gO (eQ rfl _ _ ((w:Nat)+1+1) 25 _ (0,0) _ _ rfl (Y.out Z aL.out _ _ _).1 underlying25 rfl zK rfl) rfl ⟨bn.out _ ((((eN.refl _ _).setCell _ _).setCell _ _).setCell _ _),(Y.out Z aL.out _ _ _).2⟩
def aBs(p:Pg)(d:Dl)(w:aS)(e:Ending)(w':aS):Prop:=oL (w:Nat) (jA p d).1 (jA p d).2 w' e/\aV (w:Nat) w w'
theorem SX(f d:Nat)(w':aS):oL f mQ d w' (aO (aF #[aH #[qI 0,qN,qN],qI d])):=⟨none,0,none,0,rfl,⟨.inl rfl,.inl rfl,eX _,by unfold aZ;omega,eX _,by unfold aZ;omega⟩,λad e=>(by cases e),λad e=>(by cases e)⟩
theorem B0(j:((w.alloc o0).alloc o1).alloc o2=V):V.heap[(w:Nat)]?=some o0/\V.heap[(w:Nat)+1]?=some o1/\V.heap[(w:Nat)+1+1]?=some o2/\Bl w V/\V=(w:Nat)+1+1+1:=by
 obtain⟨e,f,g,_,d,q⟩:=KS (w:=w) (o0:=o0) (o1:=o1) (o2:=o2) (o3:=o2) rfl;have n:V=(w:Nat)+1+1+1:=by rw[<-j,fO,fO,fO]
 rw[j]at e f g d;have k:∀i,i<(V:Nat)->(V.alloc o2).heap[i]?=V.heap[i]?:=λi h=>heap_alloc_old V o2 h;exact⟨(k _ zO).symm.trans e,(k _ zO).symm.trans f,(k _ zO).symm.trans g,⟨d.os,d.tape,d.output,zO,λi m=>(k _ zO).symm.trans (d.block i m)⟩,n⟩
theorem I5(p:Pg):∀x∈fH p,x.path.length<=p.bd.length:=by intro x d;simp only[fH,List.mem_flatMap,List.mem_map]at d;obtain⟨k,_,c,_,rfl⟩:=d;exact YV _ _
theorem eL{α:Type}{K:lL α}{E:aX}{L:List α}(h:eD K E n w v L):∃a c,v=aA a L.length c/\eS K w a L:=by obtain⟨a,c,h1,h2,_⟩:=h.ls;exact⟨a,c,h1,h2⟩
theorem JO(va y pd:Option Addr)(vc bc cd:Nat)(p:Pg)(d:Dl)(w:aS)(hp:iE w va y vc bc p)(hd:eS kI w pd d.path)(hv:p.vs.length<=1000)(hm:p.bd.length<=100000)(ae:d.path.length<=1000000):
  qK 154 #[kE va y vc bc p,GL pd cd d] w (aBs p d w):=by
 obtain⟨V,hV⟩:=eR (((w.alloc (aK #[p.pa,aA va p.vs.length vc,aA y p.bd.length bc] 25)).alloc (aK #[aA pd d.path.length cd,d.op,qI d.n] 38)).alloc (aK #[qI 0,qN,qN] 25));obtain⟨h0,O,N,ab,aw⟩:=B0 hV;have ap:=hp.later ab;have av:=hd.later ab;have CA:=eC (II va y vc bc p V ap zO hm);have X:=eC (λU(h:Bl V U)=>show(qC U w 0 p.pa/\qC U w 1 (aA va p.vs.length vc)/\qC U w 2 (aA y p.bd.length bc))/\
   (qC U ((w:Nat)+1) 0 (aA pd d.path.length cd)/\qC U ((w:Nat)+1) 1 d.op/\qC U ((w:Nat)+1) 2 (qI d.n))/\
   (U.heap[(w:Nat)+1+1]?=some (aK #[qI 0,qN,qN] 25 (0,0)))by
  have e0:=(h.block _ zO).trans h0
  have e1:=(h.block _ zO).trans O
  have e2:=(h.block _ zO).trans N
  exact⟨(pX e0),(pX e1),e2⟩);have u:=eC (λ(U:aS)(h:Bl V U)(a c d':aT)=>show qB (qS (qS (qS U ((w:Nat)+1+1,0) a) ((w:Nat)+1+1,1) c) ((w:Nat)+1+1,2) d') ((w:Nat)+1+1) #[a,c,d'] 25/\Bl w (qS (qS (qS U ((w:Nat)+1+1,0) a) ((w:Nat)+1+1,1) c) ((w:Nat)+1+1,2) d')from
  ⟨NI ((h.block _ zO).trans N),rC (fC ab h) zO⟩);have ay:=eC aw;have HB:=eC ab;have ai:=eC ap;have ac:=eC av;obtain⟨R,hR⟩:=eR (aBs p d w);rw[hR];obtain⟨⟨a0,a1,a2⟩,⟨b0,b1,b2⟩,r0⟩:=X V (iL _ _);clear h0 O N ab aw ap av hp hd;unfold kE GL;by_cases hk:gH p=0
 case neg=>
  have dk:((gH p:Int) !=0)=true:=by simpa using hk
  have S:Hid (∀w' e,oL w mQ (gH p) w' e->Bl w w'->R e w'):=eC (λw' e O N=>by rw[<-hR];unfold aBs jA;rw[eI hk];exact⟨O,N⟩);have aj:=eC (λw'=>SX w (gH p) w');clear hR hk;unfold aCe at CA;generalize LN p=L at*;generalize gH p=kc at*;unfold kE at CA;clear hm hv ae ai ac;generalize p.bd.length=bl at*;generalize p.vs.length=vl at*;generalize p.pa=pa at*;generalize d.path.length=dl at*;go_enter func154,ntmps154;go_wp2_with(go_at_call 72;refine CA.mono ?_;rintro e J⟨v1,rfl,f,D⟩;obtain⟨_,_,B⟩:=X J D;have f0:=g8 J _ 0 _ _ B;have f1:=g8 J _ 1 _ _ B;have f2:=g8 J _ 2 _ _ B;obtain⟨g0,g1,g2⟩:=pX B;replace B:=eC B;replace D:=eC D;clear f);exact gO (eQ rfl _ _ ((w:Nat)+1+1) 25 _ (0,0) _ _ rfl (u J D _ _ _).1 underlying25 rfl zK rfl) rfl (S _ _ (aj _) (u J D _ _ _).2)
 .obtain⟨ao,_,_,_⟩:=OV hk;obtain⟨Z,aL,az⟩:=AH ao;have dk:((gH p:Int) !=0)=false:=by rw[hk];rfl
  have hE:LN p=fH p:=by unfold LN;rw[eI hk]
  unfold aCe at CA;rw[hE,hk]at CA;have hM:jA p d=if mW (fH p) d ((fH p).length+1) 0 (fH p).length<0 then(mQ,17)else o8 p d:=by unfold jA;rw[eE zO]
  have a4:=TQ p;have CF:=eC (λU(h:Bl V U)pa ca(hl:eS kD U pa (fH p))=>N3 pa pd ca cd (fH p) d U hl (ac.later h) zO ae (λx hx=>by have:=I5 p x hx;omega));have CP:=eC (λU(h:Bl V U)=>aB0 va y pd vc bc cd p d U (ai.later h) (ac.later h) ao hv ae);have S:Hid ((mW (fH p) d ((fH p).length+1) 0 (fH p).length<0->∀w' e,oL w mQ 17 w' e->Bl w w'->R e w')/\(¬mW (fH p) d ((fH p).length+1) 0 (fH p).length<0->∀w' e,oL w (o8 p d).1 (o8 p d).2 w' e->Bl w w'->R e w')):=eC ⟨λh w' e O N=>by rw[<-hR];unfold aBs;rw[hM,eI h];exact⟨O,N⟩,λh w' e O N=>by rw[<-hR];unfold aBs;rw[hM,eE h];exact⟨O,N⟩⟩;have aj:=eC (λw'=>SX w 17 w');unfold kE at CA CP;unfold GL at CF CP;clear hR hk hM hE a4 ao Z aL az dk hm hv ae ai ac;generalize mW (fH p) d ((fH p).length+1) 0 (fH p).length=F at*;generalize fH p=L at*;generalize(o8 p d).1=q at*;generalize(o8 p d).2=er at*;generalize p.bd.length=bl at*;generalize p.vs.length=vl at*;generalize p.pa=pa at*;generalize d.path.length=dl at*;by_cases hF:F<0
  .replace S:=eC (S.1 hF);have dF:decide (F<0)=true:=by simpa using hF
   clear hF;go_enter func154,ntmps154;go_wp2_with(first|(go_at_call 72;refine CA.mono ?_;rintro e J⟨v1,rfl,f,D⟩;obtain⟨a3,c3,rfl,Y⟩:=eL f;obtain⟨_,⟨b3,b4,b5⟩,_⟩:=X J D;replace D:=eC D;have Y:=eC Y;clear f)|(go_at_call 84;refine(CF J D a3 c3 Y).mono ?_;rintro e M⟨rfl,aa⟩;have W:=mG D aa;obtain⟨_,_,B⟩:=X M W;have f0:=g8 M _ 0 _ _ B;have f1:=g8 M _ 1 _ _ B;have f2:=g8 M _ 2 _ _ B;obtain⟨g0,g1,g2⟩:=pX B;replace B:=eC B;clear aa));exact gO (eQ rfl _ _ ((w:Nat)+1+1) 25 _ (0,0) _ _ rfl (u M W _ _ _).1 underlying25 rfl zK rfl) rfl (S _ _ (aj _) (u M W _ _ _).2)
  .replace S:=eC (S.2 hF);have dF:decide (F<0)=false:=by simpa using hF
   clear hF;go_enter func154,ntmps154;go_wp2_with(first
    |(go_at_call 72;refine CA.mono ?_;rintro e J⟨v1,rfl,f,D⟩;obtain⟨a3,c3,rfl,Y⟩:=eL f;obtain⟨_,⟨b3,b4,b5⟩,_⟩:=X J D;replace D:=eC D;have Y:=eC Y;clear f)
    |(go_at_call 84;refine(CF J D a3 c3 Y).mono ?_;rintro e M⟨rfl,aa⟩;have W:=mG D aa;obtain⟨⟨e0,e1,e2⟩,⟨d0,d1,d2⟩,_⟩:=X M W;have ax:=eC (CP M W);clear aa)
    |(go_at_call 206;refine ax.mono ?_;rintro e j⟨⟨aq,ar,ak,al,rfl,hq,af,ag⟩,au⟩;unfold kE;have am:=mG W au;obtain⟨_,_,B⟩:=X j am;have f0:=g8 j _ 0 _ _ B;have f1:=g8 j _ 1 _ _ B;have f2:=g8 j _ 2 _ _ B;obtain⟨g0,g1,g2⟩:=pX B;replace B:=eC B;replace hq:=eC hq;replace af:=eC af;replace ag:=eC ag;clear au));have ah:Hid (∀ad:Addr,M<=ad.block->ad.block≠w+1+1/\w<=ad.block):=eC (λad h=>by have:=W.size;have:=ay.out;omega);have HF:=eC (λw'(h:eN ((w:Nat)+1+1) j w')(hb:Bl w w')=>show R (aO (aF #[aH #[q.pa,aA aq q.vs.length ar,aA ak q.bd.length al],qI er])) w' by
    refine S _ _ ⟨aq,ar,ak,al,rfl,⟨?_,?_,hq.2.2⟩,λad e Z=>(ah ad (af ad e Z)).2,λad e Z=>(ah ad (ag ad e Z)).2⟩ hb
    .exact lH hq.1 h.size λad e Z hl=>h.block _ hl (ah ad (af ad e Z)).1
    .by_cases hbn:q.bd=[]
     .exact .inl hbn
     .exact hq.2.1.kept h.size λad e hl=>h.block _ hl (ah ad (ag ad e hbn)).1);exact gO (eQ rfl _ _ ((w:Nat)+1+1) 25 _ (0,0) _ (qI er) rfl (u j am (qI q.pa) (aA aq q.vs.length ar) (aA ak q.bd.length al)).1 underlying25 rfl zK rfl) rfl (HF _ ((((eN.refl _ _).setCell _ _).setCell _ _).setCell _ _) (u j am _ _ _).2)
def aCJ(v:aT):Prop:=∃a n c,v=aA a n c
def kR:lL (aT×List Int) where
 k:=1
 R:=λ_ x e=>e=[x.1]/\aCJ x.1
 len:=λh=>by rw[h.1];rfl
 one:=fun{w x e}h u d=>by
  obtain⟨rfl,a,n,c,f⟩:=h
  simp at d
  rw[d,f];rfl
 tags:=λ_=>False
 on:=λh _=>h
def kF:lL (Fr×aT) where
 k:=3
 R:=λ_ x e=>e=[aC aP x.1.pos,aC aP x.1.kid,x.2]/\aCJ x.2
 len:=λh=>by rw[h.1];rfl
 one:=fun{w x e}h u d=>by
  obtain⟨rfl,a,n,c,f⟩:=h
  simp at d
  obtain rfl|rfl|rfl:=d
  .rfl
  .rfl
  .rw[f];rfl
 tags:=λ_=>False
 on:=λh _=>h
theorem eD.sl{α:Type}{K:lL α}{E:aX}{L:List α}(h:eD K E n w v L):aCJ v:=by obtain⟨a,c,rfl,_⟩:=fV h;exact⟨a,_,c,rfl⟩
structure gC where
 p:Pg
 F:Int
 n:Nat
 mb:Nat
 pr:Nat
 va:Option Addr
 vc:Nat
 ba:Option Addr
 bc:Nat
 ka:Option Addr
 kc:Nat
def l9(B:gC)(f d e ev:aT)(s:Ms):List aT:=
 [aC aP B.p.pa,aA B.va B.p.vs.length B.vc,aA B.ba B.p.bd.length B.bc,aA B.ka B.p.bd.length B.kc,f,d,aC aP B.F,e,aC aP s.out.1,aC aP s.out.2,aC aP s.st,ev,aG s.over,.map (some B.pr)]
structure MLs(B:gC)(w:aS)(s:Ms)(vv av sv ev:aT)(rows:List (aT×List Int))(frs:List (Fr×aT)):Prop where
 av:eD kR 22 B.n w av rows
 ar:rows.map (·.2)=s.ar
 sv:eD kF 326 B.n w sv frs.reverse
 sk:frs.map (·.1)=s.sk
 ev:eD kT 434 B.n w ev s.ev
 ints:sX 3 B.n w ((vv,s.vs)::rows++frs.map (λx=>(x.2,x.1.vals)))
def SS(f:Nat):aT:=aD (bC f) #[] #[]
def PV:List (Int×aT):=[(7,SS 297),(8,SS 298),(9,SS 299),(12,SS 300),(13,SS 302),(14,SS 303),(15,SS 304),(16,SS 305),(17,SS 306),(10,SS 307),(11,SS 308)]
def oW(p:Pg)(k:Nat):List Int:=(eO p.bd k).map λq:Nat=>(q:Int)
def lQ(B:gC)(k:Nat):Prop:=k=B.mb\/B.n<=k
structure IM(B:gC)(w:aS):Prop where
 mb:B.mb<B.n
 nw:B.n<=(w:Nat)
 body:eP w B.ba B.p.bd
 bodyn:∀ad,B.ba=some ad->B.p.bd≠[]->ad.block<B.n/\ad.block≠B.mb
 kids:∃b off,B.ka=some ⟨b,off,none⟩/\b<B.n/\b≠B.mb/\∀k,k<B.p.bd.length->∃a c,w.cell? ⟨b,off+k,none⟩=some (aA a (oW B.p k).length c)/\eS kI w a (oW B.p k)/\∀ad,a=some ad->oW B.p k≠[]->ad.block<B.n/\ad.block≠B.mb
 pairs:kK w B.pr PV
 prn:B.pr<B.n/\B.pr≠B.mb
theorem zQ{B:gC}(h:k<B.n/\k≠B.mb):¬lQ B k:=λhm=>by
 obtain hm|hm:=hm
 .exact h.2 hm
 .omega
theorem IM.chg{B:gC}(h:IM B w)(f:eZ (lQ B) w w'):IM B w':=by
 have d:∀k,k<B.n/\k≠B.mb->w'.heap[k]?=w.heap[k]?:=λk d=>f.block k (gV d.1 h.nw) (zQ d);refine⟨h.mb,fA h.nw f.size,?_,h.bodyn,?_,h.pairs.on (d _ h.prn),h.prn⟩
 .by_cases hb:B.p.bd=[]
  .exact .inl hb
  .exact h.body.kept f.size λad e _=>d _ (h.bodyn ad e hb)
 .obtain⟨b,m,r,i,j,s⟩:=h.kids;refine⟨b,m,r,i,j,λk u=>?_⟩;obtain⟨a,c,n,q,g⟩:=s k u;exact⟨a,c,(lA (w:=w) (a:=(b,m+k)) (d b ⟨i,j⟩)).trans n,lH q f.size λad e x _=>d _ (g ad e x),g⟩
theorem eW{α:Type}{K:lL α}{E:aX}{L:List α}(h:eD K E n w v L)(ht:∀t,¬K.tags t)(hk:∀k,n<=k->k<(w:Nat)->w'.heap[k]?=w.heap[k]?):eD K E n w' v L:=
 h.on (λk d=>hk k (h.lt k d).1 (h.lt k d).2) λx _ vs hv=>K.on hv λk aa t z _ h2=>absurd h2 (ht t)
theorem qU{E:aX}{d:List (aT×List Int)}(h:sX E n w d)(e:∀k,n<=k->k<(w:Nat)->w'.heap[k]?=w.heap[k]?):sX E n w' d:=
 ⟨λx f=>eW (h.own x f) (λ_ h=>h) e,h.apart⟩
theorem MLs.keep{B:gC}{d:Ms}{i:List (aT×List Int)}(h:MLs B w s m f j ev i g)(r:d.vs=s.vs)(n:d.ar=s.ar)(q:d.sk=s.sk)(he:d.ev=s.ev)
  (e:∀k,B.n<=k->k<(w:Nat)->w'.heap[k]?=w.heap[k]?):MLs B w' d m f j ev i g:=
 ⟨eW h.av (λ_ h=>h) e,by rw[n];exact h.ar,eW h.sv (λ_ h=>h) e,by rw[q];exact h.sk,by rw[he];exact eW h.ev (λ_ h=>h) e,by rw[r];exact qU h.ints e⟩
structure rA(B:gC)(w:aS)(s:Ms)(vv av sv ev:aT)(rows:List (aT×List Int))(frs:List (Fr×aT)):Prop where
 good:IM B w
 box:w.heap[B.mb]?=some (aK (l9 B vv av sv ev s).toArray 323 (0,0))
 ls:MLs B w s vv av sv ev rows frs
def MI(B:gC)(w:aS)(s:Ms):Prop:=∃h d g ev f e,rA B w s h d g ev f e
theorem rA.cells{B:gC}{k:List (aT×List Int)}(h:rA B w s f d e ev k g)(j:(l9 B f d e ev s)[i]?=some v):w.cell? (B.mb,i)=some v:=by rw[kG w B.mb i _ _ _ h.box];simpa using j
theorem rA.free{B:gC}{g:aT}{f:List (aT×List Int)}{e:List (Fr×aT)}(h:rA B w s j d g ev f e)(i:Nat):qF w B.mb i:=g8 w _ _ _ _ h.box
def xF(B:gC)(w:aS)(s:Ms)(w':aS):Prop:=MI B w' s/\eZ (lQ B) w w'
def JF(B:gC)(w:aS)(s:Ms)(e:Ending)(w':aS):Prop:=e=aO (aF #[])/\xF B w s w'
theorem eF(v:aT)(h:k≠b):(qS w (b,i) v).heap[k]?=w.heap[k]?:=pU w (b,i) v k h
theorem qV{d e:List aT}{t:aX}(v:aT)(h:w.heap[b]?=some (aK d.toArray t (0,0)))(he:d.set i v=e):(qS w (b,i) v).heap[b]?=some (aK e.toArray t (0,0)):=by have:=iB w b i _ _ v h;rw[this,<-he];simp
theorem pF{B:gC}(h:eZ (lQ B) w w')(i:Nat)(v:aT):eZ (lQ B) w (qS w' (B.mb,i) v):=h.set (.inl (.inl rfl)) v
theorem rA.stop{B:gC}{i:aT}{g:List (aT×List Int)}{e:List (Fr×aT)}(h:rA B w s j d i ev g e)(k v:Int):
  xF B w (j9 s k v) (qS (qS (qS w (B.mb,8) (qI k)) (B.mb,9) (qI v)) (B.mb,12) (aG true)):=by
 have f:eZ (lQ B) w (qS (qS (qS w (B.mb,8) (qI k)) (B.mb,9) (qI v)) (B.mb,12) (aG true)):=pF (pF (pF (eZ.refl _ _) _ _) _ _) _ _;refine⟨⟨j,d,i,ev,g,e,h.good.chg f,?_,h.ls.keep rfl rfl rfl rfl λk m n=>?_⟩,f⟩
 .exact qV _ (qV _ (qV _ h.box rfl) rfl) rfl
 .have:=h.good.mb;rw[eF _ zO,eF _ zO,eF _ zO]
def aJk(B:gC)(w:aS)(s:Ms)(e:Ending)(w':aS):Prop:=e=aO (aF #[])/\xF B w s w'/\eN B.mb w w'
theorem OE(B:gC)(s:Ms)(k v:Int)(w:aS)(h:MI B w s):qK 209 #[qP B.mb 0,qI k,qI v] w (aJk B w (j9 s k v)):=by obtain⟨X,M,W,ev,U,S,h⟩:=h;have D:=eC (show _/\eN B.mb w _ from⟨h.stop k v,(((eN.refl B.mb w).setCell 8 (qI k)).setCell 9 (qI v)).setCell 12 (aG true)⟩);have O:qC w B.mb 8 s.out.1:=h.cells rfl;have R:qC w B.mb 9 s.out.2:=h.cells rfl;have N:qC w B.mb 12 (aG s.over):=h.cells rfl;have f8:=h.free 8;have f9:=h.free 9;have f12:=h.free 12;clear h;generalize J:B.mb=mb at*;change Hid _ at J;go_enter func209,ntmps209;go_wp2;exact gO (iU rfl _ _ _) rfl ⟨rfl,D.1,by rw[J];exact D.2⟩
theorem DW(B:gC)(s:Ms)(k v:Int)(w:aS)(h:MI B w s):qK 209 #[qP B.mb 0,qI k,qI v] w (JF B w (j9 s k v)):=(OE B s k v w h).mono λ_ _ h=>⟨h.1,h.2.1⟩
theorem aGx:gY prog 320 326 3 40:=gY.of underlying320 zK zO zO
theorem aFy:gY prog 241 434 3 24:=gY.of underlying241 zK zO zO
theorem rA.drewN{B:gC}{w:aS}{s:Ms}{i d g ev:aT}{f:List (aT×List Int)}{e:List (Fr×aT)}(h:rA B w s i d g ev f e)(k:Nat):rA B (w.drewN k) s i d g ev f e:=
 ⟨h.good.chg ((eZ.refl _ w).drewN k),h.box,h.ls.keep rfl rfl rfl rfl λ_ _ _=>rfl⟩
theorem MI.drewN{B:gC}{w:aS}{s:Ms}(h:MI B w s)(k:Nat):MI B (w.drewN k) s:=by obtain⟨i,d,g,ev,f,e,h⟩:=h;exact⟨i,d,g,ev,f,e,h.drewN k⟩
theorem xF.of{B:gC}{d:aS}(h:xF B d s w')(e:eZ (lQ B) w d):xF B w s w':=⟨h.1,e.trans h.2⟩
theorem xF.drewN{B:gC}{w w':aS}{k:Nat}{s:Ms}(h:xF B (w.drewN k) s w'):xF B w s w':=h.of ((eZ.refl _ w).drewN k)
def pM(F:Int)(s:Ms):Prop:=s.sk.length+s.ev.length<=s.st/\(s.st:Int)<=F/\F<=10000
theorem MLs.far{B:gC}{i:aT}{e:List (aT×List Int)}(h:MLs B w s j f i ev e g)(d:w.grownBy w' i.ownBlock):
  eD kR 22 B.n w' f e/\eD kT 434 B.n w' ev s.ev/\sX 3 B.n w' ((j,s.vs)::e++g.map (λx=>(x.2,x.1.vals))):=
 ⟨gA h.av (λh=>h) h.sv zD d,gA h.ev (λh=>h) h.sv zD d,IL h.ints h.sv zD d⟩
theorem sX.nil_add{E:aX}{B:List (aT×List Int)}(h:sX E n w (A++B)):sX E n w (A++(aA none 0 0,[])::B):=by
 refine⟨λx d=>?_,?_⟩
 .obtain d|d:=wM.1 d
  .exact h.own x (by simp[d])
  .obtain rfl|d:=xD.1 d
   .exact eD.nil _ _ _ _
   .exact h.own x (by simp[d])
 .have e:=h.apart;rw[List.pairwise_append]at e|-;refine⟨e.1,List.pairwise_cons.2 ⟨λy _ k f=>(by cases f),e.2.1⟩,λx d y g=>?_⟩;obtain rfl|g:=xD.1 g
  .intro k _ f;cases f
  .exact e.2.2 x d y g
theorem rA.push{B:gC}{f d:aS}{g i x:aT}{j:List (Fr×aT)}(h:rA B w s g i u ev q j)(k:Nat)(o:Obj)
  (n:f=qS w (B.mb,10) (qI ((s.st:Int)+1)))(R:eD kF 326 B.n d x (j.reverse++[(⟨k,0,[]⟩,aA none 0 0)]))(y:(f.alloc o).grownBy d u.ownBlock):
  xF B w {s with st:=s.st+1,sk:=⟨k,0,[]⟩::s.sk} (qS d (B.mb,7) x):=by
 have Y:=h.good.mb;have Z:=h.good.nw;have M:eZ (lQ B) w f:=by rw[n];exact pF (eZ.refl _ _) _ _
 have N:∀k,k≠B.mb->f.heap[k]?=w.heap[k]?:=λk D=>by rw[n];exact eF _ D
 have U:f=(w:Nat):=by rw[n];simp
 have O:MLs B (f.alloc o) {s with st:=s.st+1} g i u ev q j:=h.ls.keep rfl rfl rfl rfl λk W X=>(iI _ _ _ zO).trans (N k zO);obtain⟨F,G,J⟩:=O.far y;have E:=h.ls.sv.lt;have C:eZ (lQ B) w d:=((M.alloc o).grown y λr S=>.inl (.inr (E r S).1));have K:f.heap[B.mb]?=some (aK (l9 B g i u ev {s with st:=s.st+1}).toArray 323 (0,0)):=by rw[n];exact qV _ h.box (by simp[l9])
 have L:d.heap[B.mb]?=_:=(y.block B.mb (by simp[U];omega) (λe=>by have:=(E _ e.symm).1;omega)).trans ((iI _ _ _ zO).trans K);have m:∀k,B.n<=k->k<(d:Nat)->(qS d (B.mb,7) x).heap[k]?=d.heap[k]?:=λk D _=>eF _ zO;refine⟨⟨g,i,x,ev,q,(⟨k,0,[]⟩,aA none 0 0)::j,h.good.chg (pF C _ _),qV _ L (by simp[l9]),?_⟩,pF C _ _⟩;refine⟨eW F (λ_ h=>h) m,h.ls.ar,by rw[List.reverse_cons];exact eW R (λ_ h=>h) m,by simp[h.ls.sk],eW G (λ_ h=>h) m,?_⟩;have:=sX.nil_add (A:=(g,s.vs)::q) (qU J m);simpa using this
theorem aKR(B:gC)(s:Ms)(k:Nat)(w:aS)(h:MI B w s)(hl:pM B.F s):qK 210 #[qP B.mb 0,qI k] w (JF B w (jQ B.F s k)):=by
 have y:=eC (λw'(hm:MI B w' s)=>DW B s 4 0 w' hm);obtain⟨vv,av,S,ev,al,X,h⟩:=h;have u:qC w B.mb 10 (qI s.st):=h.cells rfl;have c6:qC w B.mb 6 B.F:=h.cells rfl;have W:qC w B.mb 7 S:=h.cells rfl;have f7:=h.free 7;have f10:=h.free 10;have HM:=eC h;obtain⟨ab,ac,ae⟩:=hl;have ao:(s.st:Int)<=10000:=zO;have ak:Hid (X.reverse.length+1<=10000000):=eC (by
  have:=congrArg List.length h.ls.sk
  simp only[rN]at this
  rw[List.length_reverse]
  omega);by_cases hF:(s.st:Int)=B.F
 .have U:jQ B.F s k=j9 s 4 0:=by unfold jQ;rw[eI hF]
  rw[U];have d0:((s.st:Int)==B.F)=true:=by simpa using hF
  have HI:=eC (show MI B w s from⟨_,_,_,_,_,_,h⟩);clear h ab ac ae hF U;generalize B.mb=mb at*;go_enter func210,ntmps210;go_wp2;go_quiet (fail);go_wp2_with(go_at_call 209;refine(y _ (HI.drewN _)).mono ?_;rintro e w'⟨rfl,hm⟩;replace hm:=eC hm);exact gO (iU rfl _ _ _) rfl ⟨rfl,hm.drewN⟩
 .have U:jQ B.F s k={s with st:=s.st+1,sk:=⟨k,0,[]⟩::s.sk}:=by unfold jQ;rw[eE hF]
  rw[U];have d0:((s.st:Int)==B.F)=false:=by simpa using hF
  have w0:aP.wrap ((s.st:Int)+1)=(s.st:Int)+1:=by rw[iA];omega
  clear h ab ac ae hF U y;generalize ag:B.mb=mb at*;have O:=eC ag;clear ag;go_enter func210,ntmps210;go_wp2;go_quiet (fail);obtain⟨M,j⟩:=eR (w.drewN nq);rw[j];have D:rA B M s vv av S ev al X:=by rw[<-j];exact HM.drewN _
  have aa:eZ (lQ B) w M:=by rw[<-j];exact(eZ.refl _ w).drewN _
  clear j u c6 W f7 f10 HM;have u:qC M B.mb 10 (qI s.st):=D.cells rfl;have W:qC M B.mb 7 S:=D.cells rfl;have f7:=D.free 7;have f10:=D.free 10;have b1:=D.box;rw[O]at u W f7 f10;have af:Hid (mb<M):=eC (by have:=D.good.mb;have:=D.good.nw;have:=O.out;omega);obtain⟨J,R⟩:=eR (qS M (mb,10) (qI ((s.st:Int)+1)));have e7:J.cell? (mb,7)=some S:=by rw[<-R];exact(q9 _ (mb,10) (mb,7) _ zS).trans W
  have e8:J.frozen? (mb,7)=false:=by rw[<-R,World.frozen?_setCell];exact f7
  have N:=eC D;have ah:=eC aa;have ai:=eC R;clear D aa b1;have Y:=eC (show eD kF 326 B.n (J.alloc (aK #[qI k,qI 0,qN] 326)) S X.reverse/\J=(M:Nat)by
   have hz:J=(M:Nat):=by rw[<-R];simp
   refine⟨eW N.ls.sv (λ_ h=>h) λq D h2=>(iI _ _ _ zO).trans (by rw[<-R];exact eF _ (by have:=N.good.mb;have:=O.out;omega)),hz⟩);go_wp2_with(first|(rw[R])|(refine kN aGx rfl _ _ rfl B.n S X.reverse rfl Y.1 J (⟨k,0,[]⟩,aA none 0 0) [qI k,qI 0,qN] ⟨rfl,none,0,0,rfl⟩ rfl (eG.new _ _ _) ak (by have:=Y.2;have:=N.good.nw;simp;omega) (λh=>h) ?_;intro v5 w5 f Z aj;have x:w5.heap[mb]?=J.heap[mb]?:=(Z.block mb (by have:=Y.2;have:=af.out;simp;omega) (λe=>by have:=(N.ls.sv.lt _ e.symm).1;have:=N.good.mb;have:=O.out;omega)).trans (iI _ _ _ (by have:=Y.2;have:=af.out;omega));have q1:=(lA (w:=J) (a:=(mb,7)) x).trans e7;have q2:=(cO (w:=J) (a:=(mb,7)) x).trans e8;obtain⟨g5,am,rfl⟩:=f.form;replace f:=eC f;replace Z:=eC Z;clear x aj));have he:=N.push k _ (by rw[O];exact ai.symm) f Z;rw[O,List.length_reverse]at he;exact gO (iU rfl _ _ _) rfl ⟨rfl,he.of ah⟩
theorem MLs.top{B:gC}{L A:aT}{K:List (aT×List Int)}{f:Fr}{d:List (Fr×aT)}(h:MLs B w s L A y ev K ((f,e)::d)):
  ∃g k a m c,y=aA (some (qP g 0)) (d.length+1) k/\B.n<=g/\g<(w:Nat)/\e=aA a m c/\w.cell? (qP g (d.length*3))=some (qI f.pos)/\w.cell? (qP g (d.length*3+1))=some (qI f.kid)/\w.cell? (qP g (d.length*3+2))=some e/\(∀j,w.frozen? (qP g j)=false)/\eD kI 3 B.n w e f.vals:=by
 have r:=h.sv;rw[List.reverse_cons]at r;obtain⟨g,k,M,u,E,F,⟨rfl,a,m,c,D⟩,C,J⟩:=r.at (i:=d.length) (x:=(f,e)) (by rw[CQ zS];simp);have G:(d.reverse++[(f,e)]).length=d.length+1:=by simp
 rw[G]at u;have n:=eG.cons.1 C;have q:=eG.cons.1 n.2;have e3:=eG.one.1 q.2;exact⟨g,k,a,m,c,u,E,F,D,n.1,q.1,e3,J,h.ints.own (e,f.vals) zS⟩
theorem rA.setTop{B:gC}{q k:aT}{f f':Fr}{fv fv':aT}{d:List (Fr×aT)}{g j cap:Nat}
  (G:IM B w)(N:qB w B.mb (l9 B q k e ev s).toArray 323)
  (hav:eD kR 22 B.n w k A)(M:A.map (·.2)=s.ar)(n:eD kF 326 B.n w e (d.reverse++[(f,fv)]))(R:eD kT 434 B.n w ev s.ev)(S:sX 3 B.n w ((q,s.vs)::A++(fv',f'.vals)::d.map (λx=>(x.2,x.1.vals))))
  (E:d.map (·.1)=s'.sk.tail)(m:s'.sk.head?=some f')(X:s'.vs=s.vs)(Y:s'.ar=s.ar)(Z:s'.ev=s.ev)(aa:s'.out=s.out)(ab:s'.st=s.st)(ac:s'.over=s.over)
  (C:e=aA (some (g,0)) (d.length+1) cap)(U:j<3)(ae:([qI f.pos,qI f.kid,fv]:List aT).set j u=[qI f'.pos,qI f'.kid,fv'])(af:aCJ fv'):
  xF B w s' (qS w (g,d.length*3+j) u):=by
 have W:=n.lt g (by rw[C];rfl);obtain⟨J,L⟩:=n.set (i:=d.length) (j:=j) (g:=g) (x:=(f,fv)) (y:=(f',fv')) (u:=u) (λh=>h) (by rw[CQ zS];simp) (by rw[C];rfl) U (λvs hv=>by
  obtain⟨rfl,_⟩:=hv
  exact⟨ae,af⟩);have K:eD kF 326 B.n (qS w (g,d.length*3+j) u) e (d.reverse++[(f',fv')]):=by
  have:(d.reverse++[(f,fv)]).set d.length (f',fv')=d.reverse++[(f',fv')]:=by rw[List.set_append_right _ _ zS];simp
  rw[<-this];exact J
 have D:w.grownBy (qS w (g,d.length*3+j) u) e.ownBlock:=by rw[C];exact L
 have ag:=G.mb;have F:eZ (lQ B) w (qS w (g,d.length*3+j) u):=(eZ.refl _ w).set (.inl (.inr W.1)) _;have O:l9 B q k e ev s'=l9 B q k e ev s:=by unfold l9;rw[aa,ab,ac]
 refine⟨⟨q,k,e,ev,A,(f',fv')::d,G.chg F,by rw[O];exact(eF _ zO).trans N,?_⟩,F⟩;refine⟨gA hav (λh=>h) n zD D,by rw[Y];exact M,by rw[List.reverse_cons];exact K,?_,by rw[Z];exact gA R (λh=>h) n zD D,by rw[X];simpa using IL S n zD D⟩;cases hq:s'.sk with
 |nil=>rw[hq]at m;cases m
 |cons a r=>rw[hq]at E m;simp only[List.head?_cons,BU]at m;subst m;simp only[List.tail_cons]at E;rw[bZ,E]
theorem rA.frs_cons{B:gC}{q i n:aT}{m:List (aT×List Int)}{e:List (Fr×aT)}{f:Fr}{r:List Fr}(h:rA B w s q i n ev m e)(k:s.sk=f::r):∃g d,e=(f,g)::d/\d.map (·.1)=r:=by
 have:=h.ls.sk;rw[k]at this;match e,this with
 |(f',g)::d,this=>simp only[bZ,List.cons.injEq]at this;obtain⟨rfl,j⟩:=this;exact⟨g,d,rfl,j⟩
theorem RN(B:gC)(s:Ms)(f:Fr)(r:List Fr)(v:Int)(w:aS)(h:MI B w s)(y:s.sk=f::r)(a0:f.vals.length<=1000)(ae:s.sk.length<=10001):qK 265 #[qP B.mb 0,qI v] w (JF B w (iX s v)):=by
 obtain⟨vv,av,sv,ev,af,S,h⟩:=h;obtain⟨J,S,rfl,ab⟩:=h.frs_cons y;have c7:qC w B.mb 7 sv:=h.cells rfl;obtain⟨g,aa,a,m,c,Y,au,al,ak,x0,x1,x2,xf,X⟩:=h.ls.top;have hn:S.length<=10000:=by have:=congrArg List.length ab;rw[y]at ae;simp at this ae;omega
 have hR:iX s v={s with sk:={f with vals:=f.vals++[v]}::r}:=by unfold iX;rw[y]
 rw[hR];obtain⟨N,Z⟩:=eR S.length;have w0:aP.wrap (((N+1:Nat):Int)-1)=(N:Int):=by rw[iA];omega
 rw[Z]at Y x0 x1 x2 hn;subst Y;have HM:=eC h;have ao:=eC X;have ap:=eC xf;change Hid _ at ab Z ak au al;clear h y hR X xf ae;generalize ay:B.mb=mb at*;change Hid _ at ay;go_enter func265,ntmps265;go_wp2;go_quiet (fail);obtain⟨D,R⟩:=eR (w.drewN nq);rw[R];have M:rA B D s vv av (aA (some (g,0)) (N+1) aa) ev af ((f,J)::S):=by rw[<-R];exact HM.drewN _
 have ai:eZ (lQ B) w D:=by rw[<-R];exact(eZ.refl _ w).drewN _
 have x2:D.cell? (g,N*3+2)=some J:=by rw[<-R];exact x2
 have xf:D.frozen? (g,N*3+2)=false:=by rw[<-R];exact ap _
 have X:Hid (eD kI 3 B.n D J f.vals):=eC (by rw[<-R];exact eW ao (λ_ h=>h) λ_ _ _=>rfl);have ag:=eC (show g<(D:Nat) by rw[<-R];exact al);change Hid _ at M ai;clear R c7 x0 x1;have ax:Hid (f.vals.length+1<=10000000):=eC zO;go_wp2_with(refine JL rV rfl _ _ rfl B.n J f.vals rfl (X.later ((iL _ D).alloc (eX _) (aK #[qI v] 3))) D v [qI v] rfl rfl (eG.new _ _ _) ax (by have:=M.good.nw;simp;omega) (λh=>h) ?_;intro v5 w5 ac O ar am;have q0:w5.heap[g]?=D.heap[g]?:=(O.block g (by have:=ag.out;simp;omega) (λe=>by obtain⟨az,hc⟩:=X.tag _ e.symm;obtain⟨aL,ah⟩:=M.ls.sv.tag g rfl;rw[hc]at ah;cases ah)).trans (iI _ _ _ ag);have q1:=(lA (w:=D) (a:=(g,N*3+2)) q0).trans x2;have q2:=(cO (w:=D) (a:=(g,N*3+2)) q0).trans xf;obtain⟨g5,aq,rfl⟩:=ac.form;rw[ak]at q1;change Hid _ at ac O am;clear q0 ar);have U:MLs B (D.alloc (aK #[qI v] 3)) s vv av (aA (some (g,0)) (N+1) aa) ev af ((f,J)::S):=M.ls.keep rfl rfl rfl rfl λk _ h2=>iI _ _ _ zO;have W:eD kI 3 B.n (D.alloc (aK #[qI v] 3)) J f.vals:=U.ints.own (J,f.vals) zS;have aw:sX 3 B.n (D.alloc (aK #[qI v] 3)) (((vv,s.vs)::af)++(J,f.vals)::S.map (λx=>(x.2,x.1.vals))):=by simpa using U.ints
 have Y:=U.sv;rw[List.reverse_cons]at Y;have a1:=M.good.mb;have a2:=M.good.nw;have aj:eZ (lQ B) D w5:=((eZ.refl _ D).alloc _).grown O λk hk=>.inl (.inr (W.lt k hk).1);have he:=rA.setTop (B:=B) (w:=w5) (s:=s) (s':={s with sk:={f with vals:=f.vals++[v]}::r}) (f:=f) (f':={f with vals:=f.vals++[v]}) (j:=2) (cap:=aa) (g:=g) (u:=aA (some (g5,0)) (f.vals.length+1) aq)
  (M.good.chg aj) ((O.block B.mb zT (λe=>by have:=(W.lt _ e.symm).1;omega)).trans ((iI _ _ _ zO).trans M.box)) (gA U.av (λh=>h) W zD O) U.ar (gA Y (λh=>h) W zD O) (gA U.ev (λh=>h) W zD O)
  (by have:=sX.step aw ac O am;simpa using this) ab rfl rfl rfl rfl rfl rfl rfl (by rw[Z]) zO rfl ⟨_,_,_,rfl⟩;rw[Z]at he;exact gO (iU rfl _ _ _) rfl ⟨rfl,he.of (ai.trans aj)⟩
def aBJ(o:Option Nat)(w:aS)(e:Ending)(w':aS):Prop:=e=aO (aF #[aC aP ((o.getD 0:Nat):Int),aG o.isSome])/\∃m,w'=w.drewN m
structure NxC(mb g n kb ko gb go' pos kid bl kl:Nat)(tag:Int)(bc kc:Nat)(fv:aT)(ap:Option Addr)(ac:Nat)(ks:List Nat)(w:aS):Prop where
 m1:w.cell? ⟨mb,3,none⟩=some (aA (some ⟨kb,ko,none⟩) bl kc)
 m2:w.cell? ⟨mb,2,none⟩=some (aA (some ⟨gb,go',none⟩) bl bc)
 f0:w.cell? ⟨g,n*3,none⟩=some (aC aP pos)
 f1:w.cell? ⟨g,n*3+1,none⟩=some (aC aP kid)
 f2:w.cell? ⟨g,n*3+2,none⟩=some fv
 kd:w.cell? ⟨kb,ko+pos,none⟩=some (aA ap kl ac)
 tg:w.cell? ⟨gb,go'+pos*2,none⟩=some (aC aP tag)
 ki:∀j q,ks[j]?=some q->∃b o,ap=some ⟨b,o,none⟩/\w.cell? ⟨b,o+j,none⟩=some (aC aP (q:Nat))
def OI(e:Nat)(d x:Int)(f:List Nat):Option Nat:=
 if e=1/\(d=18/\x=0\/d=19/\x=1\/d=24/\x=0)then none else if d=23/\1<e then none else if d=23/\e=1 then f[(2-x).toNat]?else f[e]?
theorem aCA(p:Pg)(f:Fr):rT p f=OI f.kid (fF p f.pos).1 (hd f.vals) (eO p.bd f.pos):=rfl
theorem tS{o:Option Nat}(h:o=some k)(hw:∃m,w'=w.drewN m):aBJ o w (aO (aF #[qI k,aG true])) w':=by subst h;exact⟨rfl,hw⟩
theorem qY{o:Option Nat}(h:o=none)(hw:∃m,w'=w.drewN m):aBJ o w (aO (aF #[qI 0,aG false])) w':=by subst h;exact⟨rfl,hw⟩
theorem VK(mb g n kb ko gb am aj N bl D:Nat)(R:Int)(bc kc:Nat)(fv:aT)(ap:Option Addr)(ac:Nat)(U:List Nat)(w:aS)(h:NxC mb g n kb ko gb am aj N bl D R bc kc fv ap ac U w)(aL:aj<bl)(S:D=U.length)(ax:N<=1000000)(ay:D<=1000000)
  (x:Int)(hv:N=1->R=18\/R=19\/R=24\/R=23->∃u m c,fv=aA (some (qP u 0)) m c/\0<m/\w.cell? (qP u 0)=some (qI x))(ag:N=1->R=23->(x=0\/x=1)/\U.length=3)(o:Option Nat)(J:OI N R x U=o):qK 211 #[qP mb 0,qP g (n*3)] w (aBJ o w):=by
 obtain⟨c0,c1,c2,c3,c4,c5,c6,Y⟩:=h;have az:((aj:Int)<(bl:Int)):=zO;replace Y:=eC Y;replace S:=eC S;replace hv:=eC hv;go_enter func211,ntmps211;go_wp2;go_quiet (fail);go_wp2;go_quiet (fail);replace J:=eC J;replace ag:=eC ag;by_cases Z:N=1
 .subst Z;by_cases y:R=18
  .subst y;obtain⟨u,m,c,rfl,ai,hcv⟩:=hv rfl zO;by_cases M:x=0
   .subst M;have B:=eC (show o=none by rw[<-J];unfold OI;rw[eI zO]);go_wp2;go_ret2;exact qY B ⟨_,rfl⟩
   .have ak:(x==0)=false:=by simpa using M
    replace M:=eC M;obtain X|X:=cM 1 D
    .obtain⟨q,hq⟩:∃q,U[1]?=some q:=⟨_,lJ (by have:=S.out;omega)⟩;obtain⟨b,j,rfl,f⟩:=Y _ _ hq;have B:=eC (show o=some q by rw[<-J];unfold OI;rw[eE (by have:=M.out;omega),eE zO,eE zO];exact hq);have W:decide ((1:Int)<(D:Int))=true:=zT;have ae:((1:Int)<(D:Int)):=zO;clear hq;go_wp2;go_ret2;exact tS B ⟨_,rfl⟩
    .have B:=eC (show o=none by rw[<-J];unfold OI;rw[eE (by have:=M.out;omega),eE zO,eE zO];exact AS (by have:=S.out;omega));have W:decide ((1:Int)<(D:Int))=false:=zT;go_wp2;go_ret2;exact qY B ⟨_,rfl⟩
  have au:(R==18)=false:=by simpa using y
  replace y:=eC y;by_cases aa:R=19
  .subst aa;obtain⟨u,m,c,rfl,ai,hcv⟩:=hv rfl zO;by_cases M:x=1
   .subst M;have B:=eC (show o=none by rw[<-J];unfold OI;rw[eI zO]);go_wp2;go_ret2;exact qY B ⟨_,rfl⟩
   .have ak:(x==1)=false:=by simpa using M
    replace M:=eC M;obtain X|X:=cM 1 D
    .obtain⟨q,hq⟩:∃q,U[1]?=some q:=⟨_,lJ (by have:=S.out;omega)⟩;obtain⟨b,j,rfl,f⟩:=Y _ _ hq;have B:=eC (show o=some q by rw[<-J];unfold OI;rw[eE (by have:=M.out;omega),eE zO,eE zO];exact hq);have W:decide ((1:Int)<(D:Int))=true:=zT;have ae:((1:Int)<(D:Int)):=zO;clear hq;go_wp2;go_ret2;exact tS B ⟨_,rfl⟩
    .have B:=eC (show o=none by rw[<-J];unfold OI;rw[eE (by have:=M.out;omega),eE zO,eE zO];exact AS (by have:=S.out;omega));have W:decide ((1:Int)<(D:Int))=false:=zT;go_wp2;go_ret2;exact qY B ⟨_,rfl⟩
  have av:(R==19)=false:=by simpa using aa
  replace aa:=eC aa;by_cases ab:R=24
  .subst ab;obtain⟨u,m,c,rfl,ai,hcv⟩:=hv rfl zO;by_cases M:x=0
   .subst M;have B:=eC (show o=none by rw[<-J];unfold OI;rw[eI zO]);go_wp2;go_ret2;exact qY B ⟨_,rfl⟩
   .have ak:(x==0)=false:=by simpa using M
    replace M:=eC M;obtain X|X:=cM 1 D
    .obtain⟨q,hq⟩:∃q,U[1]?=some q:=⟨_,lJ (by have:=S.out;omega)⟩;obtain⟨b,j,rfl,f⟩:=Y _ _ hq;have B:=eC (show o=some q by rw[<-J];unfold OI;rw[eE (by have:=M.out;omega),eE zO,eE zO];exact hq);have W:decide ((1:Int)<(D:Int))=true:=zT;have ae:((1:Int)<(D:Int)):=zO;clear hq;go_wp2;go_ret2;exact tS B ⟨_,rfl⟩
    .have B:=eC (show o=none by rw[<-J];unfold OI;rw[eE (by have:=M.out;omega),eE zO,eE zO];exact AS (by have:=S.out;omega));have W:decide ((1:Int)<(D:Int))=false:=zT;go_wp2;go_ret2;exact qY B ⟨_,rfl⟩
  have aw:(R==24)=false:=by simpa using ab
  replace ab:=eC ab;by_cases O:R=23
  .subst O;obtain⟨u,m,c,rfl,ai,hcv⟩:=hv rfl zO;obtain⟨ar,ah⟩:=ag rfl rfl;have ao:D=3:=by rw[S,ah]
   subst ao;obtain rfl|rfl:=ar
   .obtain⟨q,hq⟩:∃q,U[2]?=some q:=⟨_,lJ zO⟩;obtain⟨b,j,rfl,f⟩:=Y _ _ hq;have B:=eC (show o=some q by rw[<-J];unfold OI;rw[eE zO,eE zO,eI zO];exact hq);clear hq ah;go_wp2;go_ret2;exact tS B ⟨_,rfl⟩
   .obtain⟨q,hq⟩:∃q,U[1]?=some q:=⟨_,lJ zO⟩;obtain⟨b,j,rfl,f⟩:=Y _ _ hq;have B:=eC (show o=some q by rw[<-J];unfold OI;rw[eE zO,eE zO,eI zO];exact hq);clear hq ah;go_wp2;go_ret2;exact tS B ⟨_,rfl⟩
  have al:(R==23)=false:=by simpa using O
  replace O:=eC O;obtain X|X:=cM 1 D
  .obtain⟨q,hq⟩:∃q,U[1]?=some q:=⟨_,lJ (by have:=S.out;omega)⟩;obtain⟨b,j,rfl,f⟩:=Y _ _ hq;have B:=eC (show o=some q by rw[<-J];unfold OI;rw[eE (by have:=y.out;have:=aa.out;have:=ab.out;omega),eE (by have:=O.out;omega),eE (by have:=O.out;omega)];exact hq);have W:decide ((1:Int)<(D:Int))=true:=zT;have ae:((1:Int)<(D:Int)):=zO;clear hq;go_wp2;go_ret2;exact tS B ⟨_,rfl⟩
  .have B:=eC (show o=none by rw[<-J];unfold OI;rw[eE (by have:=y.out;have:=aa.out;have:=ab.out;omega),eE (by have:=O.out;omega),eE (by have:=O.out;omega)];exact AS (by have:=S.out;omega));have W:decide ((1:Int)<(D:Int))=false:=zT;go_wp2;go_ret2;exact qY B ⟨_,rfl⟩
 .have ek:((N:Int)==1)=false:=zT;replace Z:=eC Z;by_cases O:R=23
  .subst O;by_cases af:1<N
   .have aq:decide ((1:Int)<(N:Int))=true:=zT;have B:=eC (show o=none by rw[<-J];unfold OI;rw[eE (by have:=Z.out;omega),eI zO]);go_wp2;go_ret2;exact qY B ⟨_,rfl⟩
   .have aq:decide ((1:Int)<(N:Int))=false:=zT;replace af:=eC af;obtain X|X:=cM N D
    .obtain⟨q,hq⟩:∃q,U[N]?=some q:=⟨_,lJ (by have:=S.out;omega)⟩;obtain⟨b,j,rfl,f⟩:=Y _ _ hq;have B:=eC (show o=some q by rw[<-J];unfold OI;rw[eE (by have:=Z.out;omega),eE (by have:=af.out;omega),eE (by have:=Z.out;omega)];exact hq);have W:decide ((N:Int)<(D:Int))=true:=zT;have ae:((N:Int)<(D:Int)):=zO;clear hq;go_wp2;go_ret2;exact tS B ⟨_,rfl⟩
    .have B:=eC (show o=none by rw[<-J];unfold OI;rw[eE (by have:=Z.out;omega),eE (by have:=af.out;omega),eE (by have:=Z.out;omega)];exact AS (by have:=S.out;omega));have W:decide ((N:Int)<(D:Int))=false:=zT;go_wp2;go_ret2;exact qY B ⟨_,rfl⟩
  have al:(R==23)=false:=by simpa using O
  replace O:=eC O;obtain X|X:=cM N D
  .obtain⟨q,hq⟩:∃q,U[N]?=some q:=⟨_,lJ (by have:=S.out;omega)⟩;obtain⟨b,j,rfl,f⟩:=Y _ _ hq;have B:=eC (show o=some q by rw[<-J];unfold OI;rw[eE (by have:=Z.out;omega),eE (by have:=O.out;omega),eE (by have:=O.out;omega)];exact hq);have W:decide ((N:Int)<(D:Int))=true:=zT;have ae:((N:Int)<(D:Int)):=zO;clear hq;go_wp2;go_ret2;exact tS B ⟨_,rfl⟩
  .have B:=eC (show o=none by rw[<-J];unfold OI;rw[eE (by have:=Z.out;omega),eE (by have:=O.out;omega),eE (by have:=O.out;omega)];exact AS (by have:=S.out;omega));have W:decide ((N:Int)<(D:Int))=false:=zT;go_wp2;go_ret2;exact qY B ⟨_,rfl⟩
def aKK(g n:Nat):aT:=aE (some ⟨g,n*3,none⟩)
theorem aDm(B:gC)(s:Ms)(f:Fr)(r:List Fr)(w:aS)(vv L ev y:aT)(ai:List (aT×List Int))(e:List (Fr×aT))(g N:Nat)(h:rA B w s vv L (aA (some (g,0)) (e.length+1) N) ev ai ((f,y)::e))(hs:s.sk=f::r)
  (d:aFN B.p s f r)(X:f.kid<=1000000)(ab:(eO B.p.bd f.pos).length<=1000000):qK 211 #[qP B.mb 0,aKK g e.length] w (aBJ (rT B.p f) w):=by
 obtain⟨g',aj,a,m,c,ag,_,_,ak,x0,x1,x2,_,af⟩:=h.ls.top;cases ag;obtain⟨kb,ko,Y,_,_,Z⟩:=h.good.kids;obtain⟨K,J,D,k2,_⟩:=Z f.pos d.pos;obtain⟨x,C⟩:∃x,B.p.bd[f.pos]?=some x:=⟨_,lJ d.pos⟩;obtain⟨O,R,W,_,t1,_⟩:=h.good.body.at C;have ae:fF B.p f.pos=x:=by unfold fF;rw[C];rfl
 have aa:(oW B.p f.pos).length=(eO B.p.bd f.pos).length:=by simp[oW]
 rw[aa]at D;have E:=h.cells (i:=3) rfl;have F:=h.cells (i:=2) rfl;rw[Y]at E;rw[W]at F;refine VK B.mb g e.length kb ko O R f.pos f.kid B.p.bd.length (eO B.p.bd f.pos).length (fF B.p f.pos).1 B.bc B.kc y K J (eO B.p.bd f.pos) w
  ⟨E,F,x0,x1,x2,D,by rw[ae];exact t1,λj q hq=>?_⟩ d.pos rfl X ab (hd f.vals) (λn A=>?_) (λn A=>d.cond n A) _ (aCA _ _).symm
 .obtain⟨b,o,U,_,k⟩:=mD k2 (i:=j) (x:=((q:Nat):Int)) (by unfold oW;rw[oY,hq];rfl);exact⟨b,o,U,k⟩
 .obtain⟨G,t,u⟩:=d.one n zO;obtain⟨S,M,ah,_,_,k,_⟩:=vO af (i:=0) (x:=G) (by rw[u];rfl);exact⟨S,_,M,ah,by rw[u];simp,by rw[u];exact k⟩
theorem rA.row{B:gC}{D C:aT}{e:List (aT×List Int)}{u:List (Fr×aT)}(h:rA B w s D m C ev e u){v:Nat}(r:v<s.ar.length):
  ∃d f j a c,e[v]?=some (d,mT s v)/\m=aA (some (qP f 0)) e.length j/\d=aA a (mT s v).length c/\w.cell? (qP f v)=some d/\eD kI 3 B.n w d (mT s v):=by
 have n:=h.ls.ar;have y:v<e.length:=by rw[<-n]at r;simpa using r
 obtain⟨⟨d,L⟩,i⟩:∃x,e[v]?=some x:=⟨_,lJ y⟩;have k:mT s v=L:=by unfold mT;rw[<-n,oY,i];rfl
 obtain⟨f,j,F,hav,_,_,⟨rfl,E⟩,g,_⟩:=h.ls.av.at i;have q:eD kI 3 B.n w d L:=h.ls.ints.own (d,L) (by simp[iG i]);obtain⟨a,c,A,_⟩:=fV q;have g:=eG.one.1 g;rw[show v*kR.k=v from Nat.mul_one v]at g;exact⟨d,f,j,a,c,by rw[k];exact i,hav,by rw[k];exact A,g,by rw[k];exact q⟩
def N9(B:gC)(w:aS)(s:Ms)(v:Nat)(i:Int)(a:Option Addr)(e:Ending)(w':aS):Prop:=
 match tF s v i with
 |true=>∃d,a=some ⟨d,0,none⟩/\e=aO (aE (some ⟨d,i.toNat,none⟩))/\w=w'
 |false=>e=aO (aE none)/\xF B w (j9 s 2 0) w'/\eN B.mb w w'
theorem TO(B:gC)(s:Ms)(v:Nat)(i:Int)(w:aS)(vv O sv ev:aT)(D:List (aT×List Int))(Z:List (Fr×aT))(rv:aT)(a:Option Addr)(c:Nat)(h:rA B w s vv O sv ev D Z)(hv:v<s.ar.length)(M:D[v]?=some (aA a (mT s v).length c,mT s v))(y:(mT s v).length<=1000)(f:kS i):
  qK 266 #[qP B.mb 0,qI v,qI i] w (N9 B w s v i a):=by
 obtain⟨rv,ga,ca,a',c',R,hav,ab,u,W⟩:=h.row hv;rw[M]at R;cases R;cases ab;have N:=eC (OE B s 2 0 w ⟨_,_,_,_,_,_,h⟩);have Y:qC w B.mb 5 O:=h.cells rfl;rw[hav]at Y;have af:(v:Int)<(D.length:Int):=by have:=(gX.1 M).1;omega
 unfold N9;obtain⟨L,S⟩:=eR ((mT s v).length);have U:tF s v i=(decide (0<=i)&&decide (i<(L:Int))):=by unfold tF;rw[S]
 have aa:Hid (∀j:Nat,j<L->∃X,a=some ⟨X,0,none⟩):=eC λj hj=>by obtain⟨g,c2,ac,_⟩:=vO W (i:=j) (x:=(mT s v)[j]'(zO)) (lJ _);cases ac;exact⟨g,rfl⟩
 rw[U];rw[S]at u y;unfold kS at f;clear U h hav W M;generalize J:B.mb=mb at*;generalize D.length=rl at*;change Hid _ at J;by_cases h0:i<0
 .have d0:decide (i<0)=true:=by simpa using h0
  have d1:decide (0<=i)=false:=by simpa using h0
  rw[d1];simp only[Bool.false_and];clear h0 d1;go_enter func266,ntmps266;go_wp2_with(go_at_call 209;refine N.mono ?_;rintro e w'⟨rfl,hm⟩;change Hid _ at hm);go_ret;exact⟨rfl,hm.1,by rw[<-J];exact hm.2⟩
 have d0:decide (i<0)=false:=by simpa using h0
 have d1:decide (0<=i)=true:=by simpa using h0
 by_cases hi:i<(L:Int)
 .have d2:decide (i<(L:Int))=true:=by simpa using hi
  have d3:decide ((L:Int)<=i)=false:=by simpa using hi
  rw[d1,d2];simp only[Bool.and_self];obtain⟨X,rfl⟩:=aa i.toNat zO;have ae:0<=i:=zO;clear d1 d2;go_enter func266,ntmps266;go_wp2;go_ret;exact⟨rfl,rfl⟩
 .have d2:decide (i<(L:Int))=false:=by simpa using hi
  have d3:decide ((L:Int)<=i)=true:=by simpa using hi
  rw[d2];simp only[Bool.and_false];clear d1 d2;go_enter func266,ntmps266;go_wp2_with(go_at_call 209;refine N.mono ?_;rintro e w'⟨rfl,hm⟩;change Hid _ at hm);go_ret;exact⟨rfl,hm.1,by rw[<-J];exact hm.2⟩
theorem aHq{E:aX}{L d:List (aT×List Int)}(h:eD kR E n w v L)(hm:L.map (·.1)=d.map (·.1)):eD kR E n w v d:=by
 obtain⟨y,⟨s,u⟩,x⟩:=h;have j:L.length=d.length:=by simpa using congrArg List.length hm
 refine⟨y,⟨s.trans j,λi B g=>?_⟩,by rw[<-j];exact x⟩;have A:=(gX.1 g).1;have k:L[i]?=some (L[i]'(zO)):=lJ _;obtain⟨m,q,r⟩:=u i _ k;refine⟨m,q,?_⟩;have e:(L.map (·.1))[i]?=(d.map (·.1))[i]?:=by rw[hm]
 rw[oY,oY,k,g]at e;simp only[Option.map_some,BU]at e;have f:m=[(L[i]'(zO)).1]/\aCJ (L[i]'(zO)).1:=r;rw[e]at f;exact f
theorem rA.setInt{B:gC}{lv:aT}{r rows':List (aT×List Int)}{i:List (Fr×aT)}(h:rA B w s d f m ev r i){C:List (aT×List Int)}{L:List Int}{g j:Nat}{x:Int}
  (J:(d,s.vs)::r++i.map (λx=>(x.2,x.1.vals))=A++(lv,L)::C)(K:(d,s'.vs)::rows'++i.map (λx=>(x.2,x.1.vals))=A++(lv,L.set j x)::C)(q:lv.ownBlock=some g)
  (M:r.map (·.1)=rows'.map (·.1))(E:rows'.map (·.2)=s'.ar)(N:s'.sk=s.sk)(O:s'.ev=s.ev)(R:s'.out=s.out)(S:s'.st=s.st)(U:s'.over=s.over):
  rA B (qS w (g,j) (qI x)) s' d f m ev rows' i/\eZ (lQ B) w (qS w (g,j) (qI x)):=by
 have n:=h.ls.ints;rw[J]at n;have e:=n.own (lv,L) zS;obtain⟨y,D⟩:=aCg e q j x;have G:=e.lt g q;have u:eZ (lQ B) w (qS w (g,j) (qI x)):=(eZ.refl _ w).set (.inl (.inr G.1)) _;have W:=h.good.mb;have k:w.grownBy (qS w (g,j) (qI x)) lv.ownBlock:=by rw[q];exact D
 have F:l9 B d f m ev s'=l9 B d f m ev s:=by unfold l9;rw[R,S,U]
 refine⟨⟨h.good.chg u,by rw[F];exact(eF _ zO).trans h.box,?_⟩,u⟩;exact⟨aHq (gA h.ls.av (λh=>h) e zD k) M,E,gA h.ls.sv (λh=>h) e zD k,by rw[N];exact h.ls.sk,by rw[O];exact gA h.ls.ev (λh=>h) e zD k,by rw[K];exact sX.step n y k (.inl rfl)⟩
theorem rA.event{B:gC}{d:aS}{i:aT}{n:List (Fr×aT)}(h:rA B w s y m u ev q n)(o:Obj)(x:Int×Int×Int)
  (D:eD kT 434 B.n d i (s.ev++[x]))(g:(w.alloc o).grownBy d ev.ownBlock):xF B w {s with ev:=s.ev++[x]} (qS d (B.mb,11) i):=by have K:=h.good.mb;have L:=h.good.nw;have f:MLs B (w.alloc o) s y m u ev q n:=h.ls.keep rfl rfl rfl rfl λk F G=>iI _ _ _ zO;have he:=h.ls.ev.lt;have A:eZ (lQ B) w d:=(((eZ.refl _ w).alloc o).grown g λr E=>.inl (.inr (he r E).1));have C:d.heap[B.mb]?=_:=(g.block B.mb zT (λe=>by have:=(he _ e.symm).1;omega)).trans ((iI _ _ _ zO).trans h.box);have j:∀k,B.n<=k->k<(d:Nat)->(qS d (B.mb,11) i).heap[k]?=d.heap[k]?:=λk J _=>eF _ zO;refine⟨⟨y,m,u,i,q,n,h.good.chg (pF A _ _),qV _ C (by simp[l9]),?_⟩,pF A _ _⟩;exact⟨eW (gA f.av (λh=>h) f.ev zD g) (λ_ h=>h) j,h.ls.ar,eW (gA f.sv (λh=>h) f.ev zD g) (λ_ h=>h) j,h.ls.sk,eW D (λ_ h=>h) j,qU (IL f.ints f.ev zD g) j⟩
theorem aFn(B:gC)(v q x:Int)(w:aS):qK 267 #[qP B.mb 0,aE none,qI v,qI q,qI x] w λe w'=>e=aO (aF #[])/\w=w':=by generalize B.mb=mb at*;go_enter func267,ntmps267;go_wp2;go_end0;exact⟨rfl,rfl⟩
def aJ8(B:gC)(w:aS)(s:Ms)(g:Nat)(ev:aT)(e:Ending)(w':aS):Prop:=e=aO (aF #[])/\xF B w s w'/\∀k,k<(w:Nat)->k≠B.mb->k≠g->ev.ownBlock≠some k->w'.heap[k]?=w.heap[k]?
theorem OR(B:gC)(J:Ms)(g j:Nat)(v q x y:Int)(w:aS)(vv Y sv ev:aT)(af:List (aT×List Int))(f:List (Fr×aT))(ah:qC w g j (qI y))(ai:qF w g j)
  (h:rA B (qS w (g,j) (qI x)) J vv Y sv ev af f)(R:eZ (lQ B) w (qS w (g,j) (qI x)))(ab:J.ev.length<=1000000):
  qK 267 #[qP B.mb 0,qP g j,qI v,qI q,qI x] w (aJ8 B w {J with ev:=J.ev++[(v,q,x)]} g ev):=by
 obtain⟨D,O⟩:=eR (qS w (g,j) (qI x));rw[O]at h R;have Z:qC D B.mb 11 ev:=h.cells rfl;have f11:=h.free 11;have ac:=eC (h.ls.ev.later ((iL _ D).alloc (eX _) (aK #[qI v,qI q,qI x] 434)));have ae:Hid (J.ev.length+1<=10000000):=eC zO;have H:=eC h;have X:Hid (B.mb<D):=eC (by have:=h.good.mb;have:=h.good.nw;omega);change Hid _ at R;clear h ab;generalize N:B.mb=mb at*;change Hid _ at N;go_enter func267,ntmps267;go_wp2_with(first|(rw[O])|(refine kN aFy rfl _ _ rfl B.n ev J.ev rfl ac D (v,q,x) [qI v,qI q,qI x] rfl rfl (eG.new _ _ _) ae (by have:=H.good.nw;simp;omega) (λh=>h) ?_;intro v5 w5 S M aa;have U:w5.heap[mb]?=D.heap[mb]?:=(M.block mb (by have:=X.out;simp;omega) (λe=>by have:=(H.ls.ev.lt _ e.symm).1;have:=H.good.mb;have:=N.out;omega)).trans (iI _ _ _ X);have q1:=(lA (w:=D) (a:=(mb,11)) U).trans Z;have q2:=(cO (w:=D) (a:=(mb,11)) U).trans f11;obtain⟨g5,ag,rfl⟩:=S.form;change Hid _ at S M;clear U aa));have he:=H.event _ _ S M;rw[N]at he;refine gO (iU rfl _ _ _) rfl ⟨rfl,he.of R,λk hk W u h3=>?_⟩;rw[N]at W;have hz:D=(w:Nat):=by rw[<-O];simp
 exact(eF _ W).trans ((M.block k zT (λe=>h3 e.symm)).trans ((iI _ _ _ zO).trans (by rw[<-O];exact eF _ u)))
theorem aEp(B:gC)(d:Ms)(g j:Nat)(v q x y:Int)(w:aS)(m e k ev:aT)(i:List (aT×List Int))(f:List (Fr×aT))(r:qC w g j (qI y))(u:qF w g j)
  (h:rA B (qS w (g,j) (qI x)) d m e k ev i f)(n:eZ (lQ B) w (qS w (g,j) (qI x)))(s:d.ev.length<=1000000):
  qK 267 #[qP B.mb 0,qP g j,qI v,qI q,qI x] w (JF B w {d with ev:=d.ev++[(v,q,x)]}):=
 (OR B d g j v q x y w m e k ev i f r u h n s).mono λ_ _ h=>⟨h.1,h.2.1⟩
theorem sH(z:Bool)(w:aS):qK 301 #[aG z] w λe w'=>e=aO (qI (yD z))/\w=w':=by
 cases z
 .go_enter func301,ntmps301;go_wp2;go_ret;exact⟨rfl,rfl⟩
 .go_enter func301,ntmps301;go_wp2;go_ret;exact⟨rfl,rfl⟩
structure PI(w0:aS)(M:List (Int×aT))(w:aS):Prop where
 bel:aV w0 w0 w
 map:kK w (w0:Nat) M
theorem PI.step{d:aS}{M:List (Int×aT)}(h:PI d M w)(k:Int)(f:Nat)(m:GT M k=none):
  ∃w',(Instr.mapUpdate 321 (.map (some d)) (qI k) (SS f)).run prog w=.ok () w'/\PI d (M++[(k,SS f)]) w':=by obtain⟨w',g,i,j⟩:=pO (P:=prog) (T:=321) w underlying321 underlying3 h.map k (SS f) m;exact⟨w',g,h.bel.trans (j.below h.bel.size λq e=>zO),i⟩
def aCU(w:aS)(e:Ending)(w':aS):Prop:=e=aO (.map (some (w:Nat)))/\PI w PV w'
theorem aBP(w:aS):qK 264 #[] w (aCU w):=by
 have j:∀W:aS,(Instr.makeMap 321 none).run prog W=.ok (.map (some W)) (W.alloc (.map #[] 0)):=λW=>by simp[Instr.makeMap]
 have D:PI w [] (w.alloc (.map #[] 0)):=⟨fL w _,kK.new w⟩;go_enter func264,ntmps264;go_wp2_with(first
  |(obtain⟨u,B,J⟩:=D.step 7 297 rfl;refine eM rfl (.tmp 1) (.const (qI 7)) (.func 297) _ zR _ _ _ zR zR zR B ?_)
  |(obtain⟨w2,B,O⟩:=J.step 8 298 rfl;refine eM rfl (.tmp 1) (.const (qI 8)) (.func 298) _ zR _ _ _ zR zR zR B ?_)
  |(obtain⟨w3,B,R⟩:=O.step 9 299 rfl;refine eM rfl (.tmp 1) (.const (qI 9)) (.func 299) _ zR _ _ _ zR zR zR B ?_)
  |(obtain⟨w4,B,S⟩:=R.step 12 300 rfl;refine eM rfl (.tmp 1) (.const (qI 12)) (.func 300) _ zR _ _ _ zR zR zR B ?_)
  |(obtain⟨w5,B,U⟩:=S.step 13 302 rfl;refine eM rfl (.tmp 1) (.const (qI 13)) (.func 302) _ zR _ _ _ zR zR zR B ?_)
  |(obtain⟨w6,B,X⟩:=U.step 14 303 rfl;refine eM rfl (.tmp 1) (.const (qI 14)) (.func 303) _ zR _ _ _ zR zR zR B ?_)
  |(obtain⟨w7,B,Y⟩:=X.step 15 304 rfl;refine eM rfl (.tmp 1) (.const (qI 15)) (.func 304) _ zR _ _ _ zR zR zR B ?_)
  |(obtain⟨w8,B,Z⟩:=Y.step 16 305 rfl;refine eM rfl (.tmp 1) (.const (qI 16)) (.func 305) _ zR _ _ _ zR zR zR B ?_)
  |(obtain⟨w9,B,f⟩:=Z.step 17 306 rfl;refine eM rfl (.tmp 1) (.const (qI 17)) (.func 306) _ zR _ _ _ zR zR zR B ?_)
  |(obtain⟨x,B,M⟩:=f.step 10 307 rfl;refine eM rfl (.tmp 1) (.const (qI 10)) (.func 307) _ zR _ _ _ zR zR zR B ?_)
  |(obtain⟨y,B,N⟩:=M.step 11 308 rfl;refine eM rfl (.tmp 1) (.const (qI 11)) (.func 308) _ zR _ _ _ zR zR zR B ?_));go_ret;exact⟨rfl,N⟩
theorem aIW(a b:Int)(w:aS):qK 297 #[qI a,qI b] w λe w'=>e=aO (qI (aP.wrap (a+b)))/\w=w':=by go_enter func297,ntmps297;go_wp2;go_ret;exact⟨nT (by rw[iA];unfold a9;rfl),rfl⟩
theorem aIy(a b:Int)(w:aS):qK 298 #[qI a,qI b] w λe w'=>e=aO (qI (aP.wrap (a-b)))/\w=w':=by go_enter func298,ntmps298;go_wp2;go_ret;exact⟨nT (by rw[iA];unfold a9;rfl),rfl⟩
theorem aH9(a b:Int)(w:aS):qK 299 #[qI a,qI b] w λe w'=>e=aO (qI (aP.wrap (a*b)))/\w=w':=by go_enter func299,ntmps299;go_wp2;go_ret;exact⟨nT (by rw[iA];unfold a9;rfl),rfl⟩
theorem aGu(a b:Int)(w:aS):qK 300 #[qI a,qI b] w λe w'=>e=aO (qI (yD (a==b)))/\w=w':=by go_enter func300,ntmps300;go_wp2_with(go_at_call 301;refine(sH _ _).mono ?_;rintro e B⟨rfl,rfl⟩);go_ret;exact⟨rfl,rfl⟩
theorem aGV(a b:Int)(w:aS):qK 302 #[qI a,qI b] w λe w'=>e=aO (qI (yD (a !=b)))/\w=w':=by go_enter func302,ntmps302;go_wp2_with(go_at_call 301;refine(sH _ _).mono ?_;rintro e B⟨rfl,rfl⟩);go_ret;exact⟨rfl,rfl⟩
theorem aGR(a b:Int)(w:aS):qK 303 #[qI a,qI b] w λe w'=>e=aO (qI (yD (decide (a<b))))/\w=w':=by go_enter func303,ntmps303;go_wp2_with(go_at_call 301;refine(sH _ _).mono ?_;rintro e B⟨rfl,rfl⟩);go_ret;exact⟨rfl,rfl⟩
theorem aGM(a b:Int)(w:aS):qK 304 #[qI a,qI b] w λe w'=>e=aO (qI (yD (decide (a<=b))))/\w=w':=by go_enter func304,ntmps304;go_wp2_with(go_at_call 301;refine(sH _ _).mono ?_;rintro e B⟨rfl,rfl⟩);go_ret;exact⟨rfl,rfl⟩
theorem aF9(a b:Int)(w:aS):qK 305 #[qI a,qI b] w λe w'=>e=aO (qI (yD (decide (b<a))))/\w=w':=by go_enter func305,ntmps305;go_wp2_with(go_at_call 301;refine(sH _ _).mono ?_;rintro e B⟨rfl,rfl⟩);go_ret;exact⟨rfl,rfl⟩
theorem aFM(a b:Int)(w:aS):qK 306 #[qI a,qI b] w λe w'=>e=aO (qI (yD (decide (b<=a))))/\w=w':=by go_enter func306,ntmps306;go_wp2_with(go_at_call 301;refine(sH _ _).mono ?_;rintro e B⟨rfl,rfl⟩);go_ret;exact⟨rfl,rfl⟩
theorem aG2(a b:Int)(B:b≠0)(w:aS):qK 307 #[qI a,qI b] w λe w'=>e=aO (qI (aP.wrap (a.tdiv b)))/\w=w':=by
 have D:(b==0)=false:=by simpa using B
 go_enter func307,ntmps307;go_wp2;go_ret;exact⟨nT (by rw[iA];unfold a9;rfl),rfl⟩
theorem aGr(a b:Int)(B:b≠0)(w:aS):qK 308 #[qI a,qI b] w λe w'=>e=aO (qI (a.tmod b))/\w=w':=by
 have D:(b==0)=false:=by simpa using B
 go_enter func308,ntmps308;go_wp2;go_ret;exact⟨rfl,rfl⟩
theorem VZ(h:7<=t/\t<=17):∃f,GT PV t=some (SS f)/\(∀d w,(callFunc f d).run prog w=.ok (.enter f d) w)/\
  ∀(a b:Int)(w:aS),(t=10\/t=11->b≠0)->qK f #[qI a,qI b] w λe w'=>e=aO (qI (uO t a b))/\w=w':=by
 have:t=7\/t=8\/t=9\/t=10\/t=11\/t=12\/t=13\/t=14\/t=15\/t=16\/t=17:=zO;obtain rfl|rfl|rfl|rfl|rfl|rfl|rfl|rfl|rfl|rfl|rfl:=this
 .exact⟨_,rfl,l8 func297 zK rfl,λa b w h=>aIW a b w⟩
 .exact⟨_,rfl,l8 func298 zK rfl,λa b w h=>aIy a b w⟩
 .exact⟨_,rfl,l8 func299 zK rfl,λa b w h=>aH9 a b w⟩
 .exact⟨_,rfl,l8 func307 zK rfl,λa b w h=>aG2 a b (h zO) w⟩
 .exact⟨_,rfl,l8 func308 zK rfl,λa b w h=>aGr a b (h zO) w⟩
 .exact⟨_,rfl,l8 func300 zK rfl,λa b w h=>aGu a b w⟩
 .exact⟨_,rfl,l8 func302 zK rfl,λa b w h=>aGV a b w⟩
 .exact⟨_,rfl,l8 func303 zK rfl,λa b w h=>aGR a b w⟩
 .exact⟨_,rfl,l8 func304 zK rfl,λa b w h=>aGM a b w⟩
 .exact⟨_,rfl,l8 func305 zK rfl,λa b w h=>aF9 a b w⟩
 .exact⟨_,rfl,l8 func306 zK rfl,λa b w h=>aFM a b w⟩
def yR(s:Ms)(t a b:Int):Ms:=if b=0/\(t=10\/t=11)then j9 s 1 0 else iX s (uO t a b)
theorem aAH(B:gC)(s:Ms)(f:Fr)(r:List Fr)(t a b:Int)(w:aS)(h:MI B w s)(x:7<=t/\t<=17)(j:s.sk=f::r)(Y:f.vals.length<=1000)(u:s.sk.length<=10001):
  qK 268 #[qP B.mb 0,qI t,qI a,qI b] w (JF B w (yR s t a b)):=by
 obtain⟨fn,Z,X,W⟩:=VZ x;have S:=eC (DW B s 1 0 w h);have U:=eC (RN B s f r (uO t a b) w h j Y u);have O:=eC (λJ=>W a b w J);obtain⟨vv,av,sv,ev,ag,ae,h⟩:=h;have aa:qC w B.mb 13 (.map (some B.pr)):=h.cells rfl;have N:(Instr.lookup 321 (.map (some B.pr)) (qI t) false).run prog w=.ok (SS fn) w:=by have:=oN (P:=prog) (T:=321) w underlying321 underlying3 h.good.pairs t Z false;simpa using this
 clear h Z W j Y u;unfold SS at N;generalize B.mb=mb at*;generalize B.pr=pr at*;by_cases J:b=0
 .subst J;by_cases h10:t=10
  .have D:yR s t a 0=j9 s 1 0:=by unfold yR;rw[eI ⟨rfl,.inl h10⟩]
   rw[D];subst h10;clear X N D;go_enter func268,ntmps268;go_wp2_with(go_at_call 209;refine S.out.mono ?_;rintro e w'⟨rfl,hm⟩;change Hid _ at hm);exact gO (iU rfl _ _ _) rfl ⟨rfl,hm.out⟩
  have ab:(t==10)=false:=by simpa using h10
  by_cases h11:t=11
  .have D:yR s t a 0=j9 s 1 0:=by unfold yR;rw[eI ⟨rfl,.inr h11⟩]
   rw[D];subst h11;clear X N D;go_enter func268,ntmps268;go_wp2_with(go_at_call 209;refine S.out.mono ?_;rintro e w'⟨rfl,hm⟩;change Hid _ at hm);exact gO (iU rfl _ _ _) rfl ⟨rfl,hm.out⟩
  have ac:(t==11)=false:=by simpa using h11
  have D:yR s t a 0=iX s (uO t a 0):=by unfold yR;rw[eE zO]
  rw[D];have M:=eC (O.out zO);clear h10 h11 D;generalize uO t a 0=R at*;go_enter func268,ntmps268;go_wp2_with(first|(go_at_call 265;refine U.out.mono ?_;rintro e w'⟨rfl,hm⟩;change Hid _ at hm)|((with_reducible refine M.out.mono ?_);rintro e y⟨rfl,rfl⟩));exact gO (iU rfl _ _ _) rfl ⟨rfl,hm.out⟩
 .have D:yR s t a b=iX s (uO t a b):=by unfold yR;rw[eE zO]
  rw[D];have M:=eC (O.out (λ_=>J));have af:(b==0)=false:=by simpa using J
  clear D J;generalize uO t a b=R at*;go_enter func268,ntmps268;go_wp2_with(first|(go_at_call 265;refine U.out.mono ?_;rintro e w'⟨rfl,hm⟩;change Hid _ at hm)|((with_reducible refine M.out.mono ?_);rintro e y⟨rfl,rfl⟩));exact gO (iU rfl _ _ _) rfl ⟨rfl,hm.out⟩
end Go.Proofs.YtgmjilingndloaaGreatDoor
