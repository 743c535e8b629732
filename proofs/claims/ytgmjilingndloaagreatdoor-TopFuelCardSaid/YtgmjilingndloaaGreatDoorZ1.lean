/- Part 1 of the proof of TopFuel. No conditions. -/
import Derived.Test.YtgmjilingndloaaGreatDoorZ0
import Derived.Deep.RegionHeld3
import Derived.Lib.AppendZeros
import Derived.Shelf.RegionOpen
import Derived.WalkSpells
open Go renaming Program->bB,TypeId->aX,Value->aT,World->aS,maxLen->aZ,undef->aY
open Go.Ending renaming returned->aO
open Go.Obj renaming cells->aK,deferred->aM,loop->aN
open Go.RowKit renaming Below->aV,intOf->aW
open Go.Value renaming agg->aH,bool->aG,func->aD,int->aC,slice->aA,tuple->aF
open Go.World renaming cell?->bH,size_alloc->bP
open List renaming getElem?_cons_succ->cH,getElem?_cons_zero->dD,length_append->bM,range->dH
open Nat renaming le_refl->bF
open Option renaming map_some->cI,some->dL
namespace Go.Proofs.YtgmjilingndloaaGreatDoor
set_option linter.unusedVariables false
set_option linter.unusedSimpArgs false
set_option maxRecDepth 100000
set_option maxHeartbeats 20000000
open Go Go.RowKit Go.Proofs.Tryz Go.Shelf
variable{w W A B w' C h:aS}{n i b d k e m j f q aa g:Nat}{v:aT}{t pa:Int}{l L:List Nd}{P:bB}{M:Nat->Prop}{ops:Array Oper}{o:Oper}{Q:Exit->Act->aS->Prop}{a:Option Addr}{J:Act}{x:Nd}{D:Nat->Bool}{ac ab:List Oper}{F:Fence}{Bs:List Nat}
structure AV(ops:Array Oper)(a0:Act)(V:Nat->aT)(D:Nat->Bool)(a:Act):Prop where
 val:∀i o d,ops[i]?=some o->o.dst=some d->D i=true->a.tmps[d]?=some (V i)
 old:∀t,(∀i o,ops[i]?=some o->D i=true->o.dst≠some t)->a.tmps[t]?=a0.tmps[t]?
 size:a.tmps.size=a0.tmps.size
 defers:a.defers=a0.defers
def aF3(V:Nat->aT)(i:Nat)(v:aT):Nat->aT:=λj=>if j=i then v else V j
def aBG(D:Nat->Bool)(i:Nat):Nat->Bool:=λj=>if j=i then true else D j
def aDR(ops:Array Oper)(D:Nat->Bool):Prop:=∀(j:Nat)(o:Oper),ops[j]?=some o->D j=true->∀e∈o.after,Region.binds .any e=true->D e.on=true
def aC8(ops:Array Oper)(n:Nat):Bool:=
 (dH ops.size).all λi=>match ops[i]?with
  |none=>true
  |some o=>(o.after.toList.all λe=>decide (e.on<i))&&(match o.dst with
   |none=>true
   |some d=>decide (d<n)&&(dH ops.size).all λj=>j==i||(match ops[j]?with|some o'=>o'.dst !=some d|none=>true))
theorem aEz(h:aC8 ops n=true)(q:ops[i]?=some o):(∀e∈o.after,e.on<i)/\∀d,o.dst=some d->d<n/\∀j m,ops[j]?=some m->m.dst=some d->j=i:=by unfold aC8 at h;rw[IR]at h;have g:=h i (List.mem_range.2 (fB.1 q).1);rw[q]at g;simp only[BV,IR,AX]at g;refine⟨λe he=>g.1 e (by simpa using he),λd hd=>?_⟩;have f:=g.2;rw[hd]at f;simp only[BV,IR,AX]at f;refine⟨f.1,λj m r s=>?_⟩;have k:=f.2 j (List.mem_range.2 (fB.1 r).1);rw[r]at k;simp only[s]at k;simpa using k
theorem AV.put{ops:Array Oper}{s a:Act}{V:Nat->aT}{D:Nat->Bool}(h:AV ops s V D a)(x:aC8 ops s.tmps.size=true){i:Nat}{o:Oper}(q:ops[i]?=some o)(v:aT):AV ops s (aF3 V i v) (aBG D i) (a.put o.dst v):=by
 obtain⟨_,hd⟩:=aEz x q;cases hdst:o.dst with
 |none=>
  refine⟨λj k d f g n=>?_,λt r=>?_,h.size,h.defers⟩
  .have m:j≠i:=λe=>by subst e;rw[q]at f;cases f;rw[hdst]at g;cases g
   have:=h.val j k d f g (by simpa[aBG,m]using n);simpa[Act.put,aF3,m]using this
  .refine h.old t λj k f n=>r j k f ?_;unfold aBG;split<;>simp_all
 |some d0=>
  obtain⟨y,A⟩:=hd d0 hdst;refine⟨λj k d f g n=>?_,λt r=>?_,by simp[Act.put,h.size],h.defers⟩
  .by_cases m:j=i
   .subst m;rw[q]at f;cases f;rw[hdst]at g;cases g;simp[Act.put,aF3,h.size,y]
   .have:=h.val j k d f g (by simpa[aBG,m]using n);have hdd:d0≠d:=λe=>m (A j k f (by rw[g,e]));simp only[Act.put,aF3,m,if_false];rw[Array.getElem?_setIfInBounds_ne hdd];exact this
  .have u:d0≠t:=λe=>r i o q (by simp[aBG]) (by rw[hdst,e]);simp only[Act.put];rw[Array.getElem?_setIfInBounds_ne u];refine h.old t λj k f n=>r j k f ?_;unfold aBG;split<;>simp_all
theorem aDR.not(h:aDR ops D)(d:D i=false)(k:ops[j]?=some o)(e:Edge)(he:e∈o.after)(f:Region.binds .any e=true)(g:e.on=i):D j=false:=by
 cases hj:D j with
 |false=>rfl
 |true=>have:=h j o k hj e he f;rw[g,d]at this;cases this
def wL(R:Nat->Oper->Prop):Nat->List Oper->Prop
 |_,[]=>True
 |k,o::r=>R k o/\wL R (k+1) r
theorem wL.at{R:Nat->Oper->Prop}{k:Nat}{l:List Oper}(h:wL R k l){i:Nat}{o:Oper}(d:l[i]?=some o):R (k+i) o:=by
 induction l generalizing k i with
 |nil=>simp at d
 |cons x l ih=>
  cases i with
  |zero=>simp at d;subst d;exact h.1
  |succ i=>have:=ih h.2 (i:=i) (by simpa using d);rwa[show k+1+i=k+(i+1) by omega]at this
theorem AV.as{f a:Act}{V e:Nat->aT}(h:AV ops f V D a)(k:∀i,D i=true->V i=e i):AV ops f e D a:=
 ⟨λi o d j hd g=>by rw[<-k i g];exact h.val i o d j hd g,h.old,h.size,h.defers⟩
theorem wL.imp{R d:Nat->Oper->Prop}(h:∀i o,R i o->d i o):∀{k:Nat}{l:List Oper},wL R k l->wL d k l
 |_,[],_=>trivial
 |_,_::_,⟨a,b⟩=>⟨h _ _ a,wL.imp h b⟩
def eG(w:aS)(b d:Nat)(e:List aT):Prop:=∀j v,e[j]?=some v->w.cell? ⟨b,d+j,none⟩=some v
structure lL(α:Type)where
 k:Nat
 R:aS->α->List aT->Prop
 len:∀{w x vs},R w x vs->vs.length=k
 one:∀{w x vs},R w x vs->∀u∈vs,u.oneCell'=true
 tags:aX->Prop
 on:∀{w w':aS}{x vs},R w x vs->(∀(k:Nat)(cur:Array aT)(t:aX)(z:Nat×Nat),w.heap[k]?=some (aK cur t z)->tags t->w'.heap[k]?=w.heap[k]?)->R w' x vs
theorem lL.later{α:Type}(K:lL α){x:α}{d:List aT}(h:K.R w x d)(hb:Bl w w'):K.R w' x d:=K.on h λk _ _ _ hk _=>hb.block k (fB.1 hk).1
theorem kJ(b d k:Nat):((b,d):Addr).add k=(b,d+k):=by
 unfold Addr.add;split
 .next h=>rw[h];rfl
 .rfl
theorem eG.below{e:List aT}(h:eG w b d e)(f:aV n w w')(i:b<n):eG w' b d e:=
 λj v g=>(f.cell (p:=(qP b (d+j))) i).trans (h j v g)
theorem eG.same{e:List aT}(h:eG w b d e)(f:w'.heap[b]?=w.heap[b]?):eG w' b d e:=
 λj v g=>(lA (w:=w) (a:=(qP b (d+j))) f).trans (h j v g)
def eS{α:Type}(K:lL α)(w:aS)(a:Option Addr)(L:List α):Prop:=
 L=[]\/∃b d,a=some ⟨b,d,none⟩/\b<(w:Nat)/\∀i x,L[i]?=some x->∃e,K.R w x e/\eG w b (d+i*K.k) e
theorem eS.later{α:Type}{K:lL α}{w w':aS}{a:Option Addr}{L:List α}(h:eS K w a L)(d:Bl w w'):eS K w' a L:=by
 obtain h|⟨b,off,rfl,hlt,h⟩:=h
 .exact .inl h
 .refine .inr ⟨b,off,rfl,gV hlt d.size,λi x hi=>?_⟩;obtain⟨vs,h1,h2⟩:=h i x hi;exact⟨vs,K.later h1 d,h2.below d hlt⟩
theorem eS.at{α:Type}{K:lL α}{w:aS}{a:Option Addr}{L:List α}(h:eS K w a L){i:Nat}{x:α}(hi:L[i]?=some x):∃b d e,a=some ⟨b,d,none⟩/\b<w/\K.R w x e/\eG w b (d+i*K.k) e:=by
 obtain rfl|⟨b,d,rfl,hlt,h⟩:=h
 .simp at hi
 .obtain⟨e,h1,h2⟩:=h i x hi;exact⟨b,d,e,rfl,hlt,h1,h2⟩
theorem eS.nil{α:Type}(K:lL α)(w:aS)(a:Option Addr):eS K w a []:=.inl rfl
theorem ED{k:Nat}:∀{e:List (List aT)},(∀d∈e,d.length=k)->∀{i:Nat}{d:List aT},e[i]?=some d->∀j v,d[j]?=some v->e.flatten[i*k+j]?=some v
 |[],_,i,d,h,j,v,hj=>by simp at h
 |ys::e,hl,0,d,h,j,v,hj=>by
  simp only[dD,dL.injEq]at h
  subst h
  rw[List.flatten_cons,Nat.zero_mul,Nat.zero_add,List.getElem?_append_left (List.getElem?_eq_some_iff.1 hj).1]
  exact hj
 |ys::e,hl,i+1,d,h,j,v,hj=>by
  have g:ys.length=k:=hl ys (DZ ..)
  have:=ED (λd f=>hl d (BP _ f)) (i:=i) (by simpa using h) j v hj
  rw[L3,show(i+1)*k+j=ys.length+(i*k+j) by rw[Nat.succ_mul,g];omega,CQ zO,Nat.add_sub_cancel_left]
  exact this
theorem yE:∀{d:List (List aT)},(∀e∈d,e.length=k)->d.flatten.length=d.length*k
 |[],_=>by simp
 |ys::d,hl=>by
  rw[List.flatten_cons,bM,yE (λe f=>hl e (List.mem_cons_of_mem _ f)),hl ys (List.mem_cons_self ..),List.length_cons,Nat.succ_mul]
  omega
def Enc{α:Type}(K:lL α)(w:aS)(L:List α)(aa:List (List aT)):Prop:=aa.length=L.length/\∀(i:Nat)(x:α),L[i]?=some x->∃vs,aa[i]?=some vs/\K.R w x vs
theorem Enc.lens{α:Type}{K:lL α}{L:List α}{g:List (List aT)}(h:Enc K w L g):∀f∈g,f.length=K.k:=by
 intro f hv;obtain⟨i,e⟩:=List.getElem?_of_mem hv;have aa:i<L.length:=by rw[<-h.1];exact(gX.1 e).1
 obtain⟨ab,d,h2⟩:=h.2 i L[i] (lJ aa);rw[e]at d;cases d;exact K.len h2
theorem Enc.nil{α:Type}(K:lL α)(w:aS):Enc K w [] []:=⟨rfl,λi x h=>by simp at h⟩
theorem Enc.snoc{α:Type}{K:lL α}{L:List α}{aa:List (List aT)}(h:Enc K w L aa){y:α}{e:List aT}(hy:K.R w y e):Enc K w (L++[y]) (aa++[e]):=by
 refine⟨by simp[h.1],λi x d=>?_⟩;by_cases hlt:i<L.length
 .rw[FU hlt]at d;obtain⟨ab,h1,h2⟩:=h.2 i x d;exact⟨ab,by rw[FU (by rw[h.1];exact hlt)];exact h1,h2⟩
 .rw[CQ zO]at d;have h0:i-L.length=0:=by have:=(gX.1 d).1;simp at this;omega
  rw[h0]at d;simp at d;subst d;refine⟨e,?_,hy⟩;rw[CQ (by rw[h.1];omega),h.1,h0];rfl
theorem Enc.on{α:Type}{K:lL α}{L:List α}{f:List (List aT)}(h:Enc K w L f)(hR:∀x∈L,∀d,K.R w x d->K.R w' x d):Enc K w' L f:=
 ⟨h.1,λi x e=>by obtain⟨d,h1,h2⟩:=h.2 i x e;exact⟨d,h1,hR x (iG e) d h2⟩⟩
def eD{α:Type}(K:lL α)(E:aX)(n:Nat)(w:aS)(v:aT)(L:List α):Prop:=∃d,Enc K w L d/\w.ownsRow n E K.k v L.length d.flatten
theorem eD.nil{α:Type}(K:lL α)(E:aX)(n:Nat)(w:aS):eD K E n w qN []:=⟨[],Enc.nil K w,World.ownsRow_nil _ _ _ _⟩
theorem eD.lt{α:Type}{K:lL α}{E:aX}{L:List α}(h:eD K E n w v L):∀k,v.ownBlock=some k->n<=k/\k<w:=by obtain⟨aa,_,h⟩:=h;exact BK h
theorem eD.tag{α:Type}{K:lL α}{E:aX}{L:List α}(h:eD K E n w v L):∀k,v.ownBlock=some k->∃d,w.heap[k]?=some (aK d E (0,0)):=by
 obtain⟨ab,_,h⟩:=h;intro k e;obtain⟨rfl,_⟩|⟨g,aa,d,rfl,_,hg,_⟩:=h.2
 .cases e
 .cases e;exact⟨d,hg⟩
theorem eD.on{α:Type}{K:lL α}{E:aX}{n:Nat}{w w':aS}{v:aT}{L:List α}(h:eD K E n w v L)(hb:∀k,v.ownBlock=some k->w'.heap[k]?=w.heap[k]?)(hR:∀x∈L,∀e,K.R w x e->K.R w' x e):eD K E n w' v L:=by
 obtain⟨aa,h1,d⟩:=h;refine⟨aa,h1.on hR,d.1,?_⟩;obtain hn|⟨g,cap,cur,rfl,hg,hgg,rest⟩:=d.2
 .exact .inl hn
 .exact .inr ⟨g,cap,cur,rfl,hg,by rw[hb g rfl];exact hgg,rest⟩
theorem eD.later{α:Type}{K:lL α}{E:aX}{n:Nat}{w w':aS}{v:aT}{L:List α}(h:eD K E n w v L)(d:Bl w w'):eD K E n w' v L:=
 h.on (λk hk=>d.block k (h.lt k hk).2) λx _ vs hv=>K.later hv d
theorem eD.ls{α:Type}{K:lL α}{E:aX}{L:List α}(h:eD K E n w v L):∃a c,v=aA a L.length c/\eS K w a L/\∀ad,a=some ad->n<=ad.block/\ad.block<w/\ad.off=0/\∃e,w.heap[ad.block]?=some (aK e E (0,0)):=by
 obtain⟨ag,f,k⟩:=h;obtain⟨d,h0⟩|⟨g,aa,e,d,hb,m,ae,ab,ac,af⟩:=k.2
 .have q:L=[]:=List.eq_nil_of_length_eq_zero h0;exact⟨none,0,by rw[d,q];rfl,.inl q,λad h=>by cases h⟩
 .have r:=(fB.1 m).1;refine⟨some (g,0),aa,d,.inr ⟨g,0,rfl,r,λi x hi=>?_⟩,λad h=>by cases h;exact⟨hb,r,rfl,e,m⟩⟩;obtain⟨vs,h3,h4⟩:=f.2 i x hi;refine⟨vs,h4,λj u hj=>?_⟩;have hc:=World.ownsRow.cells k (g:=g) (by rw[d];rfl);have:=hc _ _ (ED f.lens h3 j u hj);rw[kJ,kQ]at this;rw[kQ];exact this
theorem eD.form{α:Type}{K:lL α}{E:aX}{L:List α}{y:α}(h:eD K E n w v (L++[y])):∃g aa,v=aA (some (qP g 0)) (L.length+1) aa:=by obtain⟨ab,_,h⟩:=h;rw[iR,LV]at h;exact ownsRow_succ h
structure gY(P:bB)(S E:aX)(k by':Nat):Prop where
 under:P.underlying S=some (.slice E)
 info:∃(i:TypeInfo)(z:aT),P.info? E=some i/\i.zero=some z/\i.size=k/\i.bytes=by'/\z.cells.size=k
 pos:0<k
 small:by'<=200
theorem gY.of{S E:aX}(m:P.underlying S=some (.slice E))(h:(P.info? E).map (λi=>(i.zero.map (λz=>z.cells.size),i.size,i.bytes))=some (some k,k,b))(j:0<k)(g:b<=200):gY P S E k b:=by
 refine⟨m,?_,j,g⟩;cases h':P.info? E with
 |none=>rw[h']at h;simp at h
 |some i=>
  rw[h']at h;simp only[cI,BU,Prod.mk.injEq]at h;obtain⟨d,e,f⟩:=h;cases hz:i.zero with
  |none=>rw[hz]at d;simp at d
  |some z=>rw[hz]at d;exact⟨i,z,rfl,hz,e,f,by simpa using d⟩
theorem qT{α:Type}{K:lL α}{E:aX}{L:List α}(ab:eD K E n w v L)(aa:¬K.tags E)(hg:w.grownBy w' v.ownBlock){x:α}{vs:List aT}(h:K.R w x vs):K.R w' x vs:=
 K.on h λk ac t z hk ht=>hg.block k (fB.1 hk).1 λe=>by
  obtain⟨ae,h'⟩:=ab.tag k e.symm
  rw[hk]at h'
  cases h'
  exact aa ht
theorem qR{α:Type}{K:lL α}{E:aX}{v':aT}{L:List α}{e:List (List aT)}{y:α}{d:List aT}(h1:Enc K w L e)(hy:K.R w y d)
  (aa:w'.ownsRow n E K.k v' (L.length+1) (e.flatten++d))(hR:∀x d,K.R w x d->K.R w' x d):eD K E n w' v' (L++[y]):=by refine⟨e++[d],(h1.on λx _=>hR x).snoc (hR y d hy),?_⟩;rw[List.flatten_append,iR];simpa using aa
theorem kN{α:Type}{K:lL α}{S E:aX}(D:gY P S E K.k aa)(af:o.guard=none)(s x:Operand)
  (ho:o.op=.call {callee:=.builtin .append,args:=#[s,x],argTypes:=#[S,S]})(n:Nat)(v:aT)(L:List α)(hs:J.eval s=v)(ab:eD K E n w v L)
  (N:Nat)(y:α)(B:List aT)(U:K.R w y B)(hx:J.eval x=aA (some (N,0)) 1 1)(O:eG w N 0 B)(ag:L.length+1<=10000000)(hb:n<=w)
  (ah:¬K.tags E)
  (h:∀M w',eD K E n w' M (L++[y])->w.grownBy w' v.ownBlock->aV n w w'->wpList P ops Q ac (J.put o.dst M) w'):wpList P ops Q (o::ac) J w:=by obtain⟨i,z,hi,hz,ak,ae,al⟩:=D.info;have hR:∀w' x B,w.grownBy w' v.ownBlock->K.R w x B->K.R w' x B:=λw' x B O h=>qT ab ah O h;obtain⟨am,h1,h2⟩:=ab;have ao:=K.len U;have aj:=D.small;refine wpList_append_own _ af s x S ho n E i z K.k aa D.under hi hz ak ae al D.pos v L.length am.flatten hs h2 (N,0) 1 1 B hx zO ?_ (K.one U) (by unfold aZ;omega) (by have:=Nat.mul_le_mul ag aj;omega) hb (λM w' ai R _=>h M w' (qR h1 U ai λx B=>hR w' x B R) R ((iL n w).grown R hb (λk hk=>(BK h2 k hk).1)));intro j u hj;rw[kJ,kQ];simpa using O j u hj
theorem S7{α:Type}{K:lL α}{S E:aX}(D:gY P S E K.k aa)(af:o.guard=none)(s x:Operand)
  (ho:o.op=.call {callee:=.builtin .append,args:=#[s,x],argTypes:=#[S,S]})(n:Nat)(v:aT)(L:List α)(hs:J.eval s=v)(ab:eD K E n w v L)
  (N:Nat)(y:α)(B:List aT)(U:K.R w y B)(hx:J.eval x=aA (some (N,0)) 1 1)(O:eG w N 0 B)(ag:L.length+1<=10000000)(hb:n<=w)
  (ah:¬K.tags E)
  (h:∀M w',eD K E n w' M (L++[y])->w.grownBy w' v.ownBlock->aV n w w'->wpListIn F m P ops Q ac (J.put o.dst M) w'):wpListIn F m P ops Q (o::ac) J w:=by obtain⟨i,z,hi,hz,ak,ae,al⟩:=D.info;have hR:∀w' x B,w.grownBy w' v.ownBlock->K.R w x B->K.R w' x B:=λw' x B O h=>qT ab ah O h;obtain⟨am,h1,h2⟩:=ab;have ao:=K.len U;have aj:=D.small;refine wpListIn_append_own _ af s x S ho n E i z K.k aa D.under hi hz ak ae al D.pos v L.length am.flatten hs h2 (N,0) 1 1 B hx zO ?_ (K.one U) (by unfold aZ;omega) (by have:=Nat.mul_le_mul ag aj;omega) hb (λM w' ai R _=>h M w' (qR h1 U ai λx B=>hR w' x B R) R ((iL n w).grown R hb (λk hk=>(BK h2 k hk).1)));intro j u hj;rw[kJ,kQ];simpa using O j u hj
def r9{α:Type}(K:lL α)(E T:aX)(n ob:Nat)(L:List α)(v:aT)(W:aS):Prop:=W.heap[ob]?=some (aK #[v] T (0,0))/\eD K E n W v L
theorem r9.on{α:Type}{K:lL α}{E T:aX}{n g:Nat}{L:List α}{v:aT}{W i:aS}(h:r9 K E T n g L v W)(f:∀(k:Nat) (d:Array aT) (t:aX) (z:Nat×Nat),W.heap[k]?=some (aK d t z)->(t=T\/t=E\/K.tags t)->i.heap[k]?=W.heap[k]?):r9 K E T n g L v i:=
 ⟨(f g _ _ _ h.1 (.inl rfl)).trans h.1,h.2.on (λk e=>by obtain⟨d,hc⟩:=h.2.tag k e;exact f k _ _ _ hc (.inr (.inl rfl))) λx _ vs hv=>K.on hv λk d t z e ht=>f k d t z e (.inr (.inr ht))⟩
theorem r9.later{α:Type}{K:lL α}{E T:aX}{L:List α}{d:aS}(h:r9 K E T n e L v W)(hb:Bl W d):r9 K E T n e L v d:=
 h.on λk _ _ _ hk _=>hb.block k (fB.1 hk).1
theorem r9.ne{α:Type}{K:lL α}{E T:aX}{L:List α}(h:r9 K E T n d L v W)(hT:E≠T):v.ownBlock≠some d:=λe=>by
 obtain⟨aa,f⟩:=h.2.tag d e
 rw[h.1]at f
 cases f
 exact hT rfl
theorem r9.grown{α:Type}{K:lL α}{E T:aX}{L:List α}{f:aS}(h:r9 K E T n d L v W)(hT:E≠T)(hg:W.grownBy f v.ownBlock):qB f d #[v] T:=
 (hg.block d (fB.1 h.1).1 λe=>h.ne hT e.symm).trans h.1
theorem r9.put{α:Type}{K:lL α}{E T:aX}{L:List α}{g:aT}(h:W.heap[f]?=some (aK #[v] T (0,0)))(hT:E≠T)(aa:¬K.tags T)(q:eD K E n W g L):r9 K E T n f L g (qS W (f,0) g):=by
 have r:∀k,k≠f->(qS W (f,0) g).heap[k]?=W.heap[k]?:=λk d=>pU W (f,0) g k d;have m:∀(k:Nat)(i:Array aT)(t:aX)(z:Nat×Nat),W.heap[k]?=some (aK i t z)->t≠T->k≠f:=λk i t z d j e=>by subst e;rw[d]at h;cases h;exact j rfl
 refine⟨by simp[World.setCell,Array.getElem?_modify,h],q.on (λk d=>?_) λx _ vs hv=>K.on hv λk i t z d j=>r k (m k _ _ _ d (λe=>aa (e▸j)))⟩;obtain⟨i,hc⟩:=q.tag k d;exact r k (m k _ _ _ hc hT)
def kI:lL Int where
 k:=1
 R:=λ_ x e=>e=[aC .i64 x]
 len:=λh=>by rw[h];rfl
 one:=λh u d=>by rw[h]at d;simp at d;subst d;rfl
 tags:=λ_=>False
 on:=λh _=>h
def kP:lL (Int×Int) where
 k:=2
 R:=λ_ x e=>e=[aC .i64 x.1,aC .i64 x.2]
 len:=λh=>by rw[h];rfl
 one:=λh u d=>by rw[h]at d;simp at d;obtain rfl|rfl:=d<;>rfl
 tags:=λ_=>False
 on:=λh _=>h
def kT:lL (Int×Int×Int) where
 k:=3
 R:=λ_ x e=>e=[aC .i64 x.1,aC .i64 x.2.1,aC .i64 x.2.2]
 len:=λh=>by rw[h];rfl
 one:=λh u d=>by rw[h]at d;simp at d;obtain rfl|rfl|rfl:=d<;>rfl
 tags:=λ_=>False
 on:=λh _=>h
theorem eG.one:eG w b e [v]↔w.cell? (b,e)=some v:=by
 refine⟨λh=>by simpa using h 0 v rfl,λh j u d=>?_⟩;match j,d with
 |0,d=>simp at d;subst d;exact h
theorem eG.cons{f:List aT}:eG w b e (v::f)↔w.cell? (b,e)=some v/\eG w b (e+1) f:=by
 refine⟨λh=>⟨by simpa using h 0 v rfl,λj u d=>by have:=h (j+1) u (by simpa using d);rwa[show e+(j+1)=e+1+j by omega]at this⟩,λh j u d=>?_⟩;match j,d with
 |0,d=>simp at d;subst d;exact h.1
 |j+1,d=>have:=h.2 j u (by simpa using d);rwa[show e+1+j=e+(j+1) by omega]at this
theorem eG.nil:eG w b d []:=λj v h=>by simp at h
theorem eG.new(w:aS)(d:List aT)(T:aX):eG (w.alloc (aK d.toArray T)) w 0 d:=by intro j v f;have e:=fG w (aK d.toArray T);unfold bH;rw[e];simpa using f
structure eZ(M:Nat->Prop)(W W':aS):Prop where
 os:W'.os=W.os
 tape:W'.tape=W.tape
 output:W'.output=W.output
 size:(W:Nat)<=(W':Nat)
 block:∀k,k<(W:Nat)->¬M k->W'.heap[k]?=W.heap[k]?
theorem eZ.refl(M:Nat->Prop)(W:aS):eZ M W W:=⟨rfl,rfl,rfl,eX _,λ_ _ _=>rfl⟩
theorem eZ.trans{M:Nat->Prop}{A B C:aS}(h:eZ M A B)(k:eZ M B C):eZ M A C:=
 ⟨k.os.trans h.os,k.tape.trans h.tape,k.output.trans h.output,fA h.size k.size,λi d hm=>(k.block i (gV d h.size) hm).trans (h.block i d hm)⟩
theorem eZ.mono{N:Nat->Prop}(h:eZ M A B)(hm:∀k,k<(A:Nat)->M k->N k):eZ N A B:=⟨h.os,h.tape,h.output,h.size,λi d f=>h.block i d (λe=>f (hm i d e))⟩
theorem eZ.then(h:eZ M A B)(k:Bl B C):eZ M A C:=
 ⟨k.os.trans h.os,k.tape.trans h.tape,k.output.trans h.output,fA h.size k.size,λi d hm=>(k.block i (gV d h.size)).trans (h.block i d hm)⟩
theorem eZ.of(k:Bl A B):eZ M A B:=⟨k.os,k.tape,k.output,k.size,λi d _=>k.block i d⟩
theorem eZ.set(h:eZ M A B){o:Nat}{s:Option Nat}(d:M b\/A<=b)(v:aT):eZ M A (B.setCell ⟨b,o,s⟩ v):=
 ⟨h.os,h.tape,h.output,by simpa[World.setCell]using h.size,λi f hm=>(pU B ⟨b,o,s⟩ v i (λe=>by
  obtain d|d:=d
  .exact hm (by rw[e];exact d)
  .simp only at e;omega)).trans (h.block i f hm)⟩
theorem eZ.grown{f:Option Nat}(h:eZ M A B)(k:B.grownBy C f)(g:∀r,f=some r->M r\/A<=r):eZ M A C:=
 ⟨k.os.trans h.os,k.tape.trans h.tape,k.output.trans h.output,fA h.size k.size,λi d hm=>(k.block i (gV d h.size) (λe=>by
  obtain h1|h1:=g i e.symm
  .exact hm h1
  .omega)).trans (h.block i d hm)⟩
theorem eZ.below(h:eZ M A B)(f:n<=A)(hm:∀k,M k->n<=k):aV n A B:=
 ⟨h.os,h.tape,h.output,h.size,λi d=>h.block i (gV d f) (λe=>by have:=hm i e;omega)⟩
theorem eZ.alloc{M:Nat->Prop}{A B:aS}(h:eZ M A B)(o:Obj):eZ M A (B.alloc o):=h.then ((iL _ B).alloc (eX _) o)
theorem eZ.drew(h:eZ M A B):eZ M A B.drew:=⟨h.os,h.tape,h.output,h.size,h.block⟩
theorem eZ.drewN(h:eZ M A B)(n:Nat):eZ M A (B.drewN n):=⟨h.os,h.tape,h.output,h.size,h.block⟩
theorem eZ.boxed(h:eZ M A B){t:aX}(d:Boxed A b t v)(hm:¬M b):Boxed B b t v:=(h.block b d.lt hm).trans d
structure fD(B:Nat)(W W':aS):Prop where
 os:W'.os=W.os
 tape:W'.tape=W.tape
 output:W'.output=W.output
 size:(W:Nat)<=(W':Nat)
 same:∀(k:Nat)(o:Obj),W.heap[k]?=some o->(k<B\/o.isCells=true)->W'.heap[k]?=some o
def LR{β:Type}(B:Nat)(I:β->aS->Prop):Prop:=∀s W d,I s W->fD B W d->I s d
theorem fD.of{B:Nat}{d:aS}(k:Bl W d):fD B W d:=⟨k.os,k.tape,k.output,k.size,λi o e _=>(k.block i (fB.1 e).1).trans e⟩
theorem fD.put{B l:Nat}{o:Obj}(e:Obj)(n:B<=l)(f:W.heap[l]?=some o)(j:o.isCells=false):fD B W (W.putObj l e):=by
 have g:=grownBy_putObj' W l e;refine⟨g.os,g.tape,g.output,g.size,λk x d m=>?_⟩;have i:k≠l:=by
  rintro rfl;rw[f]at d;cases d;obtain h|h:=m
  .omega
  .rw[j]at h;cases h
 exact(jY i).trans d
theorem fD.below{B:Nat}{d:aS}(g:fD B W d)(h:aV n A W)(j:n<=B)(k:n<=W):aV n A d:=
 ⟨g.os.trans h.os,g.tape.trans h.tape,g.output.trans h.output,fA h.size g.size,λi f=>by
  have e:i<W:=zO
  have:=g.same i W.heap[i] (SZ e) (.inl zO)
  rw[this,<-h.block i f];exact(SZ e).symm⟩
theorem fD.boxed{B:Nat}{d:aS}{t:aX}(g:fD B W d)(h:Boxed W b t v):Boxed d b t v:=g.same _ _ h (.inr rfl)
def oK(f:Nat)(e:List Nat)(W d:aS):Prop:=aV f W d/\∀k∈e,d.heap[k]?=W.heap[k]?
theorem oK.trans{e:Nat}{d:List Nat}{A B C:aS}(h:oK e d A B)(k:oK e d B C):oK e d A C:=⟨h.1.trans k.1,λb f=>(k.2 b f).trans (h.2 b f)⟩
theorem oK.put{l:Nat}{f:List Nat}{o g:Obj}(h:W.heap[l]?=some o)(m:d<=l)(i:∀k∈f,k<l):oK d f W (W.putObj l g):=
 ⟨(iL d W).grown (grownBy_putObj' W l g) (by have:=(fB.1 h).1;omega) (λk e=>by cases e;omega),λk j=>jY (by have:=i k j;omega)⟩
theorem oK.below{d:aS}(h:Bl W d)(f:e<=W)(g:∀k∈Bs,k<W):oK e Bs W d:=⟨h.mono f,λk i=>h.block k (g k i)⟩
def aHE(i j:Nat)(W d:aS):Prop:=∀k,i<=k->k<j->d.heap[k]?=W.heap[k]?
def Wrt(e:Nat)(d:List Nat)(i j:Nat)(W:aS)(k:Nat):Prop:=e<=k/\k∉d/\(k<i\/j<=k)/\∃o,W.heap[k]?=some o/\o.isCells=true
theorem eZ.others{m:List Nat}{e:aS}(h:eZ (Wrt q m i j W) W e):KeepsOthers W e:=
 ⟨h.size,λk o d n=>(h.block k (fB.1 d).1 (λ⟨_,_,_,r,f,g⟩=>by rw[d]at f;cases f;rw[n]at g;cases g)).trans d⟩
def aGA{α:Type}(e:Nat)(d:List Nat)(i j:Nat)(I:List α->aS->Prop)(Ix:Code->List α->aS->Prop)(f:List α)(W:aS):Exit->Act->aS->Prop
 |.normal,_,W'=>eZ (Wrt e d i j W) W W'/\I f W'
 |.ret,_,W'=>eZ (Wrt e d i j W) W W'/\Ix .ret f W'
 |.exit id,_,W'=>eZ (Wrt e d i j W) W W'/\Ix (.exit id) f W'
 |_,_,_=>False
def RV{α:Type}(n:Nat)(P:bB)(gf q:Nat)(m:List Nat)(lb:Array aT)(aa:α->Array aT)(r:List α)(w:aS):Prop:=
 ∀(l:Nat)(J i:List α->aS->Prop)(W:aS),oK q m w W->(∀f d h,J f d->aV d.heap.size d h->J f h)->(∀f d h,i f d->aV d.heap.size d h->i f h)->q<=(W:Nat)->(∀k∈m,k<(W:Nat))->
  (∀f x j d,J f j->aV j.heap.size j d->f++[x]<+:r->YieldAt Fence.wide n P l (aa x) d λe g=>
   (e=aO (aG true)/\J (f++[x]) g/\oK q m d g/\aHE j.heap.size d.heap.size d g)\/(e=aO (aG false)/\i (f++[x]) g/\d.heap.size<=(g:Nat)))->
  J [] W->CallsIn Fence.wide (n+1) P gf (#[aD (.yield l) #[] #[]]++lb) W λe g=>(∃v,e=aO v)/\(J r g\/∃f,f<+:r/\i f g)
theorem J6{α:Type}{g:Operand}{ps:Array Tmp}{assign body:Code}{a:Act}{gf n0:Nat}{lb:Array aT}
  (hg:a.eval g=aD (.func gf) #[] lb)(eg:∀ao w,(callFunc gf ao).run P w=.ok (.enter gf ao) w)
  {aj:α->Array aT}{xs:List α}(bl:RV n P gf n0 Bs lb aj xs w)(ac:∀k∈Bs,k<w.heap.size)(bf:n0<=w.heap.size)(bh:∀x,(aj x).size=ps.size)
  (I:List α->aS->Prop)(Ix:Code->List α->aS->Prop)(hI:LR w.heap.size I)(ak:∀c,LR w.heap.size (Ix c))(h0:I [] w)(ap:aS->α->Act)(U:aS->α->aS)(a0:∀W x,Bl W (U W x))
  (a1:∀(l:Nat) (x:α) (W:aS) (K:Act->aS->Prop),K (ap W x) (U W x)->
   assign.wpIn (Fence.wide.inRound l) n P (Exit.then K (λ_ _ _=>False)) {tmps:=(ps.zip (aj x)).foldl (λt (p,v)=>t.setIfInBounds p v) a.tmps,defers:=[]} W)
  (a2:∀(l:Nat) (J:List α) (x:α) (R W M:aS),I J R->J++[x]<+:xs->w.heap.size+2<=(R:Nat)->fD w.heap.size R M->(R:Nat)<=W.heap.size->
   (∀k,W.heap.size<=k->M.heap[k]?=(U W x).heap[k]?)->(M:Nat)=(U W x).heap.size->body.wpIn (Fence.wide.inRound l) n P (aGA n0 Bs R W.heap.size I Ix (J++[x]) M) (ap W x) M)
  (a6:∀(D:Nat) (W:aS),w.heap.size<=D->I xs W->W.heap[D]?=some (aM (some []))->Q .normal {a with defers:={target:=.collected D,args:=#[]}::a.defers} W)
  (bm:∀(D:Nat) (c:Code) (J:List α) (W:aS),w.heap.size<=D->J<+:xs->Ix c J W->W.heap[D]?=some (aM (some []))->c.wpIn Fence.wide (n+2) P Q {a with defers:={target:=.collected D,args:=#[]}::a.defers} W):
  (Code.rangeFunc g ps assign body).wpIn Fence.wide (n+2) P Q a w:=by
 refine wpIn_rangeFunc λfn a8=>?_;obtain⟨N,f⟩:∃N:LoopState->Option Code->Loop,N=λst pe=>{state:=st,pending:=pe,fn,tmps:=a.tmps,params:=ps,assign,body,defers:=w.heap.size}:=⟨_,rfl⟩;obtain⟨V,hV⟩:=eR ((w.alloc (aM (some []))).alloc (aN (N .ready none)));have bn:(V:Nat)=w.heap.size+1+1:=by rw[<-hV,fO,fO]
 have bj:V.heap[w.heap.size+1]?=some (aN (N .ready none)):=by have:=E9 (w.alloc (aM (some []))) (aN (N .ready none));rw[fO,hV]at this;exact this
 have a5:V.heap[w.heap.size]?=some (aM (some [])):=by rw[<-hV];exact(iI _ _ _ zS).trans (E9 w _)
 have aq:Bl w V:=by rw[<-hV];exact(fL w _).alloc zS _
 have aL:I [] V:=hI _ _ _ h0 (fD.of aq);refine⟨w.heap.size+1,[{target:=.collected w.heap.size,args:=#[]}],V,{target:=.fn (.func gf) lb,args:=#[aD (.yield (w.heap.size+1)) #[] #[]]},V,gf,
  #[aD (.yield (w.heap.size+1)) #[] #[]]++lb,V,?_,?_,(λ_ _=>trivial),?_,(λh=>by cases h),?_⟩
 .rw[<-hV,f];exact run_enterLoop_outer _ _ _ _ _
 .simp only[resolve,hg];simp[go_sem]
 .simp[invoke,go_sem,eg]
 .refine(bl (w.heap.size+1) (λJ W=>I J W/\W.heap[w.heap.size+1]?=some (aN (N .ready none))/\W.heap[w.heap.size]?=some (aM (some [])))
   (λJ W=>∃c,Ix c J W/\W.heap[w.heap.size+1]?=some (aN (N .done (some c)))/\W.heap[w.heap.size]?=some (aM (some []))) V (oK.below aq bf ac)
   (λJ W W' h hb=>⟨hI J W W' h.1 (fD.of hb),(hb.block _ (fB.1 h.2.1).1).trans h.2.1,(hb.block _ (fB.1 h.2.2).1).trans h.2.2⟩)
   (λJ W W' h hb=>by
    obtain⟨c,h1,h2,h3⟩:=h
    exact⟨c,ak c J W W' h1 (fD.of hb),(hb.block _ (fB.1 h2).1).trans h2,(hb.block _ (fB.1 h3).1).trans h3⟩)
   zO (λk O=>by have:=ac k O;omega) ?_ ⟨aL,bj,a5⟩).mono ?_
  .rintro J x R W⟨ar,av,a4⟩ae bg;have ax:w.heap.size+1<(R:Nat):=(fB.1 av).1;have hl:W.heap[w.heap.size+1]?=some (aN (N .ready none)):=(ae.block _ ax).trans av;have hd:W.heap[w.heap.size]?=some (aM (some [])):=(ae.block _ zO).trans a4;have hi:=hI J R W ar (fD.of ae);have aw:w.heap.size+1<W.heap.size:=(fB.1 hl).1;have hy:=run_yield (P:=P) (args:=aj x) hl (by rw[f];exact bh x);rw[f]at hy;refine⟨fn,_,assign,body,hy,roundIn_of_wpIn a8 (a1 _ x W _ ?_)⟩;have ab:=a0 W x;have am:(U W x).heap[w.heap.size+1]?=some (aN (N .ready none)):=(ab.block _ aw).trans hl;have a7:(U W x).heap[w.heap.size]?=some (aM (some [])):=(ab.block _ zO).trans hd;have be:w.heap.size+1<(U W x).heap.size:=gV aw ab.size;have bc:oK n0 Bs W (U W x):=oK.below ab zO (λk O=>by have:=ac k O;omega);refine⟨_,run_beginRound am (by rw[f]),?_⟩;obtain⟨M,aa⟩:=eR ((U W x).putObj (w.heap.size+1) (aN {N .ready none with state:=.busy}));have bd:M.heap[w.heap.size+1]?=some (aN {N .ready none with state:=.busy}):=by rw[<-aa];exact G1 be
   have G7:M.heap[w.heap.size]?=some (aM (some [])):=by rw[<-aa];exact(jY zO).trans a7
   have bb:oK n0 Bs (U W x) M:=by rw[<-aa];exact oK.put am zO (λk O=>by have:=ac k O;omega)
   have az:(M:Nat)=(U W x).heap.size:=by rw[<-aa];exact World.putObj_size
   have ai:Bl R (U W x):=fC ae ab;have hG:fD w.heap.size R M:=by have g:=fD.put (B:=w.heap.size) (aN {N .ready none with state:=.busy}) zO am rfl;rw[aa]at g;exact⟨g.os.trans ai.os,g.tape.trans ai.tape,g.output.trans ai.output,fA ai.size g.size,λk o O hx=>g.same k o ((ai.block k (fB.1 O).1).trans O) hx⟩
   have ba:aHE R W.heap.size W M:=λk h1 h2=>by rw[<-aa];exact(jY zO).trans (ab.block k h2)
   have ay:W.heap.size<=(M:Nat):=by rw[az];exact ab.size
   rw[aa];have al:∀(X:Option Code)(S:aS),KeepsOthers M S->
     (Instr.endRound (w.heap.size+1) X).run P S=.ok (aG X.isNone) (S.putObj (w.heap.size+1) (aN (N (if X.isNone then .ready else .done) X)))/\
     S.heap[w.heap.size+1]?=some (aN {N .ready none with state:=.busy})/\
     (S.putObj (w.heap.size+1) (aN (N (if X.isNone then .ready else .done) X))).heap[w.heap.size+1]?=some (aN (N (if X.isNone then .ready else .done) X))/\
     (S.putObj (w.heap.size+1) (aN (N (if X.isNone then .ready else .done) X))).heap[w.heap.size]?=some (aM (some [])):=λX S au=>by
    have Y:=au.same _ _ bd rfl
    have:=run_endRound (P:=P) X Y
    rw[f]at this|-
    exact⟨this,by rw[f]at Y;exact Y,G1 (fB.1 Y).1,(jY zO).trans (au.same _ _ G7 rfl)⟩
   refine wpIn_mono (a2 _ J x R W M ar bg ax hG ae.size (λk O=>by rw[<-aa];exact jY zO) az) ?_;rintro e a3 S hp;cases e with
   |normal=>obtain⟨Z,ag⟩:=hp;obtain⟨hr,Y,ah,af⟩:=al none S Z.others;have bk:oK n0 Bs M S:=⟨Z.below zO (λk O=>O.1),λk O=>Z.block k (by have:=ac k O;omega) (λh=>h.2.1 O)⟩;refine⟨_,_,hr,.inl ⟨rfl,⟨hI _ _ _ ag (fD.put _ zO Y rfl),ah,af⟩,(bc.trans (bb.trans bk)).trans (oK.put Y zO (λk O=>by have:=ac k O;omega)),λk h1 h2=>(jY zO).trans ((Z.block k zO (λh=>by have:=h.2.2.1;omega)).trans (ba k h1 h2))⟩⟩
   |ret=>obtain⟨Z,ag⟩:=hp;obtain⟨hr,Y,ah,af⟩:=al (some .ret) S Z.others;exact⟨_,_,hr,.inr ⟨rfl,⟨.ret,ak _ _ _ _ ag (fD.put _ zO Y rfl),ah,af⟩,by rw[World.putObj_size];exact fA ay Z.size⟩⟩
   |exit id=>obtain⟨Z,ag⟩:=hp;obtain⟨hr,Y,ah,af⟩:=al (some (.exit id)) S Z.others;exact⟨_,_,hr,.inr ⟨rfl,⟨.exit id,ak _ _ _ _ ag (fD.put _ zO Y rfl),ah,af⟩,by rw[World.putObj_size];exact fA ay Z.size⟩⟩
   |goto t=>exact hp.elim
   |panic ch=>exact hp.elim
   |outgrown=>exact hp.elim
  .rintro e M⟨⟨v,rfl⟩,(⟨hi,hl,hd⟩|⟨J,bi,c,hi,hl,hd⟩)⟩
   .exact⟨none,_,by have:=run_endLoop (P:=P) hl (by rw[f];simp);rw[f]at this;exact this,a6 _ _ (eX _) (hI _ _ _ hi (fD.put _ zO hl rfl)) ((jY zO).trans hd)⟩
   .exact⟨some c,_,by have:=run_endLoop (P:=P) hl (by rw[f];simp);rw[f]at this;exact this,bm _ c J _ (eX _) bi (ak c _ _ _ hi (fD.put _ zO hl rfl)) ((jY zO).trans hd)⟩
theorem fD.out{α:Type}{K:lL α}{E T:aX}{B:Nat}{L:List α}{d:aS}(g:fD B W d)(h:r9 K E T n f L v W):r9 K E T n f L v d:=
 h.on λk aa t z e _=>(g.same k _ e (.inr rfl)).trans e.symm
theorem fD.ownLs{α:Type}{K:lL α}{E:aX}{B:Nat}{L:List α}{e:aS}(g:fD B W e)(h:eD K E n W v L):eD K E n e v L:=
 h.on (λk d=>by obtain⟨aa,f⟩:=h.tag k d;exact(g.same k _ f (.inr rfl)).trans f.symm) λx _ vs hv=>K.on hv λk aa t z d _=>(g.same k _ d (.inr rfl)).trans d.symm
theorem aCa{α β:Type}(K:lL α)(E T:aX)(n ob B:Nat)(f:β->List α):LR B (λs W=>∃v,r9 K E T n ob (f s) v W):=λ_ _ _⟨v,h⟩g=>⟨v,g.out h⟩
theorem WH{β:Type}(B b:Nat)(t:aX)(v:aT):LR B (λ(_:β)W=>Boxed W b t v):=λ_ _ _ h g=>g.boxed h
theorem JQ{β:Type}{B:Nat}{d:aS}(e:n<=B)(hw:n<=d):LR B (λ(_:β)W=>aV n d W):=λ_ _ _ h g=>g.below h e (fA hw h.size)
theorem LR.and{β:Type}{B:Nat}{I d:β->aS->Prop}(h:LR B I)(i:LR B d):LR B (λs W=>I s W/\d s W):=λs W e f g=>⟨h s W e f.1 g,i s W e f.2 g⟩
theorem ZQ{β:Type}(B:Nat):LR B (λ(_:β)_=>False):=λ_ _ _ h _=>h
theorem r9.wrt{α:Type}{K:lL α}{E T:aX}{e:List Nat}{L:List α}{g:aS}(k:r9 K E T n d L v h)(m:r9 K E T n d L v g)(hi:h<=i)(hn:f<=d)(aa:d∉e)(ac:f<=n)(hB:∀b∈e,b<n):
  Wrt f e i j g d/\∀r,v.ownBlock=some r->Wrt f e i j g r:=by refine⟨⟨hn,aa,.inl (by have:=(fB.1 k.1).1;omega),_,m.1,rfl⟩,λr q=>?_⟩;have h1:=k.2.lt r q;obtain⟨ab,hc⟩:=m.2.tag r q;exact⟨zO,λhb=>by have:=hB r hb;omega,.inl zO,_,hc,rfl⟩
theorem aHr{α:Type}{K:lL α}{E T:aX}{f:List Nat}{L:List α}{m:aT}{e k:aS}(h0:r9 K E T n d L v h)(h2:r9 K E T n d L v e)(hi:h<=i)(hn:g<=d)(ac:d∉f)(ab:g<=n)(hB:∀b∈f,b<n)
  (hW:Bl e W)(aa:W.grownBy k v.ownBlock):eZ (Wrt g f i j e) e (qS k (d,0) m):=by obtain⟨h3,h4⟩:=h0.wrt h2 hi hn ac ab hB (j:=j);exact((eZ.of hW).grown aa (λr hr=>.inl (h4 r hr))).set (.inl h3) m
def EC{α:Type}(K:lL α)(n:Nat)(L:List α)(w':aS)(e:Ending):Prop:=∃a c,e=aO (aA a L.length c)/\eS K w' a L/\∀ad,a=some ad->n<=ad.block
theorem OC{α:Type}{K:lL α}{E:aX}{L:List α}(h:eD K E n w v L)(hm:m<=n):EC K m L w (aO v):=by obtain⟨a,c,rfl,h1,h2⟩:=h.ls;exact⟨a,c,rfl,h1,λad e=>fA hm (h2 ad e).1⟩
def eP(w:aS)(a:Option Addr)(L:List Nd):Prop:=L=[]\/∃b d,a=some ⟨b,d,none⟩/\b<(w:Nat)/\∀i x,L[i]?=some x->w.cell? ⟨b,d+i*2,none⟩=some (aC .i64 x.1)/\w.cell? ⟨b,d+i*2+1,none⟩=some (aC .i64 x.2)
theorem eP.below(h:eP w a L)(d:aV n w w')(j:w<=n):eP w' a L:=by
 obtain h|⟨b,off,rfl,hlt,h⟩:=h
 .exact .inl h
 .refine .inr ⟨b,off,rfl,gV hlt d.size,λi x g=>?_⟩;obtain⟨e,f⟩:=h i x g;exact⟨(d.cell (p:=(b,off+i*2)) (by show b<n;omega)).trans e,(d.cell (p:=(b,off+i*2+1)) (by show b<n;omega)).trans f⟩
theorem eP.later(h:eP w a L)(d:Bl w w'):eP w' a L:=h.below d (eX _)
theorem eP.at{w:aS}{a:Option Addr}{L:List Nd}(h:eP w a L){i:Nat}{x:Nd}(e:L[i]?=some x):∃b d,a=some ⟨b,d,none⟩/\b<w/\w.cell? (qP b (d+i*2))=some (qI x.1)/\w.cell? (qP b (d+i*2+1))=some (qI x.2):=by
 obtain rfl|⟨b,d,rfl,hlt,h⟩:=h
 .simp at e
 .obtain⟨f,g⟩:=h i x e;exact⟨b,d,rfl,hlt,f,g⟩
theorem ZY{α:Type}{A:List α}(h:k<A.length):∃x,A[k]?=some x:=⟨A[k],lJ h⟩
theorem nT{a b:Int}(h:a=b):aO (qI a)=aO (qI b):=by rw[h]
theorem aJY{n:Int}(h:(t==2)=true):nN (t,n)=(1,0):=by rw[eq_of_beq h];rfl
theorem aKc{n:Int}(h:(t==3)=true):nN (t,n)=(11,0):=by rw[eq_of_beq h];rfl
theorem aJT{n:Int}(h:(t==4)=true):nN (t,n)=(11,1):=by rw[eq_of_beq h];rfl
theorem aIX{n:Int}(h:(t==21)=true):nN (t,n)=(11,1):=by rw[eq_of_beq h];rfl
theorem aIm{n:Int}(h:(t==22)=true):nN (t,n)=(11,2):=by rw[eq_of_beq h];rfl
theorem aJs{n:Int}(h:(t==5)=true):nN (t,n)=(0,1):=by rw[eq_of_beq h];rfl
theorem aJo{n:Int}(h:(t==6)=true):nN (t,n)=(0,1):=by rw[eq_of_beq h];rfl
theorem aIF{n:Int}(h:(t==25)=true):nN (t,n)=(0,1):=by rw[eq_of_beq h];rfl
theorem aIC{n:Int}(h:(t==24)=true):nN (t,n)=(0,2):=by rw[eq_of_beq h];rfl
theorem aI8{n:Int}(h:(t==20)=true):nN (t,n)=(200,n):=by rw[eq_of_beq h];rfl
theorem aI0{n:Int}(h:(t==23)=true):nN (t,n)=(0,3):=by rw[eq_of_beq h];rfl
theorem aIb{n:Int}(h:(t==26)=true):nN (t,n)=(0,0):=by rw[eq_of_beq h];rfl
theorem aHa{n:Int}(d:7<=t)(e:t<=19):nN (t,n)=(0,2):=by unfold nN;simp only;rw[eE zO,eE zO,eE zO,eE zO,eE zO,eE zO,eE zO,eE zO,eE zO,eI ⟨d,e⟩]
theorem RU{n:Int}(h:t<7\/19<t)(d:(t==2)=false)(q:(t==3)=false)(r:(t==4)=false)(f:(t==21)=false)(g:(t==22)=false)(s:(t==5)=false)(u:(t==6)=false)(k:(t==25)=false)(j:(t==24)=false)
  (e:(t==20)=false)(i:(t==23)=false)(m:(t==26)=false):nN (t,n)=(-1,-1):=by simp only[beq_eq_false_iff_ne,ne_eq]at d q r f g s u k j e i m;unfold nN;simp only;rw[eE zO,eE zO,eE zO,eE zO,eE zO,eE zO,eE zO,eE zO,eE zO,eE zO]
theorem aHc(w:aS)(a b:aT)(T:aX){V:aS}(f:w.alloc (aK #[a,b] T)=V):Bl w V/\w<(V:Nat)/\∀w',Bl V w'->w'.cell? (w,0)=some a/\w'.cell? (w,1)=some b:=by
 subst f;have e:=fG w (aK #[a,b] T);have d:(w:Nat)<(w.alloc (aK #[a,b] T)).heap.size:=by simp
 refine⟨fL w _,d,λw' h=>⟨(h.cell (p:=(w,0)) d).trans (by unfold bH;rw[e];rfl),(h.cell (p:=(w,1)) d).trans (by unfold bH;rw[e];rfl)⟩⟩
theorem SC(w:aS)(o:Obj)(k:Nat):Bl w ((w.alloc o).drewN k):=⟨rfl,rfl,rfl,zS,λj d=>iI _ _ _ d⟩
theorem aCo{n a b:Int}{r:Int×Int}(d:nN (t,n)=r)(h:nN (t,n)=(a,b)):aO (aF #[qI a,qI b])=aO (aF #[qI r.1,qI r.2]):=by rw[<-d,h]
theorem VS(t n:Int)(w:aS):
  qK 225 #[aH #[qI t,qI n]] w (Rt (aF #[qI (nN (t,n)).1,qI (nN (t,n)).2]) w):=by
 generalize B:nN (t,n)=r;change Hid _ at B;go_enter func225,ntmps225;go_wp2
 all_goals try(go_quiet (fail);go_wp2)
 all_goals(go_ret2;refine⟨aCo B ?_,by first|exact SC _ _ _|go_grown⟩)
 all_goals first
  |exact aJY zA
  |exact aKc zA
  |exact aJT zA
  |exact aIX zA
  |exact aIm zA
  |exact aJs zA
  |exact aJo zA
  |exact aIF zA
  |exact aIC zA
  |exact aI8 zA
  |exact aI0 zA
  |exact aIb zA
  |exact aHa zA zA
  |exact RU (.inl zA) zA zA zA zA zA zA zA zA zA zA zA zA
  |exact RU (.inr zA) zA zA zA zA zA zA zA zA zA zA zA zA
theorem aGU{n:Int}(h:(t==1)=true):xG (t,n)=0:=by rw[eq_of_beq h];rfl
theorem aFV{n:Int}(h:(t==1)=false)(d:n<0\/(nN (t,n)).1<n):xG (t,n)=-1:=by simp only[beq_eq_false_iff_ne,ne_eq]at h;unfold xG;rw[eE h,eI d]
theorem aCq{n:Int}(h:(t==1)=false)(d:0<=n)(e:n<=(nN (t,n)).1):xG (t,n)=(nN (t,n)).2:=by simp only[beq_eq_false_iff_ne,ne_eq]at h;unfold xG;rw[eE h,eE (by simp only;omega)]
theorem zP(t n:Int)(w:aS):
  qK 172 #[aH #[qI t,qI n]] w (Rt (qI (xG (t,n))) w):=by
 have J:=eC (λW=>VS t n W);have N:=eC (λh=>aGU (t:=t) (n:=n) h);have B:=eC (λh M=>aFV (t:=t) (n:=n) h M);have D:=eC (λh U M=>aCq (t:=t) (n:=n) h U M);generalize nN (t,n)=q at J B D;generalize xG (t,n)=r at N B D|-;obtain⟨x,y⟩:=q;simp only at J B D;go_enter func172,ntmps172;go_wp2_with fail
 .go_ret;exact⟨nT (N zA).symm,zH⟩
 .obtain⟨V,O⟩:=eR (w.alloc (aK #[t,n] 54));obtain⟨X,Z,Y⟩:=aHc w _ _ _ O;rw[O];refine(J _).mono ?_;rintro e f⟨rfl,R⟩;obtain⟨j,u⟩:=Y f R;have S:=eC (X.trans (R.mono (Nat.le_of_lt Z)));go_wp2
  all_goals(go_ret;refine⟨nT (Eq.symm ?_),S⟩)
  all_goals first
   |exact B zA zA
   |exact D zA zO zO
   |exact B zA (.inl zA)
   |exact B zA (.inr zA)
   |exact D zA zA zA
def FF(l:List Nd)(i k:Nat):Int:=match lC (l.drop i) k with
 |none=>-1
 |some c=>((i+c:Nat):Int)
theorem NS(l:List Nd)(i:Nat):FF l i 0=(i:Int):=by
 unfold FF;have:lC (l.drop i) 0=some 0:=by cases l.drop i<;>rfl
 rw[this];rfl
theorem Q2(h:l.length<=i):FF l i (k+1)=-1:=by unfold FF;rw[D5 h];rfl
theorem OX(h:l[i]?=some x)(e:xG x<0):FF l i (k+1)=-1:=by
 unfold FF;obtain⟨f,he⟩:=gX.1 h;have d:KQ l[i]=none:=by unfold KQ;rw[he,eI e]
 rw[tL f];simp only[lC,d]
theorem NH{a:Nat}(h:l[i]?=some x)(e:xG x=a):FF l i (k+1)=FF l (i+1) (k+a):=by
 unfold FF;obtain⟨f,he⟩:=gX.1 h;have d:KQ l[i]=some a:=by unfold KQ;rw[he,e,eE zO];simp
 rw[tL f];simp only[lC,d];cases lC (l.drop (i+1)) (k+a)with
 |none=>rfl
 |some c=>simp only[cI];omega
theorem UJ(l:List Nd)(k:Nat):rZ l (k:Int)=FF l k 1:=by rw[yY];unfold iD FF;cases lC (l.drop k) 1<;>rfl
theorem lM{l:Nat}{J:Act->aS->Prop}{a:Act}(h:Q .ret a w):Exit.jump l J Q .ret a w:=h
theorem nQ(pa:Option Addr)(c:Nat)(l:List Nd)(q:Int)(w:aS)(hL:eP w pa l)(hm:l.length<=100000):
  qK 173 #[aA pa l.length c,qI q] w (Rt (qI (rZ l q)) w):=by
 have HL:=eC (λV(h:Bl w V)=>hL.later h);obtain⟨m,X⟩:=eR l.length;rw[X]at hm|-;change Hid _ at X;by_cases hq:q<0
 .have hv:rZ l q=-1:=by unfold rZ;rw[eI hq]
  rw[hv];go_enter func173,ntmps173;go_wp2;refine pSj ?_;go_wp2;refine lM ?_;go_ret;exact⟨rfl,iL _ _⟩
 .obtain⟨J,rfl⟩:=qJ (show 0<=q from zO);by_cases hk0:m<=J
  .have hv:rZ l (J:Int)=-1:=by rw[UJ];exact Q2 (by rw[X];exact hk0)
   rw[hv];have d1:decide (m<=J)=true:=by simpa using hk0
   go_enter func173,ntmps173;go_wp2;refine pSj ?_;go_wp2;go_step3;go_wp2;refine lM ?_;go_ret;exact⟨rfl,iL _ _⟩
  .rw[UJ];generalize M:FF l J 1=R;change Hid _ at M;go_enter func173,ntmps173;go_wp2;refine wp_scope_jumps 0 (λa' W=>∃(i k:Nat)(n7 u9 ac ae af ag ah ai aj ak al am ao ap aq ar au av aw ax ay az aL:aT),a'={tmps:=#[aA pa m c,qI J,aY,aY,qI 0,qI i,qI ((k:Int)+1),n7,qI J,u9,ac,ae,af,ag,ah,ai,aj,ak,al,am,ao,ap,aq,ar,au,av,aw,ax,ay,az,aL],defers:=[]}/\FF l i (k+1)=R/\i<=m/\k<=200*i/\Bl w W) (λa' _=>m-(aW (a'.tmps.getD 5 aY)).toNat) rfl ?_ ?_
   .go_wp2;go_step3;have d1:decide (m<=J)=false:=by simpa using hk0
    obtain⟨W,rfl⟩:∃W,W=w:=⟨_,rfl⟩;have U:=iL W W;obtain⟨x,S⟩:=ZY (A:=l) (k:=J) (by rw[X];omega);obtain⟨b,a1,hp,a0,y,c1⟩:=(HL W U).at S;subst hp;obtain⟨t,n⟩:=x;simp only at y c1;have CA:=eC (λV=>zP t n V);have ab:=VQ (t,n);have Y:=eC (λh=>OX (k:=0) S h);have Z:=eC (λa h=>NH (k:=0) (a:=a) S h);generalize xG (t,n)=r at CA ab Y Z;have N:=eC U;by_cases hr:r<0
    .obtain rfl:r=-1:=zO;have B:=eC (Y hr);go_wp2_with(go_at_call 172;refine(CA _).mono ?_;rintro e f⟨rfl,D⟩);refine lM ?_;go_ret;exact⟨nT (by rw[<-M,B]),fC N D⟩
    .obtain⟨a,rfl⟩:=qJ (show 0<=r from zO);have B:=eC (Z a rfl);by_cases hka:0+a=0
     .obtain rfl:a=0:=zO;skip;go_wp2_with(go_at_call 172;refine(CA _).mono ?_;rintro e f⟨rfl,D⟩);refine lM ?_;go_ret;exact⟨nT (by rw[<-M,B,NS];omega),fC N D⟩
     .obtain⟨j,O⟩:∃j,0+a=j+1:=⟨0+a-1,zO⟩;have d9:(0:Int)<1+((a:Int)-1):=zO;have u:=eC O;go_wp2_with(go_at_call 172;refine(CA _).mono ?_;rintro e f⟨rfl,D⟩);have O:=u.out;go_step3;refine⟨rfl,J+1,j,_,_,_,_,_,_,_,_,_,_,_,_,_,_,_,_,_,_,_,_,_,_,_,by rw[show((J+1:Nat):Int)=(J:Int)+1 from zO,show(j:Int)+1=1+((a:Int)-1) by omega],by rw[<-O,<-B];exact M,zO,zO,fC N D⟩
   .rintro a' W⟨i,k,n7,u9,ac,ae,af,ag,ah,ai,aj,ak,al,am,ao,ap,aq,ar,au,av,aw,ax,ay,az,aL,rfl,aa,hi,hk,U⟩;by_cases him:i<m
    .have d1:decide (m<=i)=false:=by simpa using him
     have M:=eC aa;obtain⟨x,S⟩:=ZY (A:=l) (k:=i) (by rw[X];omega);obtain⟨b,a1,hp,a0,y,c1⟩:=(HL W U).at S;subst hp;obtain⟨t,n⟩:=x;simp only at y c1;have CA:=eC (λV=>zP t n V);have ab:=VQ (t,n);have Y:=eC (λh=>OX (k:=k) S h);have Z:=eC (λa h=>NH (k:=k) (a:=a) S h);generalize xG (t,n)=r at CA ab Y Z;have N:=eC U;by_cases hr:r<0
     .obtain rfl:r=-1:=zO;have B:=eC (Y hr);go_wp2_with(go_at_call 172;refine(CA _).mono ?_;rintro e f⟨rfl,D⟩);refine lM ?_;go_ret;exact⟨nT (by rw[<-M,B]),fC N D⟩
     .obtain⟨a,rfl⟩:=qJ (show 0<=r from zO);have B:=eC (Z a rfl);by_cases hka:k+a=0
      .obtain rfl:a=0:=zO;obtain rfl:k=0:=zO;go_wp2_with(go_at_call 172;refine(CA _).mono ?_;rintro e f⟨rfl,D⟩);refine lM ?_;go_ret;exact⟨nT (by rw[<-M,B,NS];omega),fC N D⟩
      .obtain⟨j,O⟩:∃j,k+a=j+1:=⟨k+a-1,zO⟩;have d9:(0:Int)<(k:Int)+1+((a:Int)-1):=zO;have u:=eC O;go_wp2_with(go_at_call 172;refine(CA _).mono ?_;rintro e f⟨rfl,D⟩);have O:=u.out;go_step3;refine⟨rfl,⟨i+1,j,_,_,_,_,_,_,_,_,_,_,_,_,_,_,_,_,_,_,_,_,_,_,_,by rw[show((i+1:Nat):Int)=(i:Int)+1 from zO,show(j:Int)+1=(k:Int)+1+((a:Int)-1) by omega],by rw[<-O,<-B];exact M,zO,zO,fC N D⟩,by simp[aW];omega⟩
    .obtain rfl:i=m:=zO;have B:=eC (Q2 (l:=l) (i:=i) (k:=k) (by rw[X];exact eX _));change Hid _ at aa;go_wp2;refine lM ?_;go_ret;exact⟨nT (by rw[<-aa,B]),U⟩
section
attribute [local go_sem] Oper.semAt_some
theorem lP{l:Nat}{f:FuncId}{d:Array aT}{R:Ending->aS->Prop}(h:Calls P f d w R):CallsIn (Fence.wide.inRound l) n P f d w R:=(hH (n:=n)).2 h
theorem nG:eP w a L↔eS kP w a L:=by
 constructor
 .rintro(h|⟨b,f,rfl,e,h⟩)
  .exact .inl h
  .exact .inr ⟨b,f,rfl,e,λi x d=>⟨[qI x.1,qI x.2],rfl,eG.cons.2 ⟨(h i x d).1,eG.one.2 (h i x d).2⟩⟩⟩
 .rintro(h|⟨b,f,rfl,e,h⟩)
  .exact .inl h
  .refine .inr ⟨b,f,rfl,e,λi x d=>?_⟩;obtain⟨m,j,g⟩:=h i x d;have k:m=[qI x.1,qI x.2]:=j;subst k;exact⟨(eG.cons.1 g).1,eG.one.1 (eG.cons.1 g).2⟩
theorem GK{a:Nat}(h:0<a):(nC l a k)[0]?=some k:=by
 cases a with
 |zero=>omega
 |succ a=>simp[nC]
theorem GS{l:List Nd}:∀{a k i q d:Nat},(nC l a k)[i]?=some q->(nC l a k)[i+1]?=some d->iD l q=some d
 |0,k,i,q,d,h,_=>by simp[nC]at h
 |a+1,k,0,q,d,h,h'=>by
  simp only[nC,dD,dL.injEq]at h
  subst h
  simp only[nC,cH]at h'
  cases he:iD l k with
  |none=>rw[he]at h';simp at h'
  |some e=>
   rw[he]at h'
   simp only at h'
   have f:0<a:=by
    obtain rfl|f:=Nat.eq_zero_or_pos a
    .simp[nC]at h'
    .exact f
   rw[GK f]at h'
   exact h'
 |a+1,k,i+1,q,d,h,h'=>by
  simp only[nC,cH]at h h'
  cases he:iD l k with
  |none=>rw[he]at h;simp at h
  |some e=>
   rw[he]at h h'
   exact GS h h'
theorem NV{L:List Nat}(h:L[i]?=some q):L.take (i+1)=L.take i++[q]:=by obtain⟨d,he⟩:=gX.1 h;rw[TN d,he]
theorem aEw{L:List Nat}(h:L[i]?=some q):L.take i++[q]<+:L:=by rw[<-NV h];exact List.take_prefix _ _
def aGI(q:Nat):Array aT:=#[aC .i64 q]
theorem QX(n M D B:Nat)(S:Option Addr)(c:Nat)(l:List Nd)(k e:Nat)(w0 w:aS)(hA:Boxed w D 3 (qI k))(hL:Boxed w B 23 (aA S l.length c))(h0:w0=M)(Y:aV M w0 w)(hN:eP w0 S l)(hm:l.length<=100000)(he:iD l k=some e):
  RV n prog 279 M [D,B] #[qP D 0,qP B 0] aGI (eO l k) w:=by
 intro lp J Jx W hW ay be a5 ag hY aw;refine callsIn_of_wp func279 rfl trivial ?_ rfl;simp only[ntmps279,PO,iW,rP,Nat.reduceAdd,Nat.reduceSub,XO,VA,XZ,WO,uS,rO];obtain⟨x,a,hx,X,_,_⟩:=lI he;obtain⟨aa,aj,a3⟩:=qZ he hx X;have al:Boxed W D 3 (qI k):=(hW.2 D zS).trans hA;have am:Boxed W B 23 (aA S l.length c):=(hW.2 B zS).trans hL;have bl:=al.cell;have a1:=am.cell;have HN:=eC (λV(h:aV M W V)=>hN.below ((Y.trans hW.1).trans h) (uU h0));have bm:=jW he;have CE:=eC (λ(q:Nat)V(h:aV M W V)=>nQ S c l q V (HN V h) hm);have aL:=(lX X).1;have bg:=(lX X).2;have K0:=eC (λ(h:0<a)=>show(eO l k)[0]?=some (k+1) by rw[aa];exact GK h);have K1:=eC (λ(i q N:Nat)(h:(eO l k)[i]?=some q)(h':(eO l k)[i+1]?=some N)=>show rZ l (q:Int)=(N:Int)from mK (GS (by rw[<-aa];exact h) (by rw[<-aa];exact h')));have K2:=eC (λ(i:Nat)(h:i<a)=>show∃q,(eO l k)[i]?=some q from⟨_,lJ (by rw[aj];exact h)⟩);have K3:=eC (λ(i q:Nat)(h:(eO l k)[i]?=some q)=>show q<=100000 by
  obtain⟨_,e',h1,_⟩:=a3 q (iG h)
  have:=jW h1
  omega);obtain⟨b,ab,hp,bj,c0,c1⟩:=hN.at hx;have HT:=eC (λi q h=>NV (L:=eO l k) (i:=i) (q:=q) h);have HP:=eC (λi q h=>aEw (L:=eO l k) (i:=i) (q:=q) h);have HF:=eC (show(eO l k).take a=eO l k from nH (by rw[aj];exact eX _));subst hp;obtain⟨t,nn⟩:=x;simp only at c0 c1;have d0:=((Y.trans hW.1).cell (p:=(b,ab+k*2)) (by show b<M;omega)).trans c0;have d1:=((Y.trans hW.1).cell (p:=(b,ab+k*2+1)) (by show b<M;omega)).trans c1;have CA:=eC (λV=>zP t nn V);rw[aL]at CA;have bf:=hW;have ac:=eC ay;have HY:=eC hY;have U:=eC (⟨ag D zS,ag B zS⟩:D<W/\B<W);have ba:=eC al;have af:=eC am;have a2:k<l.length:=zO;have bn:k<=100000:=zO;generalize eO l k=Ks at*;obtain⟨m,a4⟩:=eR l.length;rw[a4]at a1 CE af a2;gi_wp2_with(refine⟨trivial,?_⟩;gi_at_call 172;refine(hH.2 (CA _)).mono ?_;rintro e W1⟨rfl,Z⟩);have a6:=Z.size;have aq:=eC (ac _ _ _ aw Z);have au:=eC (oK.below (Bs:=[D,B]) Z a5 (λk y=>by have:=U.out;simp at y;omega));have ap:=eC (λV(h:oK M [D,B] W V)=>(⟨(h.2 B zS).trans af,h.1⟩:Boxed V B 23 (aA (some (b,ab)) m c)/\aV M W V));have bh:=U.1;have bi:=U.2;gi_loopw [4,12] (λq i wr=>∃(j:Nat)(v:Int),j<=a/\i=qI j/\q=qI v/\(j<a->∃u,Ks[j]?=some u/\v=(u:Int))/\J (Ks.take j) wr/\oK M [D,B] W wr/\W<=(wr:Nat)) (λ_ i _=>a-(aW i).toNat)
 case atStart=>exact⟨0,(k:Int)+1,zO,rfl,rfl,λh=>⟨k+1,K0 h,zO⟩,aq,au,a6⟩
 case round=>
  obtain⟨j,v,hj,rfl,rfl,hv,hJ,hK,hz⟩:=hrel;have HJ:=eC hJ;have HK:=eC hK;by_cases hlt:j<a
  .obtain⟨u,R,rfl⟩:=hv hlt;have ae:=eC (HP j u R);have av:=eC (HT j u R);have bp:=K3 j u R;have HV:=eC (λ(h:j+1<a)=>show∃u',Ks[j+1]?=some u'/\rZ l (u:Int)=(u':Int) by
    obtain⟨N,ak⟩:=K2 (j+1) h
    exact⟨N,ak,K1 j u N R ak⟩);have hX:=HY _ _ wr wr HJ (iL _ _) ae;obtain⟨fn,br,bb,bc,hy,hR⟩:=hX;unfold aGI at hy;gi_wp2;refine hR.mono ?_;rintro e W3(⟨rfl,ax,az,bd⟩|⟨rfl,a7,a8⟩)
   .have ai:=HK.trans az;obtain⟨ah,a0⟩:=ap _ ai;have bk:=ah.cell;have O:=eC ai;have ar:=eC ax;have bo:=ah.lt;have a8:W<=(W3:Nat)\/True:=.inr trivial;have ao:=eC (CE u _ a0);gi_wp2_with(refine⟨trivial,?_⟩;gi_at_call 173;refine(hH.2 ao).mono ?_;rintro e W4⟨rfl,f⟩);have bq:=f.size;go_roundw
    case rel=>exact⟨j+1,_,zO,by go_num,rfl,λh=>HV h,by rw[av];exact ac _ _ _ ar f,O.trans (oK.below f (by have:=O.1.size;omega) (λk y=>by have:=O.1.size;simp at y;omega)),by have:=O.1.size;omega⟩
    case measure=>simp[aW];omega
   .gi_wp2;refine gO (iU rfl _ _ _) rfl ?_;exact⟨⟨_,rfl⟩,.inr ⟨_,ae,a7⟩⟩
  .obtain rfl:j=a:=zO;gi_wp2;go_end0;exact⟨⟨_,rfl⟩,.inl (by rw[<-HF];exact HJ)⟩
end
section
attribute [local go_sem] Oper.semAt_some
theorem ZG(B:Option Addr)(m c:Nat)(q:Int)(w:aS)(k:Nat):CallsIn Fence.wide k prog 226 #[aA B m c,qI q] w λe w'=>e=aO (aD (.func 279) #[] #[qP ((w:Nat)+1) 0,qP w 0])/\(w.alloc (aK #[aA B m c] 23)).alloc (aK #[qI q] 3)=w':=by refine hH.2 ?_;go_enter func226,ntmps226;go_wp2;go_ret;exact⟨rfl,rfl⟩
theorem rV:gY prog 22 3 1 8:=gY.of underlying22 zK zD zD
def mJ(L:List Nat):List Int:=L.map λx:Nat=>(x:Int)
theorem yN(M:Option Addr)(c:Nat)(l:List Nd)(k:Nat)(w:aS)(j:eP w M l)(hm:l.length<=100000):
  qK 227 #[aA M l.length c,qI k] w λe w'=>EC kI w (mJ (if(iD l k).isSome then eO l k else [])) w' e/\aV w w w':=by
 refine(callsIn_wide (n:=2)).1 ?_;cases he:iD l k with
 |none=>have R:=Lib.hid (nQ M c l k w j hm);rw[uY he]at R;clear he j hm;refine callsIn_wide.2 ?_;go_enter func227,ntmps227;go_wp2_with(go_at_call 173;refine R.out.mono ?_;rintro e J⟨rfl,U⟩);go_ret;exact⟨⟨none,0,rfl,eS.nil _ _ _,λad h=>by cases h⟩,U⟩
 |some y=>
  have R:=Lib.hid (nQ M c l k w j hm);rw[mK he]at R;have a1:=jW he;have az:(eO l k).length<=200:=by obtain⟨x,a,hx,ha,_⟩:=lI he;rw[(qZ he hx ha).2.1];exact(lX ha).2
  simp only[Option.isSome_some,if_true];refine callsIn_of_wp_marks func227 rfl trivial ?_ rfl;simp only[ntmps227,List.size_toArray,List.length_cons,List.length_nil,Nat.reduceAdd,Nat.reduceSub,Array.replicate_succ,Array.replicate_zero,List.push_toArray,List.append_toArray,List.nil_append,List.cons_append];change Hid _ at he;gi_wp2_with(first|(refine⟨trivial,?_⟩;gi_at_call 173;refine(callsIn_wide.2 R.out).mono ?_;rintro e J⟨rfl,U⟩)|(refine⟨trivial,?_⟩;gi_at_call 226;refine(ZG _ _ _ _ _ _).mono ?_;rintro e w3⟨rfl,rfl⟩));obtain⟨V,O⟩:=eR (((J.alloc (aK #[qN] 22)).alloc (aK #[aA M l.length c] 23)).alloc (aK #[qI k] 3));have hz:V=(J:Nat)+3:=by rw[<-O];simp
  have al:=U.size;have ab:aV J J V:=by rw[<-O];exact((fL J _).alloc zS _).alloc zT _
  have X:=U.trans (ab.mono al);have ah:Boxed V ((J:Nat)+1+1) 3 (qI k):=by have:=Boxed.new ((J.alloc (aK #[qN] 22)).alloc (aK #[aA M l.length c] 23)) 3 (qI k);rw[O,bP,bP]at this;exact this
  have ai:Boxed V ((J:Nat)+1) 23 (aA M l.length c):=by have:=(Boxed.new (J.alloc (aK #[qN] 22)) 23 (aA M l.length c)).alloc (aK #[qI k] 3);rw[O,bP]at this;exact this
  have aj:Boxed V J 22 qN:=by have:=((Boxed.new J 22 qN).alloc (aK #[aA M l.length c] 23)).alloc (aK #[qI k] 3);rw[O]at this;exact this
  rw[O];refine J6 (n:=0) (gf:=279) (n0:=(w:Nat)) (Bs:=[(J:Nat)+1+1,(J:Nat)+1]) (lb:=#[qP ((J:Nat)+1+1) 0,qP ((J:Nat)+1) 0]) rfl (enters_of func279 zK rfl)
   (QX _ _ _ _ M c l k y w V ah ai rfl X j hm he.out) (λb hb=>by simp at hb;omega) X.size (λ_=>rfl)
   (λY W=>aV w w W/\∃v,r9 kI 3 22 ((J:Nat)+3) J (mJ Y) v W) (λ_ _ _=>False) ((JQ X.size (bF _)).and (aCa _ _ _ _ _ _ _)) (λ_=>ZQ _)
   ⟨X,_,aj,eD.nil _ _ _ _⟩
   (λW q=>{tmps:=#[aA M l.length c,qI k,aY,aY,qN,qP J 0,qI q,aA M l.length c,qI k,qI y,aG (decide ((y:Int)<0)),aA M l.length c,qI k,aD (.func 279) #[] #[qP ((J:Nat)+1+1) 0,qP ((J:Nat)+1) 0],qI q,aY,aY,aY,aY,aY],defers:=[]})
   (λW q=>W) (λW q=>Below.refl _ _) ?assign ?body ?done ?stop
  case assign=>
   intro l x W K hK;unfold aGI;gi_wp2
   first|exact hK|simpa using hK
  case body=>
   rintro lp Y q W0 W S⟨f,v,N⟩ag a2 Z aL am au;have u:=Z.out N;have ac:Boxed S J 22 v:=u.1;have hc:=ac.cell;have ar:=ag.length_le;rw[bM,List.length_singleton]at ar;have ao:=Z.below f X.size f.size;have ax:=Z.size;have HO:=Lib.hid N;have HA:=Lib.hid (u.later ((Below.refl _ S).alloc (bF _) (aK #[qI q] 3)));have aq:(mJ Y).length+1<=10000000:=by unfold mJ;rw[List.length_map];omega
   change Hid _ at u;clear ag Z am au N ac ah ai aj he U ab;gi_wp2_with(gi_at_builtin;refine S7 rV rfl _ _ rfl ((J:Nat)+3) v (mJ Y) rfl HA.out.2 S (q:Int) [qI q] rfl rfl (eG.new _ _ _) aq zT (λh=>h) ?_;intro v' W3 af ae ap;obtain⟨g',ak,rfl⟩:=af.form;have aa:=HA.out.grown zD ae;have av:=Boxed.cell aa;have aw:=Boxed.frozen aa);refine⟨aHr HO.out u.out (bF _) zO zT zO (λb hb=>by simp at hb;omega) (fL S _) ae,?_,aA (some (g',0)) ((mJ Y).length+1) ak,?_⟩
   .exact ao.trans (((fL S _).mono zO).trans ((ap.mono zO).setCell (by show _<=(J:Nat);omega) _))
   .have:=r9.put (K:=kI) aa zD (λh=>h) af;simpa[mJ]using this
  case done=>rintro D W hD⟨f,v,N⟩hK;have hc:=Boxed.cell N.1;have HR:=Lib.hid (OC (m:=(w:Nat)) ((fD.put (B:=(V:Nat)) (aM none) hD hK rfl).ownLs N.2) zO);obtain⟨a',c',rfl,a0,ay⟩:=N.2.ls;gi_wp2;refine⟨zS,.inl ⟨_,_,rfl,run_takeDeferred hK,?_⟩⟩;refine⟨_,results_tmp rfl _ _ _,?_,f.trans (belowK_b (w:=w) (bF _) W D _ _ zO hK rfl rfl)⟩;exact HR.out
  case stop=>exact λ_ _ _ _ _ _ h=>h.elim
end
theorem eG.append{d f:List aT}:eG w b e (d++f)↔eG w b e d/\eG w b (e+d.length) f:=by
 induction d generalizing e with
 |nil=>simp[eG.nil]
 |cons u d ih=>rw[rO,eG.cons,eG.cons,ih,iW,show e+1+d.length=e+(d.length+1)from zO,and_assoc]
theorem UQ{α:Type}{K:lL α}{w:aS}{b:Nat}:∀{ys:List α}{off:Nat},(∀(i:Nat)(x:α),ys[i]?=some x->∃e,K.R w x e/\eG w b (off+i*K.k) e)->∃f,Enc K w ys f/\eG w b off f.flatten
 |[],off,h=>⟨[],Enc.nil K w,by simp[eG.nil]⟩
 |x::ys,off,h=>by
  obtain⟨e,h1,h2⟩:=h 0 x rfl
  obtain⟨f,h3,h4⟩:=UQ (ys:=ys) (off:=off+K.k) (λi y d=>by
   obtain⟨us,g1,g2⟩:=h (i+1) y (by simpa using d)
   exact⟨us,g1,by rw[show off+K.k+i*K.k=off+(i+1)*K.k by rw[Nat.succ_mul];omega];exact g2⟩)
  refine⟨e::f,⟨by simp[h3.1],λi y d=>?_⟩,?_⟩
  .match i,d with
   |0,d=>simp at d;subst d;exact⟨e,rfl,h1⟩
   |i+1,d=>simpa using h3.2 i y (by simpa using d)
  .rw[L3,eG.append,K.len h1]
   exact⟨by simpa using h2,h4⟩
theorem Enc.append{α:Type}{K:lL α}{L M:List α}{j m:List (List aT)}(h:Enc K w L j)(k:Enc K w M m):Enc K w (L++M) (j++m):=by
 refine⟨by simp[h.1,k.1],λi x d=>?_⟩;by_cases hlt:i<L.length
 .rw[FU hlt]at d;obtain⟨g,e,f⟩:=h.2 i x d;exact⟨g,by rw[FU (by rw[h.1];exact hlt)];exact e,f⟩
 .rw[CQ zO]at d;obtain⟨g,e,f⟩:=k.2 _ x d;exact⟨g,by rw[CQ (by rw[h.1];omega),h.1];exact e,f⟩
theorem Enc.ones{α:Type}{K:lL α}{L:List α}{f:List (List aT)}(h:Enc K w L f):∀u∈f.flatten,u.oneCell'=true:=by
 intro u hu;obtain⟨vs,hv,ab⟩:=List.mem_flatten.1 hu;obtain⟨i,e⟩:=List.getElem?_of_mem hv;have aa:i<L.length:=by rw[<-h.1];exact(gX.1 e).1
 obtain⟨ac,d,h2⟩:=h.2 i L[i] (lJ aa);rw[e]at d;cases d;exact K.one h2 u ab
theorem G0(w:aS)(base:Nat)(t m e:aX)(i:TypeInfo)(k:Nat)(f:P.underlying t=some (.slice e))(d:P.info? e=some i)
  (v:aT)(n:Nat)(q:List aT)(j:w.ownsRow base e k v n q)(c:Nat):(Builtin.append_ #[t,t] m #[v,aA none 0 c]).run P w=.ok v w:=by
 obtain⟨rfl,rfl⟩|⟨g,r,s,rfl,_,_,h,_⟩:=j.2
 .simp[Builtin.append_,run_underlying f,sizeOf,typeInfo,d,Builtin.lenOf,Builtin.firstCells]
 .simp[Builtin.append_,run_underlying f,sizeOf,typeInfo,d,Builtin.lenOf,Builtin.firstCells,h,storeCells]
theorem sN{α:Type}{K:lL α}{S E:aX}(f:gY P S E K.k aa)(ag:¬K.tags E)(w:aS)(y:aX)(n:Nat)(v:aT)(L:List α)(ac:eD K E n w v L)
  (s:Option Addr)(c:Nat)(d:List α)(hy:eS K w s d)(af:L.length+d.length<=10000000)(hb:n<=w):
  ∃m w',(Builtin.append_ #[S,S] y #[v,aA s d.length c]).run P w=.ok m w'/\eD K E n w' m (L++d)/\w.grownBy w' v.ownBlock:=by
 obtain⟨i,z,hi,hz,aj,ae,ak⟩:=f.info;have hR:∀w' x g,w.grownBy w' v.ownBlock->K.R w x g->K.R w' x g:=λw' x g hg h=>qT ac ag hg h;obtain⟨q,h1,r⟩:=ac;have ai:=f.small;cases s with
 |none=>
  have h0:d=[]:=by
   obtain h|⟨b,off,h,_⟩:=hy
   .exact h
   .cases h
  subst h0;exact⟨v,w,G0 w n S y E i K.k f.under hi v L.length q.flatten r c,by rw[EL];exact⟨q,h1,r⟩,World.grownBy.refl w _⟩
 |some ad=>
  obtain⟨e,k,hC⟩:∃e,Enc K w d e/\∀j u,e.flatten[j]?=some u->w.cell? (ad.add j)=some u:=by
   obtain rfl|⟨b,off,h,hlt,hh⟩:=hy
   .exact⟨[],Enc.nil K w,λj u h=>by simp at h⟩
   .cases h;obtain⟨e,g1,g2⟩:=UQ hh;exact⟨e,g1,λj u hj=>by rw[kJ];exact g2 j u hj⟩
  have ab:=yE k.lens;rw[k.1]at ab;obtain⟨m,w',ah,r1,r2,_⟩:=run_append_own (P:=P) w n S y E i z K.k aa f.under hi hz aj ae ak f.pos v L.length q.flatten r ad d.length c e.flatten ab hC k.ones (by unfold aZ;omega) (by have:=Nat.mul_le_mul af ai;omega) hb;refine⟨m,w',ah,⟨q++e,(h1.append k).on λx _ g=>hR w' x g r2,?_⟩,r2⟩;rw[List.flatten_append,iR];exact r1
theorem B8{α:Type}{K:lL α}{S E:aX}{ac:Nat}(EO:gY P S E K.k ac)(ag:¬K.tags E)(ae:o.guard=none)(s x:Operand)
  (ho:o.op=.call {callee:=.builtin .append,args:=#[s,x],argTypes:=#[S,S]})(n:Nat)(v:aT)(L:List α)(hs:J.eval s=v)(aa:eD K E n w v L)
  (M:Option Addr)(c:Nat)(D:List α)(hx:J.eval x=aA M D.length c)(hy:eS K w M D)(af:L.length+D.length<=10000000)(hb:n<=w)
  (h:∀B w',eD K E n w' B (L++D)->w.grownBy w' v.ownBlock->aV n w w'->wpList P ops Q ab (J.put o.dst B) w'):wpList P ops Q (o::ab) J w:=by obtain⟨B,w',ah,h1,h2⟩:=sN (P:=P) EO ag w o.type n v L aa M c D hy af hb;exact Lib.wpList_append_run w ae s x S S ho v _ hs hx B w' ah (h B w' h1 h2 ((iL n w).grown h2 hb (λk hk=>(aa.lt k hk).1)))
theorem QD{α:Type}{K:lL α}{S E:aX}{ac:Nat}(EO:gY P S E K.k ac)(ai:¬K.tags E){D:Act}(ag:o.guard=none)(s x:Operand)
  (M:o.op=.call {callee:=.builtin .append,args:=#[s,x],argTypes:=#[S,S]})(n:Nat)(v:aT)(L:List α)(hs:D.eval s=v)(aa:eD K E n w v L)
  (N:Option Addr)(c:Nat)(B:List α)(hx:D.eval x=aA N B.length c)(hy:eS K w N B)(ah:L.length+B.length<=10000000)(hb:n<=w)
  (h:∀J w',eD K E n w' J (L++B)->w.grownBy w' v.ownBlock->aV n w w'->wpListIn F m P ops Q ab (D.put o.dst J) w'):wpListIn F m P ops Q (o::ab) D w:=by
 obtain⟨J,w',aj,h1,h2⟩:=sN (P:=P) EO ai w o.type n v L aa N c B hy ah hb;refine wpListIn_plain ag λK' ae=>?_;unfold Oper.wpIn;refine⟨?_,?_⟩
 .simp[Oper.about,M,resolve,Target.leads,Sem.run_pure]
 .rw[Oper.semAt_plain F _ _ (by rw[M];intro c af;cases af)];simp[execOp,M,resolve,invoke,builtin,hs,hx,aj,Result.andThen];exact ae _ _ (h J w' h1 h2 ((iL n w).grown h2 hb (λk hk=>(aa.lt k hk).1)))
theorem eD.empty{α:Type}(K:lL α)(E:aX){e:Array aT}(h:qB w g e E)(i:n<=g)(f:d<=aZ)(j:e.size=d*K.k):eD K E n w (aA (some (g,0)) 0 d) []:=
 ⟨[],Enc.nil K w,zS,.inr ⟨g,d,e,rfl,i,h,kU _,f,j,zS⟩⟩
theorem eD.mono{α:Type}{K:lL α}{E:aX}{L:List α}(h:eD K E n w v L)(hm:m<=n):eD K E m w v L:=by
 obtain⟨aa,h1,h2,d⟩:=h;refine⟨aa,h1,h2,?_⟩;obtain d|⟨g,cap,cur,a,b,r⟩:=d
 .exact .inl d
 .exact .inr ⟨g,cap,cur,a,fA hm b,r⟩
section
attribute [local go_sem] Oper.semAt_some
theorem NC(f:Nat)(h:iD l k=none):uT l f k=0:=by cases f<;>simp[uT,h]
theorem aBk(h:iD l k=some e):uT l (f+1) k=(eO l k).foldl (λn q=>max n (uT l f q)) 0+1:=by simp[uT,h]
theorem KD(B:Option Addr)(c:Nat)(l:List Nd)(hm:l.length<=100000)(k:Nat)(w:aS)(J:eP w B l)(he:iD l k=none):
  qK 174 #[aA B l.length c,qI k] w (Rt (qI ((0:Nat):Int)) w):=by have D:=eC (λV(h:eP V B l)=>nQ B c l k V h hm);rw[uY he]at D;have M:=eC (λV(h:Bl w V)=>J.later h);clear he J;go_enter func174,ntmps174;go_wp2_with(go_at_call 173;refine(D _ (M _ (fL w _))).mono ?_;rintro e O⟨rfl,N⟩);go_ret;exact⟨rfl,(fL w _).trans (N.mono zS)⟩
theorem EX{d:aS}{t:aX}(h:Boxed W b t v)(e:Bl W d):Boxed d b t v:=(e.block b h.lt).trans h
theorem aA9(g:Nat->Nat)(d:List Nat)(q:Nat):(d++[q]).foldl (λn q=>max n (g q)) 0=max (d.foldl (λn q=>max n (g q)) 0) (g q):=by simp
theorem Z9(g:Nat->Nat)(B:Nat)(e:∀q,g q<=B)(L:List Nat):L.foldl (λn q=>max n (g q)) 0<=B:=by
 have:∀(L:List Nat)(n:Nat),n<=B->L.foldl (λn q=>max n (g q)) n<=B:=by
  intro L;induction L with
  |nil=>intro n d;exact d
  |cons q L ih=>intro n d;exact ih _ (Nat.max_le.2 ⟨d,e q⟩)
 exact this L 0 (kU _)
theorem aEj(J:Option Addr)(c:Nat)(l:List Nd)(hm:l.length<=100000):∀(d k f:Nat)(w:aS),eP w J l->l.length-k<=d->d<=f->f<=100000->
  qK 174 #[aA J l.length c,qI k] w (Rt (qI (uT l f k:Nat)) w):=by
 intro d;induction d with
 |zero=>
  intro k f w N hd hf aq;have he:iD l k=none:=by
   cases h:iD l k with
   |none=>rfl
   |some e=>have:=jW h;omega
  rw[NC _ he];exact KD J c l hm k w N he
 |succ d ih=>
  intro k f w N hd hf aq;refine(hH (n:=2)).1 ?_;cases he:iD l k with
  |none=>rw[NC _ he];exact hH.2 (KD J c l hm k w N he)
  |some y=>
   obtain⟨f,rfl⟩:∃g,f=g+1:=⟨f-1,zO⟩;rw[aBk he];have CE:=eC (λV(h:eP V J l)=>nQ J c l k V h hm);rw[mK he]at CE;have bb:=jW he;have ac:=PJ l f;refine xI func174 rfl trivial ?_ rfl;simp only[ntmps174,PO,iW,rP,Nat.reduceAdd,Nat.reduceSub,XO,VA,XZ,WO,uS,rO];have al:=eC (oT he);have CD:=eC (λ(q:Nat)(hq:k<q)(V:aS)(h:eP V J l)=>ih q f V h zO zO zO);have HL:=eC (λV(h:Bl w V)=>N.later h);change Hid _ at he N;gi_wp2_with(first|(refine⟨trivial,?_⟩;gi_at_call 173;refine(hH.2 (CE _ (HL _ (fL w _)))).mono ?_;rintro e B⟨rfl,ah⟩;have ae:=EX (oI w 23 (aA J l.length c)) ah;have bg:=ae.cell;have a1:=ae.lt)|(refine⟨trivial,?_⟩;gi_at_call 226;refine(ZG _ _ _ _ _ _).mono ?_;rintro e w3⟨rfl,rfl⟩));obtain⟨V,O⟩:=eR (((B.alloc (aK #[qI 0] 3)).alloc (aK #[aA J l.length c] 23)).alloc (aK #[qI k] 3));have hz:V=(B:Nat)+3:=by rw[<-O];simp
   have ag:=(fL w _).trans (ah.mono zS);have am:=ag.size;have ai:Bl B V:=by rw[<-O];exact((fL B _).alloc zS _).alloc zT _
   have S:=ag.trans (ai.mono am);have ay:Boxed V ((B:Nat)+1+1) 3 (qI k):=by have:=oI ((B.alloc (aK #[qI 0] 3)).alloc (aK #[aA J l.length c] 23)) 3 (qI k);rw[O,fO,fO]at this;exact this
   have az:Boxed V ((B:Nat)+1) 23 (aA J l.length c):=by have:=(oI (B.alloc (aK #[qI 0] 3)) 23 (aA J l.length c)).alloc (aK #[qI k] 3);rw[O,fO]at this;exact this
   have aL:Boxed V B 3 (qI 0):=by have:=((oI B 3 (qI 0)).alloc (aK #[aA J l.length c] 23)).alloc (aK #[qI k] 3);rw[O]at this;exact this
   have a0:=EX ae ai;rw[O];refine J6 (n:=0) (gf:=279) (n0:=(w:Nat)) (Bs:=[(B:Nat)+1+1,(B:Nat)+1]) (lb:=#[qP ((B:Nat)+1+1) 0,qP ((B:Nat)+1) 0]) rfl (l8 func279 zK rfl)
    (QX _ _ _ _ J c l k y w V ay az rfl S N hm he) (λb hb=>by simp at hb;omega) S.size (λ_=>rfl)
    (λU W=>Bl w W/\Boxed W w 23 (aA J l.length c)/\Boxed W B 3 (qI (U.foldl (λn q=>max n (uT l f q)) 0:Nat))) (λ_ _ _=>False) ((JQ S.size (eX _)).and ((WH _ _ _ _).and (λ_ _ _ h g=>g.boxed h))) (λ_=>ZQ _)
    ⟨S,a0,aL⟩
    (λW q=>{tmps:=#[aA J l.length c,qI k,qP w 0,aY,qI 0,qP B 0,qI q,aA J l.length c,qI k,qI y,aG (decide ((y:Int)<0)),aA J l.length c,qI k,aD (.func 279) #[] #[qP ((B:Nat)+1+1) 0,qP ((B:Nat)+1) 0],qI q,aY,aY,aY,aY,aY,aY,aY],defers:=[]})
    (λW q=>W) (λW q=>iL _ _) ?assign ?body ?done ?stop
   case assign=>
    intro l x W K hK;unfold aGI;gi_wp2
    first|exact hK|simpa using hK
   case body=>
    rintro lp U q W0 W X⟨j,af,u⟩av be Z ba a2 bj;have aa:=Z.below j S.size j.size;have Y:=Z.boxed af;have M:=Z.boxed u;have a3:=Y.cell;have a4:=M.cell;have a6:=M.frozen;have bh:=Y.lt;have bi:=M.lt;have a8:=Z.size;have aw:=(al q (av.subset zS)).1;have aj:=eC (λV h=>CD q aw V (HL V (aa.trans ((show Bl X V from h).mono zO))));have au:=Z9 (uT l f) f ac U;have bd:=ac q;have HS:=eC (aA9 (uT l f) U q);have bf:=a1;have ao:=u.lt;change Hid _ at aa M Y;generalize U.foldl (λn q=>max n (uT l f q)) 0=n at*;generalize uT l f q=dq at*;gi_wp2;have bc:prog.follows .mixedOrders=true:=zK;have ak:=eC (aj X.drew (jX _));gi_region_with_o ((refine⟨trivial,rfl,?_⟩;refine(lP ak).mono ?_;rintro e W4⟨rfl,R⟩;have h5:=EX (show Boxed X.drew _ _ _ from M) R;have a5:=h5.cell;have a7:=h5.frozen))
    all_goals
     have ab:Bl X W4:=⟨R.os,R.tape,R.output,R.size,R.block⟩;have ax:=M.out;have ar:(if n<dq then(dq:Int)else(n:Int))=((max n dq:Nat):Int):=by split<;>omega
     have ap:=(aa.trans (ab.mono zO)).setCell (p:=(B,0)) (by show _<=(B:Nat);omega) (qI (if n<dq then(dq:Int)else(n:Int)));refine⟨(eZ.of ab).set (.inl ⟨zO,zT,.inl ao,_,ax,rfl⟩) _,ap,Boxed.other (EX Y ab) zO _,?_⟩;rw[HS,<-ar];exact h5.set _
   case done=>rintro D W hD⟨j,af,u⟩hK;have hc:=u.cell;have au:=Z9 (uT l f) f ac (eO l k);gi_wp2;refine⟨zS,.inl ⟨_,_,rfl,E6 hK,?_⟩⟩;exact⟨_,results_tmp rfl _ _ _,rfl,j.trans (belowK_b (w:=w) (eX _) W D _ _ zO hK rfl rfl)⟩
   case stop=>exact λ_ _ _ _ _ _ h=>h.elim
theorem aAl(d:Option Addr)(c:Nat)(l:List Nd)(w:aS)(e:eP w d l)(hm:l.length<=100000):
  qK 174 #[aA d l.length c,qI 0] w (Rt (qI (uT l l.length 0:Nat)) w):=
 aEj d c l hm l.length 0 l.length w e zO (eX _) hm
end
theorem Q4:(prog.info? 54).map (λi=>(i.zero,i.size,i.bytes))=some (some (aH #[qI 0,qI 0]),2,16):=zK
theorem FA:gY prog 23 54 2 16:=gY.of underlying23 zK zD zD
def mR{α:Type}(K:lL α)(E:aX)(n:Nat)(L:List α)(w':aS)(e:Ending):Prop:=∃v,e=aO v/\eD K E n w' v L
theorem aCB(n:Nat)(w:aS)(S:n<=1000000):
  qK 374 #[qN,qI n] w λe w'=>mR kP 54 w [] w' e/\Bl w w':=by
 by_cases h0:n=0
 .subst h0;go_enter func374,ntmps374;go_wp2;go_ret;exact⟨⟨_,rfl,eD.nil _ _ _ _⟩,iL _ _⟩
 .obtain⟨i,B,N,U,O⟩:=info_parts Q4;have J:0<n:=zO;have d1:(0:Int)<(n:Int):=zO;have M:=Lib.run_append_nil_zeros (P:=prog) w 23 3 23 54 i (aH #[qI 0,qI 0]) .i64 .i64 underlying23 underlying3 B N n J zO zO (by rw[O];omega);have R:=grownCap_ge w n 0 54;have D:=grownCap_le_maxLen w n 0 54 (by unfold aZ;omega);generalize grownCap w n 0 54=cap at*;go_enter func374,ntmps374;go_wp2_with(at_builtin;refine Lib.wpList_append_run _ rfl _ _ 23 3 rfl _ _ rfl rfl _ _ M ?_);go_ret;refine⟨⟨_,rfl,?_⟩,?_⟩
  .refine eD.empty kP _ (w:=(w.alloc _).drew) (fG w _) (eX _) D ?_;rw[Array.size_append,size_zeroCells,size_zeroCells];show n*2+(cap-n)*2=cap*2;omega
  .exact(fL w _).drew
def vX(w:aS)(b f:Nat)(e:List (List Nd)):Prop:=b<(w:Nat)/\∀(i:Nat)(l:List Nd),e[i]?=some l->∃d c,w.cell? ⟨b,f+i,none⟩=some (aA d l.length c)/\eP w d l
theorem vX.later{w w':aS}{b e:Nat}{f:List (List Nd)}(h:vX w b e f)(d:Bl w w'):vX w' b e f:=
 ⟨gV h.1 d.size,λi l k=>by
  obtain⟨m,c,g,j⟩:=h.2 i l k
  exact⟨m,c,(d.cell (p:=(b,e+i)) h.1).trans g,j.later d⟩⟩
def oP(d:List (List Nd)):Nat:=d.flatten.length
theorem UF{d:List (List Nd)}(h:d[i]?=some l):oP (d.take (i+1))=oP (d.take i)+l.length:=by obtain⟨e,he⟩:=gX.1 h;unfold oP;rw[TN e,he];simp
theorem aBt{d:List (List Nd)}(h:d[i]?=some l):(d.take (i+1)).flatten=(d.take i).flatten++l:=by obtain⟨e,he⟩:=gX.1 h;rw[TN e,he];simp
theorem aAn(d:List (List Nd))(i:Nat):oP (d.take i)<=oP d:=by
 unfold oP;rw[List.length_flatten,List.length_flatten];conv=>rhs;rw[<-xH i d]
 rw[DO,List.sum_append];omega
theorem VG(b x c:Nat)(B:List (List Nd))(w:aS)(hL:vX w b x B)(hm:B.length<=10)(ht:oP B<=100000):
  qK 366 #[aA (some (b,x)) B.length c] w λe w'=>mR kP 54 w B.flatten w' e/\Bl w w':=by
 have X:=eC (λV(h:Bl w V)=>hL.later h);have HT:=eC (λ(i:Nat)(l:List Nd)(h:B[i]?=some l)=>UF h);have HF:=eC (λ(i:Nat)(l:List Nd)(h:B[i]?=some l)=>aBt h);have U:=eC (aAn B);have M:=eC (show B.take B.length=B from nH (eX _));have N:=eC (λ(i:Nat)(h:i<B.length)=>ZY h);have S:=eC (show(B.take 0).flatten=[]from zS);generalize B.length=m at hm M N|-;go_enter func366,ntmps366;go_wp2;go_loop [3,11] (λs i=>∃k:Nat,k<=m/\i=qI k/\s=qI (oP (B.take k):Nat)) (λ_ i=>m-(aW i).toNat)
 case atStart=>exact⟨0,zO,rfl,by unfold oP;rw[S];rfl⟩
 case round=>
  obtain⟨k,hk,rfl,rfl⟩:=hrel;by_cases hlt:k<m
  .obtain⟨l,D⟩:=N k hlt;obtain⟨y,Z,hc,j⟩:=(X w (iL _ _)).2 k l D;have Y:=eC (HT k l D);have R:=U (k+1);rw[Y]at R;go_wp2;go_round
   case rel=>exact⟨k+1,zO,by go_num,by rw[Y];go_num⟩
   case measure=>simp[aW];omega
  .obtain rfl:m=k:=zO;rw[M];have HG:=eC (aCB (oP B) w zO);go_wp2_with(go_at_call 374;refine HG.mono ?_;rintro e w1⟨⟨v1,rfl,af⟩,R⟩);go_loopw [6,27] (λv i wr=>∃k:Nat,k<=m/\i=qI k/\eD kP 54 w wr v (B.take k).flatten/\Bl w wr) (λ_ i _=>m-(aW i).toNat)
   case atStart=>exact⟨0,zO,rfl,by rw[S];exact af,R⟩
   case round=>
    obtain⟨k,hk,rfl,u,J⟩:=hrel;by_cases hlt:k<m
    .obtain⟨l,D⟩:=N k hlt;obtain⟨y,Z,hc,j⟩:=(X wr J).2 k l D;have W:=eC (HF k l D);have f:=U (k+1);unfold oP at f ht;rw[W,iR]at f;have O:=eC u;have aa:=eC (nG.1 j);have HB:=eC J;have ae:(B.take k).flatten.length+l.length<=10000000:=zO;have ac:=J.size;go_wp2_with(at_builtin;refine B8 FA (λh=>h) rfl _ _ rfl w _ _ rfl O y Z l rfl aa ae ac ?_;intro v' w2 ag ah ab);go_roundw
     case rel=>exact⟨k+1,zO,by go_num,by rw[W];exact ag,HB.trans ab⟩
     case measure=>simp[aW];omega
    .obtain rfl:m=k:=zO;have O:=eC u;go_wp2;go_ret;exact⟨⟨_,rfl,by rw[<-M];exact O⟩,J⟩
theorem B6(b D c:Nat)(B:List (List Nd))(w:aS)(M:vX w b D B)(hm:B.length<=10)(N:oP B<=100000):
  qK 340 #[aA (some (b,D)) B.length c] w λe w'=>mR kP 54 w B.flatten w' e/\Bl w w':=by have J:=eC (VG b D c B w M hm N);generalize B.length=m at J|-;clear M hm N;go_enter func340,ntmps340;go_wp2_with(go_at_call 366;refine J.mono ?_;rintro e U⟨⟨S,rfl,R⟩,O⟩);go_ret;exact⟨⟨_,rfl,R⟩,O⟩
theorem eP.part(h:eP w a L)(i n:Nat):eP w (a.map (·.add (i*2))) ((L.take n).drop i):=by
 obtain rfl|⟨b,off,rfl,hlt,h⟩:=h
 .exact .inl zS
 .refine .inr ⟨b,off+i*2,by simp[kJ],hlt,λj x d=>?_⟩;rw[List.getElem?_drop]at d;have g:L[i+j]?=some x:=by have k:=(gX.1 d).1;rw[jR]at k;rw[List.getElem?_take_of_lt zO]at d;exact d
  obtain⟨e,f⟩:=h (i+j) x g;rw[show off+i*2+j*2=off+(i+j)*2 by omega];exact⟨e,f⟩
theorem NG(w:aS){e:Option Addr}{c:Nat}(T:aX)(h:eP w e l):vX (w.alloc (aK #[aA e l.length c] T)) w 0 [l]:=by
 refine⟨zS,λi x d=>?_⟩;match i,d with
 |0,d=>simp at d;subst d;exact⟨e,c,by unfold bH;rw[fG];rfl,h.later (fL w _)⟩
theorem UE(w:aS){e f g:List Nd}{h j k:Option Addr}(T:aX)(s:eP w h e)(u:eP w j f)(y:eP w k g):vX (w.alloc (aK #[aA h e.length m,aA j f.length n,aA k g.length q] T)) w 0 [e,f,g]:=by
 have r:=(iL _ w).alloc (eX _) (aK #[aA h e.length m,aA j f.length n,aA k g.length q] T);refine⟨zS,λi x d=>?_⟩;match i,d with
 |0,d=>simp at d;subst d;exact⟨h,m,by unfold bH;rw[fG];rfl,s.later r⟩
 |1,d=>simp at d;subst d;exact⟨j,n,by unfold bH;rw[fG];rfl,u.later r⟩
 |2,d=>simp at d;subst d;exact⟨k,q,by unfold bH;rw[fG];rfl,y.later r⟩
theorem aEt(M:Option Addr)(c:Nat)(l:List Nd)(k:Nat)(w:aS)(S:eP w M l)(hm:l.length<=100000)(y:l.length<=c)(Z:c<=aZ):
  qK 329 #[aA M l.length c,qI k] w λe w'=>mR kP 54 w (tV l k) w' e/\Bl w w':=by
 have J:=eC (nQ M c l k w S hm);cases he:iD l k with
 |none=>
  rw[uY he]at J;have N:tV l k=[]:=by unfold tV;rw[he]
  rw[N];generalize l.length=m at*;go_enter func329,ntmps329;go_wp2_with(go_at_call 173;refine J.mono ?_;rintro e D⟨rfl,B⟩);go_ret;exact⟨⟨_,rfl,eD.nil _ _ _ _⟩,B⟩
 |some e=>
  rw[mK he]at J;have aa:=jW he;have N:tV l k=(l.take e).drop k:=by unfold tV;rw[he]
  rw[N];have j:((l.take e).drop k).length=e-k:=by rw[sB,jR];omega
  have W:=eC (λV(h:Bl w V)=>(S.later h).part k e);generalize(l.take e).drop k=r at*;have R:=eC j;generalize l.length=m at*;unfold aZ at Z;go_enter func329,ntmps329;go_wp2_with(go_at_call 173;refine J.mono ?_;rintro u D⟨rfl,B⟩);have O:=eC (B6 D 0 1 [r] (D.alloc (aK #[aA (M.map (·.add (k*2))) r.length (c-k)] 23)) (NG D _ (W D B)) zS (by have:=R.out;simp[oP];omega));rw[R]at O;refine O.mono ?_;rintro x w2⟨⟨v2,rfl,f⟩,Y⟩;have X:=eC f;go_wp2;go_ret;have ab:=B.size;have U:=X.out;rw[show [r].flatten=r by simp]at U;exact⟨⟨_,rfl,U.mono zT⟩,B.trans (((fL D _).mono B.size).trans (Y.mono zT))⟩
theorem S3(J pr:Option Addr)(c cr:Nat)(l r:List Nd)(k:Nat)(w:aS)(Y:eP w J l)(hr:eP w pr r)(hm:l.length<=10000)(af:r.length<=10000)(hc:l.length<=c)(ac:c<=aZ):
  qK 294 #[aA J l.length c,qI k,aA pr r.length cr] w λe w'=>mR kP 54 w (tZ l k r) w' e/\Bl w w':=by
 have U:=eC (nQ J c l k w Y zO);cases he:iD l k with
 |none=>
  rw[uY he]at U;have y:tZ l k r=l:=by unfold tZ;rw[he]
  rw[y];have HL:=eC (λV(h:Bl w V)=>Y.later h);have X:=eC (λB(h:Bl w B)=>B6 B 0 1 [l] (B.alloc (aK #[aA J l.length c] 23)) (NG B _ (HL B h)) zS (by simp[oP];omega));generalize l.length=m at*;generalize r.length=n at*;go_enter func294,ntmps294;go_wp2_with(go_at_call 173;refine U.mono ?_;rintro e1 B⟨rfl,D⟩);refine(X B D).mono ?_;rintro j w2⟨⟨Z,rfl,N⟩,u⟩;have HO:=eC N;go_wp2;go_ret;have S:=D.size;have M:=HO.out;rw[show [l].flatten=l by simp]at M;exact⟨⟨_,rfl,M.mono zT⟩,D.trans (((fL B _).mono D.size).trans (u.mono zT))⟩
 |some e=>
  rw[mK he]at U;have ae:=jW he;have y:tZ l k r=l.take k++r++l.drop e:=by unfold tZ;rw[he]
  rw[y];have aa:(l.take k).length=k:=by rw[jR];omega
  have ab:(l.drop e).length=l.length-e:=sB ..;have H1:=eC (λV(h:Bl w V)=>show eP V J (l.take k) by
   have:=(Y.later h).part 0 k
   cases J<;>simpa[kJ,Addr.add]using this);have H3:=eC (λV(h:Bl w V)=>show eP V (if c=e then J else J.map (·.add (e*2))) (l.drop e) by
   split
   .exact .inl (D5 zO)
   .have:=(Y.later h).part e l.length
    rwa[List.take_length]at this);have H2:=eC (λV(h:Bl w V)=>hr.later h);have X:=eC (λW(h:Bl w W)=>B6 W 0 3 [l.take k,r,l.drop e] (W.alloc (aK #[aA J (l.take k).length c,aA pr r.length cr,aA (if c=e then J else J.map (·.add (e*2))) (l.drop e).length (c-e)] 23)).drew ((UE W _ (H1 W h) (H2 W h) (H3 W h)).later (jX _)) zS (by simp[oP];omega));rw[aa,ab,show [l.take k,r,l.drop e].length=3 from rfl]at X;have O:=eC (λW(h:Bl w W)=>(X W h).mono (R':=λe' w'=>∃v,e'=aO v/\eD kP 54 W w' v [l.take k,r,l.drop e].flatten/\Bl W w') (by
   rintro j w2⟨⟨Z,rfl,N⟩,u⟩
   exact⟨Z,rfl,N.mono zS,((fL W _).drew).trans (u.mono zS)⟩));clear X;have f:=eC (show [l.take k,r,l.drop e].flatten=l.take k++r++l.drop e from zS);generalize l.take k++r++l.drop e=R at*;generalize [l.take k,r,l.drop e]=LL at O f;generalize l.length=m at*;generalize r.length=n at*;unfold aZ at ac;have k1:k<=m:=zO;have k2:e<=m:=zO;have k3:k<=c:=zO;have k4:e<=c:=zO;have i1:(k:Int)<=(c:Int):=zO;have i2:(e:Int)<=(c:Int):=zO;have i3:(e:Int)<=(m:Int):=zO;have i4:(0:Int)<=(k:Int):=zO;have i5:(0:Int)<=(e:Int):=zO;by_cases hce:c=e
  .subst hce;rw[show m-c=0 from zO,Nat.sub_self]at O;simp only[if_true]at O;go_enter func294,ntmps294;go_wp2_with(go_at_call 173;refine U.mono ?_;rintro e1 B⟨rfl,D⟩);go_region_held3(λw'=>Bl B w') (first|(with_reducible assumption)|go_grown) ((go_at_call 340;refine(O B D).mono ?_;rintro j w2⟨Z,rfl,N,x⟩))
   all_goals go_wp2
   all_goals go_ret
   all_goals have M:=N;rw[f]at M;have S:=D.size;exact⟨⟨_,rfl,M.mono S⟩,D.trans (x.mono S)⟩
  .rw[eE hce]at O;go_enter func294,ntmps294;go_wp2_with(go_at_call 173;refine U.mono ?_;rintro e1 B⟨rfl,D⟩);go_region_held3(λw'=>Bl B w') (first|(with_reducible assumption)|go_grown) ((go_at_call 340;refine(O B D).mono ?_;rintro j w2⟨Z,rfl,N,x⟩))
   all_goals go_wp2
   all_goals go_ret
   all_goals have M:=N;rw[f]at M;have S:=D.size;exact⟨⟨_,rfl,M.mono S⟩,D.trans (x.mono S)⟩
theorem aEv(t n:Int)(w:aS):qK 171 #[aH #[qI t,qI n]] w (Rt (aG (decide (xG (t,n)<0))) w):=by have CA:=eC (λV=>zP t n V);generalize xG (t,n)=r at CA|-;have B:=(iL _ w).alloc (eX _) (aK #[t,n] 54);go_enter func171,ntmps171;go_wp2_with(go_at_call 172;refine(CA _).mono ?_;rintro e J⟨rfl,D⟩);go_ret;exact⟨rfl,B.trans (D.mono zS)⟩
def LC(f:Nd->Bool):List Nd->Nat->Int
 |[],_=>-1
 |x::r,i=>if f x then(i:Int)else LC f r (i+1)
theorem aEe{f:Nd->Bool}(h:l.length<=i):LC f (l.drop i) i=-1:=by rw[D5 h];rfl
theorem aHk{f:Nd->Bool}(h:l[i]?=some x):LC f (l.drop i) i=if f x then(i:Int)else LC f (l.drop (i+1)) (i+1):=by obtain⟨d,he⟩:=gX.1 h;rw[tL d,he];rfl
theorem RL(f:Nd->Bool):∀(l:List Nd)(i:Nat),decide (0<=LC f l i)=l.any f
 |[],i=>rfl
 |x::r,i=>by
  simp only[LC,List.any_cons]
  by_cases hx:f x=true
  .simp[hx]
  .simp only[Bool.not_eq_true]at hx
   simpa[hx]using RL f r (i+1)
theorem WQ(X:Option Addr)(c:Nat)(l:List Nd)(w:aS)(hL:eP w X l)(hm:l.length<=100000):
  qK 224 #[aA X l.length c,aD (.func 171) #[] #[]] w (Rt (qI (LC (λx=>decide (xG x<0)) l 0)) w):=by
 have j:=eC (λV(h:Bl w V)=>hL.later h);generalize B:LC (λx=>decide (xG x<0)) l 0=R;have Y:=eC (B);have Z:=eC (λ(i:Nat)(x:Nd)(h:l[i]?=some x)=>aHk (f:=λx=>decide (xG x<0)) h);have O:=eC (λ(i:Nat)(h:l.length<=i)=>aEe (f:=λx=>decide (xG x<0)) h);have S:=eC (λ(i:Nat)(h:i<l.length)=>ZY h);generalize l.length=m at hm S O|-;go_enter func224,ntmps224;go_wp2;go_loopw [8] (λi wr=>∃k:Nat,k<=m/\i=qI k/\LC (λx=>decide (xG x<0)) (l.drop k) k=R/\Bl w wr) (λi _=>m-(aW i).toNat)
 case atStart=>exact⟨0,zO,rfl,Y,iL _ _⟩
 case round=>
  obtain⟨k,hk,rfl,B,J⟩:=hrel;change Hid _ at B;by_cases hlt:k<m
  .obtain⟨x,W⟩:=S k hlt;obtain⟨b,ab,hp,aa,u,y⟩:=(j wr J).at W;subst hp;obtain⟨t,n⟩:=x;simp only at u y;have M:=eC (aEv t n wr);have U:=eC (Z k _ W);change Hid _ at J;by_cases hf:xG (t,n)<0
   .have hd:=uW hf;rw[hd]at M;have D:=eC (show R=(k:Int) by rw[<-B,U,eI hd]);go_wp2_with(go_at_call 171;refine M.mono ?_;rintro e w1⟨rfl,N⟩);go_ret;exact⟨nT D.symm,fC J N⟩
   .have hd:=BQ hf;rw[hd]at M;have D:=eC (show LC (λx=>decide (xG x<0)) (l.drop (k+1)) (k+1)=R by rw[<-B,U,eE (by rw[hd];simp)]);go_wp2_with(go_at_call 171;refine M.mono ?_;rintro e w1⟨rfl,N⟩);go_roundw
    case rel=>exact⟨k+1,zO,by go_num,D,fC J N⟩
    case measure=>simp[aW];omega
  .obtain rfl:m=k:=zO;have D:=eC (show R=-1 by rw[<-B];exact O m (eX _));go_wp2;go_ret;exact⟨nT D.symm,J⟩
theorem UZ(B:Option Addr)(c:Nat)(l:List Nd)(w:aS)(D:eP w B l)(hm:l.length<=100000):
  qK 170 #[aA B l.length c,aD (.func 171) #[] #[]] w (Rt (aG (l.any λx=>decide (xG x<0))) w):=by have J:=eC (WQ B c l w D hm);rw[<-RL _ l 0];generalize LC (λx=>decide (xG x<0)) l 0=R at*;generalize l.length=m at*;clear D;go_enter func170,ntmps170;go_wp2_with(go_at_call 224;refine J.mono ?_;rintro e N⟨rfl,M⟩);go_ret;exact⟨rfl,M⟩
theorem V0(O:Option Addr)(c:Nat)(l:List Nd)(w:aS)(hL:eP w O l)(hm:l.length<=100000):
  qK 106 #[aA O l.length c] w (Rt (qI (nL l:Nat)) w):=by
 have U:=eC (λV(h:Bl w V)=>hL.later h);have M:=eC (λV h=>UZ O c l V (U V h) hm);have S:=eC (λV h=>nQ O c l 0 V (U V h) hm);have Z:=eC (λV h=>aAl O c l V (U V h) hm);have aa:=PJ l l.length 0;have D:Hid (nL l=if l.length=0 then 10 else if 200<l.length then 4 else if l.any (λx=>decide (xG x<0))then 11 else if rZ l 0≠(l.length:Int)then 12 else if 30<uT l l.length 0 then 13 else 0):=eC rfl;generalize nL l=R at D|-;generalize(l.any λx=>decide (xG x<0))=hb at M D;generalize rZ l 0=en at S D;generalize uT l l.length 0=W at*;generalize l.length=m at*;by_cases h0:m=0
 .subst h0;obtain rfl:R=10:=by rw[D,eI rfl]
  go_enter func106,ntmps106;go_wp2;go_ret;exact⟨rfl,iL _ _⟩
 by_cases h1:200<m
 .obtain rfl:R=4:=by rw[D,eE h0,eI h1]
  have j:((m:Int)==0)=false:=zT;have u:(200:Int)<(m:Int):=zO;go_enter func106,ntmps106;go_wp2;go_ret;exact⟨rfl,iL _ _⟩
 have j:((m:Int)==0)=false:=zT;have u:decide ((200:Int)<(m:Int))=false:=zT;cases hb with
 |true=>
  obtain rfl:R=11:=by rw[D,eE h0,eE h1,eI rfl]
  go_enter func106,ntmps106;go_wp2_with(go_at_call 170;refine(M _ (iL _ _)).mono ?_;rintro e Y⟨rfl,B⟩);go_ret;exact⟨rfl,B⟩
 |false=>
  by_cases h2:en=(m:Int)
  .have y:(en !=(m:Int))=false:=by simp[h2]
   by_cases h3:30<W
   .obtain rfl:R=13:=by rw[D,eE h0,eE h1,eE zS,eE (by simp[h2]),eI h3]
    have e3:(30:Int)<(W:Int):=zO;go_enter func106,ntmps106;go_wp2_with(first|(go_at_call 170;refine(M _ (iL _ _)).mono ?_;rintro e Y⟨rfl,B⟩)|(go_at_call 173;refine(S _ B).mono ?_;rintro e f⟨rfl,N⟩;have J:=fC B N)|(go_at_call 174;refine(Z _ J).mono ?_;rintro e w4⟨rfl,X⟩));go_ret;exact⟨rfl,fC J X⟩
   .obtain rfl:R=0:=by rw[D,eE h0,eE h1,eE zS,eE (by simp[h2]),eE h3]
    have e3:decide ((30:Int)<(W:Int))=false:=zT;go_enter func106,ntmps106;go_wp2_with(first|(go_at_call 170;refine(M _ (iL _ _)).mono ?_;rintro e Y⟨rfl,B⟩)|(go_at_call 173;refine(S _ B).mono ?_;rintro e f⟨rfl,N⟩;have J:=fC B N)|(go_at_call 174;refine(Z _ J).mono ?_;rintro e w4⟨rfl,X⟩));go_ret;exact⟨rfl,fC J X⟩
  .have y:(en !=(m:Int))=true:=by simpa using h2
   obtain rfl:R=12:=by rw[D,eE h0,eE h1,eE zS,eI h2]
   go_enter func106,ntmps106;go_wp2_with(first|(go_at_call 170;refine(M _ (iL _ _)).mono ?_;rintro e Y⟨rfl,B⟩)|(go_at_call 173;refine(S _ B).mono ?_;rintro e f⟨rfl,N⟩;have J:=fC B N));go_ret;exact⟨rfl,J⟩
def iE(w:aS)(g f:Option Addr)(e d:Nat)(p:Pg):Prop:=eS kI w g p.vs/\eP w f p.bd/\p.vs.length<=e/\e<=aZ/\p.bd.length<=d/\d<=aZ
def kE(f d:Option Addr)(g e:Nat)(p:Pg):aT:=aH #[aC .i64 p.pa,aA f p.vs.length g,aA d p.bd.length e]
theorem iE.later{w w':aS}{g d:Option Addr}{i e:Nat}{p:Pg}(h:iE w g d i e p)(f:Bl w w'):iE w' g d i e p:=⟨h.1.later f,h.2.1.later f,h.2.2⟩
theorem mD{L:List Int}(h:eS kI w a L){x:Int}(m:L[i]?=some x):∃b d,a=some ⟨b,d,none⟩/\b<w/\w.cell? (qP b (d+i))=some (qI x):=by obtain⟨b,d,n,e,f,g,k⟩:=h.at m;have j:n=[qI x]:=g;subst j;refine⟨b,d,e,f,?_⟩;have:=eG.one.1 k;rwa[show i*kI.k=i from Nat.mul_one i]at this
theorem EB(t:Int)(w:aS):qK 175 #[qI t] w λe w'=>e=aO (qI (jF t:Nat))/\w=w':=by
 by_cases h1:2<=t
 .by_cases h2:t<=9
  .have B:jF t=(t-1).toNat:=by unfold jF;rw[eI ⟨h1,h2⟩]
   have D:((jF t:Nat):Int)=t-1:=by rw[B];omega
   rw[D];clear B D;go_enter func175,ntmps175;go_wp2;go_ret;exact⟨rfl,rfl⟩
  .have B:jF t=0:=by unfold jF;rw[eE zO]
   rw[B];have d1:decide (t<=9)=false:=by simpa using h2
   go_enter func175,ntmps175;go_wp2;go_ret;exact⟨rfl,rfl⟩
 .have B:jF t=0:=by unfold jF;rw[eE zO]
  rw[B];have d1:decide (2<=t)=false:=by simpa using h1
  go_enter func175,ntmps175;go_wp2;go_ret;exact⟨rfl,rfl⟩
theorem XI{l:List Int}(h:l.length<=i):qE pa i (l.drop i)=true:=by rw[D5 h];rfl
def vQ(d:Int)(i:Nat)(t:Int):Prop:=t≠0/\((i:Int)<d\/t≠1/\jF t=0)
instance(pa:Int)(i:Nat)(t:Int):Decidable (vQ pa i t):=by unfold vQ;infer_instance
theorem aBh{l:List Int}(h:l[i]?=some t):qE pa i (l.drop i)=if vQ pa i t then false else qE pa (i+1) (l.drop (i+1)):=by obtain⟨d,he⟩:=gX.1 h;rw[tL d,he];simp only[qE,vQ]
theorem T6(f W:Option Addr)(j X:Nat)(p:Pg)(w:aS)(Z:iE w f W j X p)(hm:p.vs.length<=1000000):
  qK 107 #[kE f W j X p] w (Rt (qI (pA p:Nat)) w):=by
 obtain⟨B,D,Y⟩:=p;unfold kE;have u:=eC (λV(h:Bl w V)=>Z.1.later h);simp only at hm u|-;have J:pA ⟨B,D,Y⟩=if B<0\/(D.length:Int)<B\/12<D.length then 14 else if qE B 0 D then 0 else 14:=rfl;generalize pA ⟨B,D,Y⟩=R at J|-;generalize Y.length=bl;have O:=(iL _ w).alloc (eX _) (aK #[B,aA f D.length j,aA W bl X] 25);by_cases h1:B<0
 .rw[eI (.inl h1)]at J;subst J;generalize D.length=m at*;go_enter func107,ntmps107;go_wp2;go_ret;exact⟨rfl,O⟩
 have d1:decide (B<0)=false:=by simpa using h1
 by_cases h2:(D.length:Int)<B
 .rw[eI (.inr (.inl h2))]at J;subst J;generalize D.length=m at*;go_enter func107,ntmps107;go_wp2;go_ret;exact⟨rfl,O⟩
 have d2:decide ((D.length:Int)<B)=false:=by simpa using h2
 by_cases h3:12<D.length
 .rw[eI (.inr (.inr h3))]at J;subst J;have d3:(12:Int)<(D.length:Int):=zO;generalize D.length=m at*;go_enter func107,ntmps107;go_wp2;go_ret;exact⟨rfl,O⟩
 have d3:decide ((12:Int)<(D.length:Int))=false:=zT;rw[eE zO]at J;have H1:=eC (λ(i:Nat)(t:Int)(h:D[i]?=some t)=>aBh (pa:=B) h);have H2:=eC (λ(i:Nat)(h:D.length<=i)=>XI (pa:=B) h);have HN:=eC (λ(i:Nat)(h:i<D.length)=>show∃t,D[i]?=some t from⟨_,lJ h⟩);have y:=eC (show qE B 0 (D.drop 0)=qE B 0 D from rfl);have ab:=eC h1;change Hid _ at J;generalize D.length=m at*;go_enter func107,ntmps107;go_wp2;go_loop [25] (λi=>∃k:Nat,k<=m/\i=qI k/\qE B k (D.drop k)=qE B 0 D) (λi=>m-(aW i).toNat)
 case atStart=>exact⟨0,zO,rfl,y.out⟩
 case round=>
  obtain⟨k,hk,rfl,N⟩:=hrel;change Hid _ at N;by_cases hlt:k<m
  .obtain⟨t,x⟩:=HN.out k hlt;obtain⟨b,ac,Z,aa,hc⟩:=mD (u.out _ O) x;subst Z;have S:=eC (H1.out k t x);have U:=eC (λV=>EB t V);by_cases ht0:t=0
   .have M:=eC (show¬vQ B k t from λh=>h.1 ht0);have e0:(t !=0)=false:=by simp[ht0]
    go_wp2;go_round
    case rel=>exact⟨k+1,zO,by go_num,by rw[<-N.out,S.out,eE M.out]⟩
    case measure=>simp[aW];omega
   .have e0:(t !=0)=true:=by simpa using ht0
    by_cases hkp:(k:Int)<B
    .have M:=eC (show vQ B k t from⟨ht0,.inl hkp⟩);go_wp2;go_ret;exact⟨by rw[J.out,<-N.out,S.out,eI M.out];rfl,O⟩
    .have d5:decide ((k:Int)<B)=false:=by simpa using hkp
     by_cases ht1:t=1
     .have M:=eC (show¬vQ B k t from λh=>by obtain h|h:=h.2;exact hkp h;exact h.1 ht1);have e1:(t !=1)=false:=by simp[ht1]
      go_wp2;go_round
      case rel=>exact⟨k+1,zO,by go_num,by rw[<-N.out,S.out,eE M.out]⟩
      case measure=>simp[aW];omega
     .have e1:(t !=1)=true:=by simpa using ht1
      by_cases hs:jF t=0
      .have M:=eC (show vQ B k t from⟨ht0,.inr ⟨ht1,hs⟩⟩);rw[hs]at U;go_wp2_with(go_at_call 175;refine(U.out _).mono ?_;rintro e w1⟨rfl,rfl⟩);go_ret;exact⟨by rw[J.out,<-N.out,S.out,eI M.out];rfl,O⟩
      .have M:=eC (show¬vQ B k t from λh=>by obtain h|h:=h.2;exact hkp h;exact hs h.2);have e2:(((jF t:Nat):Int)==0)=false:=zT;generalize jF t=z at U e2;go_wp2_with(go_at_call 175;refine(U.out _).mono ?_;rintro e w1⟨rfl,rfl⟩);go_round
       case rel=>exact⟨k+1,zO,by go_num,by rw[<-N.out,S.out,eE M.out]⟩
       case measure=>simp[aW];omega
  .obtain rfl:m=k:=zO;have HE:=eC (H2.out m (eX _));go_wp2;go_ret;exact⟨by rw[J.out,<-N.out,HE.out];rfl,O⟩
end Go.Proofs.YtgmjilingndloaaGreatDoor
