/- Part 6 of the proof of TopFuel. No conditions. -/
import Derived.Test.YtgmjilingndloaaGreatDoorZ5
open Array renaming getElem?_eq_some_iff->bD
open Classical renaming not_not->cT
open Go renaming Value->aT,World->aS,cell_of_row->aU,frozen_of_row->bE
open Go.Act renaming put->bS
open Go.Ending renaming returned->aO
open Go.IntKind renaming i64->aP
open Go.Lib renaming hid->eB
open Go.Obj renaming cells->aK
open Go.RowKit renaming Below->aV,intOf->aW,wrap64->a9
open Go.RowKit.Below renaming refl->cF
open Go.Value renaming int->aC,pointer->aE,slice->aA,tuple->aF
open Go.World renaming frozen?_of_block->cO,size_alloc->bP
open List renaming getElem?_eq_getElem->dU,map_cons->bZ,range->dH,replicate->bJ
open Nat renaming le_refl->bF
open Option renaming getD_some->cN,some->dL
namespace Go.Proofs.YtgmjilingndloaaGreatDoor
set_option linter.unusedVariables false
set_option linter.unusedSimpArgs false
set_option maxRecDepth 100000
set_option maxHeartbeats 20000000
open Go Go.RowKit Go.Proofs.Tryz
variable{w V w' U W:aS}{p:Pg}{F:Int}{n k i b c rb:Nat}{s R:Ms}{B:gC}{g ev m j d x e u:aT}{f:Fr}{r:List Fr}{a:Option Addr}{L:List Int}{l:List Nd}
theorem rA.pop{u:List (aT×List Int)}{d:List (Fr×aT)}{g e:Nat}(h:rA B w s x m (aA (some (g,0)) (d.length+1) e) ev u ((f,j)::d))(y:d.map (·.1)=r):
  rA B (qS w (B.mb,7) (aA (some (g,0)) d.length e)) {s with sk:=r} x m (aA (some (g,0)) d.length e) ev u d/\eZ (lQ B) w (qS w (B.mb,7) (aA (some (g,0)) d.length e))/\eD kI 3 B.n (qS w (B.mb,7) (aA (some (g,0)) d.length e)) j f.vals:=by have n:eZ (lQ B) w (qS w (B.mb,7) (aA (some (g,0)) d.length e)):=pF (eZ.refl _ _) _ _;have A:=h.good.mb;have i:∀k,B.n<=k->k<(w:Nat)->(qS w (B.mb,7) (aA (some (g,0)) d.length e)).heap[k]?=w.heap[k]?:=λk i _=>eF _ zO;have q:=h.ls.sv;rw[List.reverse_cons]at q;have hcut:=q.cut;rw[List.length_reverse]at hcut;refine⟨⟨h.good.chg n,qV _ h.box (by simp[l9]),?_⟩,n,eW (h.ls.ints.own (j,f.vals) zS) (λ_ h=>h) i⟩;refine⟨eW h.ls.av (λ_ h=>h) i,h.ls.ar,eW hcut (λ_ h=>h) i,y,eW h.ls.ev (λ_ h=>h) i,?_⟩;refine(qU h.ls.ints i).less ?_;simp only[bZ,rO];exact List.Sublist.cons_cons _ (List.Sublist.append (List.Sublist.refl _) (List.sublist_cons_self _ _))
theorem rA.drew{B:gC}{w:aS}{s:Ms}{i d g ev:aT}{f:List (aT×List Int)}{e:List (Fr×aT)}(h:rA B w s i d g ev f e):rA B w.drew s i d g ev f e:=
 ⟨h.good.chg (eZ.refl _ w).drew,h.box,h.ls.keep rfl rfl rfl rfl λ_ _ _=>rfl⟩
theorem rA.on{i:aT}{g:List (aT×List Int)}{f:List (Fr×aT)}(h:rA B w s j e i ev g f)(d:Bl w w'):rA B w' s j e i ev g f:=by have n:=h.good.mb;have q:=h.good.nw;exact⟨h.good.chg (eZ.of d),(d.block _ zO).trans h.box,h.ls.keep rfl rfl rfl rfl λk _ m=>d.block k m⟩
theorem AB{E:TypeId}{m:Nat}{x:Int}(h:eD kI E n w (aA a m c) L)(f:L[i]?=some x):∃d,a=some ⟨d,0,none⟩/\m=L.length/\i<m/\w.cell? (qP d i)=some (qI x):=by obtain⟨d,j,e,_,_,g,_⟩:=vO h f;simp only[Value.slice.injEq]at e;exact⟨d,e.1,e.2.1,by have:=(gX.1 f).1;omega,g⟩
def tQ(a b c:Nat)(V U:aS):Prop:=∀k,k=a\/k=b\/k=c->U.heap[k]?=V.heap[k]?
theorem tQ.cell{a:Nat}(h:tQ a b c V U){j:Nat}(d:k=a\/k=b\/k=c):U.cell? (k,j)=V.cell? (k,j):=lA (w:=V) (a:=(k,j)) (h k d)
theorem tQ.only{a m:Nat}(h:eN m V U)(d:a≠m/\a<V)(e:b≠m/\b<V)(f:c≠m/\c<V):tQ a b c V U:=λk g=>by
 obtain rfl|rfl|rfl:=g
 .exact h.block _ d.2 d.1
 .exact h.block _ e.2 e.1
 .exact h.block _ f.2 f.1
theorem aA1{n q:aT}{rows:List (aT×List Int)}{f:List (Fr×aT)}{v:Nat}{y:Int}(h:rA B w s g n q ev rows f)(m:rows[v]?=some (d,mT s v)):
  ∃A C,(g,s.vs)::rows++f.map (λx=>(x.2,x.1.vals))=A++(d,mT s v)::C/\(g,s.vs)::rows.set v (d,(mT s v).set i y)++f.map (λx=>(x.2,x.1.vals))=A++(d,(mT s v).set i y)::C/\rows.map (·.1)=(rows.set v (d,(mT s v).set i y)).map (·.1)/\(rows.set v (d,(mT s v).set i y)).map (·.2)=s.ar.set v ((mT s v).set i y):=by
 have k:=(gX.1 m).1;have e:rows=rows.take v++(d,mT s v)::rows.drop (v+1):=by rw[<-(gX.1 m).2,<-tL k,xH]
 refine⟨(g,s.vs)::rows.take v,rows.drop (v+1)++f.map (λx=>(x.2,x.1.vals)),?_,?_,?_,?_⟩
 .conv=>lhs;rw[e]
  simp
 .rw[List.set_eq_take_append_cons_drop,eI k];simp
 .rw[List.map_set];refine List.ext_getElem? λj=>?_;rw[List.getElem?_set];split
  .rename_i e;subst e;rw[oY,m,eI (by simpa using k)];rfl
  .rfl
 .rw[List.map_set,h.ls.ar]
theorem XD(B:gC)(s:Ms)(f:Fr)(r:List Fr)(w:aS)(h:MI B w s)(hs:s.sk=f::r)(bA:aFN B.p s f r)(hn:rT B.p f=none)(b8:pM B.F s)(c8:∀x∈s.sk,x.vals.length<=1000)(a5:vW B.p s)(c0:s.over=false):
  qK 212 #[qP B.mb 0] w (JF B w (nD B.p B.F {s with sk:=r} f)):=by
 obtain⟨aa,bq⟩:=eR (nD B.p B.F {s with sk:=r} f);rw[bq];replace bq:=eC bq;obtain⟨vv,av,sv,ev,aw,ak,h⟩:=h;obtain⟨fv,ak,rfl,b5⟩:=h.frs_cons hs;obtain⟨g,aj,a,m,c,d6,dx,cP,dw,x0,x1,x2,xf,d2⟩:=h.ls.top;subst d6;subst dw;have c7:qC w B.mb 7 (aA (some ⟨g,0,none⟩) (ak.length+1) aj):=h.cells rfl;have f7:=h.free 7;have c2:qC w B.mb 2 (aA B.ba B.p.bd.length B.bc):=h.cells rfl;obtain⟨nd,bk⟩:∃x,B.p.bd[f.pos]?=some x:=⟨_,lJ bA.pos⟩;obtain⟨gb,al,b3,cR,t0,t1⟩:=h.good.body.at bk;have cX:fF B.p f.pos=nd:=by unfold fF;rw[bk];rfl
 have b6:=(h.good.bodyn _ b3 (λe=>by rw[e]at bk;simp at bk)).2;simp only at b6;rw[b3]at c2;have d1:ak.length<=10000:=by have:=congrArg List.length b5;have h2:=b8;unfold pM at h2;rw[hs]at h2;simp at this h2;omega
 obtain⟨N,hN⟩:=eR ak.length;have w0:aP.wrap (((N+1:Nat):Int)-1)=(N:Int):=by rw[iA];omega
 have du:N+1<=aj:=by obtain⟨a',c',d7,_,_,dE⟩:=fV h.ls.sv;simp only[Value.slice.injEq]at d7;rw[List.length_reverse,iW]at dE;omega
 have ds:N<=aj:=zO;have dt:(N:Int)<=(aj:Int):=zO;rw[hN]at c7 x0 x1 x2 d1;have HM:=eC h;have ci:=eC (show(∀x∈aw,∀k,x.1.ownBlock=some k->k<(w:Nat)/\a≠some ⟨k,0,none⟩)/\(∀k,ev.ownBlock=some k->k<(w:Nat))by
  refine⟨λx hx k hk=>⟨((h.ls.ints.own x (by simp[hx])).lt k hk).2,λha=>?_⟩,λk hk=>(h.ls.ev.lt k hk).2⟩
  have hp:=h.ls.ints.apart
  rw[rO,List.pairwise_cons,List.pairwise_append]at hp
  refine hp.2.2.2 x hx (aA a m c,f.vals) zS k hk ?_
  rw[ha];rfl);have df:=eC b5;have el:f.pos<B.p.bd.length:=bA.pos;have ao:=eC bA;have bn:=eC hn;have be:=eC b8;have bo:=eC c8;have d9:=eC a5;have cs:=eC a5.vsl;have cj:=eC a5.arl;have dk:=eC (a5.top c0);have cp:=eC (λ(k:Nat)(hk:k<B.p.vs.length)=>show(mT s k).length<=1000 by
  obtain⟨t,ht⟩:∃t,B.p.vs[k]?=some t:=⟨_,lJ hk⟩
  obtain⟨q,hq⟩:∃q,s.ar[k]?=some q:=⟨_,lJ (by rw[a5.arl];exact hk)⟩
  have:=a5.art k t q ht hq
  unfold mT
  rw[hq]
  simp only[cN]
  rw[this]
  unfold jF
  split<;>omega);have HS:=eC hs;have S:=eC cX;have au:Hid (B.mb<w/\g<w/\gb<w):=eC ⟨by have:=h.good.mb;have:=h.good.nw;omega,cP,cR⟩;have HN:=eC hN;clear h bA hn b8 c8 a5 c0 hs cX bk b3 b5 d2 hN cR dx cP;generalize dp:B.p.bd.length=bl at*;clear dp;generalize cV:B.mb=mb at*;have af:=eC cV;have cS:Hid (gb≠mb):=eC b6;clear cV b6;have q0:=rU c7;have q1:=rU x0;have q2:=rU x1;have q3:=rU x2;have dm:=jX w;go_enter func212,ntmps212;go_wp2;have w1:aP.wrap ((N:Int)+1-1)=(N:Int):=by rw[iA];omega
 have w2:(N:Int)<(N:Int)+1:=zO;have w4:aP.wrap (N:Int)=(N:Int):=by rw[iA];omega
 have w3:(0:Int)<=(N:Int):=zO;go_region_held_law(λU=>Bl w U) (first|(with_reducible assumption)|go_grown) (fail);obtain⟨V,hV⟩:=eR ((w.alloc (aK #[qI f.pos,qI f.kid,aA a m c] 326)).drew);rw[hV];have bg:Bl w V:=by rw[<-hV];exact wR ((iL _ w).alloc (eX _) _)
 have c5:V.heap[(w:Nat)]?=some (aK #[qI f.pos,qI f.kid,aA a m c] 326 (0,0)):=by rw[<-hV];exact fG w _
 have de:V=(w:Nat)+1:=by rw[<-hV];exact fO _ _
 have ck:=eC (HM.on bg);have bd:=eC bg;have cq:=eC c5;have ct:=eC de;have c7:qC V mb 7 (aA (some ⟨g,0,none⟩) (N+1) aj):=q0 V bg;have f7:qF V mb 7:=(bg.frozen (p:=⟨mb,7,none⟩) au.1).trans f7;clear hV bg c5 de q0 q1 q2 q3 dm x0 x1 x2 xf HM;go_wp2;go_still_tail 12,zK;change wpList _ _ _ _ _ V.drew;obtain⟨V2,ap⟩:∃V2,V.drew=V2:=⟨_,rfl⟩;rw[ap];have cv:rA B V2 s vv av (aA (some ⟨g,0,none⟩) (ak.length+1) aj) ev aw ((f,aA a m c)::ak):=by rw[<-ap];exact ck.drew
 have dr:V2.cell? ⟨mb,7,none⟩=some (aA (some ⟨g,0,none⟩) (N+1) aj):=by rw[<-ap];exact c7
 have dv:V2.frozen? ⟨mb,7,none⟩=false:=by rw[<-ap];exact f7
 have c3:V2.heap[(w:Nat)]?=some (aK #[qI f.pos,qI f.kid,aA a m c] 326 (0,0)):=by rw[<-ap];exact cq
 have dc:V2=(w:Nat)+1:=by rw[<-ap];exact ct
 have cz:eZ (lQ B) w V2:=by rw[<-ap];exact(eZ.of bd).drew
 obtain⟨bv,bw,bx⟩:=cv.pop df;rw[af,HN]at bv bw bx;obtain⟨W,a4⟩:∃W,V2.setCell ⟨mb,7,none⟩ (aA (some ⟨g,0,none⟩) N aj)=W:=⟨_,rfl⟩;rw[a4]at bv bw bx;have cf:W.heap[(w:Nat)]?=some (aK #[qI f.pos,qI f.kid,aA a m c] 326 (0,0)):=by rw[<-a4];exact(eF _ (by have:=au.1;omega)).trans c3
 have cg:W=(w:Nat)+1:=by rw[<-a4,<-dc];simp
 have cw:W.cell? ⟨mb,2,none⟩=some (aA (some ⟨gb,al,none⟩) bl B.bc):=by rw[<-a4,<-ap];exact(q9 _ ⟨mb,7,none⟩ ⟨mb,2,none⟩ _ zS).trans ((bd.cell (p:=⟨mb,2,none⟩) au.1).trans c2)
 have cx:W.cell? ⟨gb,al+f.pos*2,none⟩=some (qI nd.1):=by rw[<-a4,<-ap];exact(q9 _ ⟨mb,7,none⟩ ⟨gb,al+f.pos*2,none⟩ _ (by simp;intro e;exact absurd e.symm cS)).trans ((bd.cell (p:=⟨gb,al+f.pos*2,none⟩) au.2.2).trans t0)
 have cy:W.cell? ⟨gb,al+f.pos*2+1,none⟩=some (qI nd.2):=by rw[<-a4,<-ap];exact(q9 _ ⟨mb,7,none⟩ ⟨gb,al+f.pos*2+1,none⟩ _ (by simp;intro e;exact absurd e.symm cS)).trans ((bd.cell (p:=⟨gb,al+f.pos*2+1,none⟩) au.2.2).trans t1)
 have s0:∀U,Bl W U->qC U mb 2 (aA (some ⟨gb,al,none⟩) bl B.bc):=λU h=>(h.cell (p:=⟨mb,2,none⟩) (by have:=au.1;simp only;omega)).trans cw;have s1:∀U,Bl W U->qC U w 0 (qI f.pos):=λU h=>(h.cell (p:=⟨w,0,none⟩) (by simp only;omega)).trans (kG W _ 0 _ _ _ cf);have s2:∀U,Bl W U->qC U gb (al+f.pos*2) (qI nd.1):=λU h=>(h.cell (p:=⟨gb,al+f.pos*2,none⟩) (by have:=au.2.2;simp only;omega)).trans cx;have s3:∀U,Bl W U->qC U gb (al+f.pos*2+1) (qI nd.2):=λU h=>(h.cell (p:=⟨gb,al+f.pos*2+1,none⟩) (by have:=au.2.2;simp only;omega)).trans cy;have d3:(f.pos:Int)<(bl:Int):=zO;have dn:Bl W W.drew:=⟨rfl,rfl,rfl,eX _,λ_ _=>rfl⟩;have cl:=eC bv;have cm:=eC (cz.trans bw);have cn:=eC bx;have co:=eC cf;have b2:=eC cg;clear ap cv c3 dc cz bv bw bx cf cg cw cx cy c7 f7 c2 t0 t1 ck cq ct bd;go_wp2_with(rw[a4]);go_region_held_law(λU=>Bl W U) (first|(with_reducible assumption)|go_grown) (fail);obtain⟨M,bs⟩:∃M,(W.alloc (aK #[qI nd.1,qI nd.2] 54)).drew=M:=⟨_,rfl⟩;rw[bs];have bf:Bl W M:=by rw[<-bs];exact wR ((iL _ W).alloc (eX _) _)
 have bt:M.heap[W.heap.size]?=some (aK #[qI nd.1,qI nd.2] 54 (0,0)):=by rw[<-bs];exact fG W _
 have bz:qB M w #[qI f.pos,qI f.kid,aA a m c] 326:=(bf.block _ (by have:=b2.out;omega)).trans co;have n0:qC M W 0 (qI nd.1):=kG M _ 0 _ _ _ bt;have n1:qC M W 1 (qI nd.2):=kG M _ 1 _ _ _ bt;have r0:qC M w 0 (qI f.pos):=kG M _ 0 _ _ _ bz;have r2:qC M w 2 (aA a m c):=kG M _ 2 _ _ _ bz;have M4:=eC (cl.on bf);have ac:=eC (cm.then bf);have aL:=eC (cn.later bf);obtain⟨D,ag⟩:∃D:Ms,({s with sk:=r}:Ms)=D:=⟨_,rfl⟩;rw[ag]at M4;have ab:Hid (nD B.p B.F D f=aa):=eC (by rw[<-ag];exact bq);have dg:=eC bt;have di:=eC bz;clear bs bf bt bz cl cm cn co s0 s1 s2 s3 d3 dn w1 w2 w3 w4 w0 du ds dt dr dv;have br:=ao.tag;rw[S]at br;obtain⟨J,bO⟩:=nd;simp only at n0 n1 br;have HT:=eC br;clear br;have a0:=eC (λ(ht:J<=19)(v:Int)(U:aS)(hM:MI B U D)=>show qK 265 #[qP mb 0,qI v] U (JF B U (iX D v))by
  have bu:=ao.tells (by rw[S];exact ht)
  cases hr:r with
  |nil=>exact absurd hr bu
  |cons f' r'=>
   have bm:D.sk=f'::r':=by rw[<-ag];exact hr
   have hl:=be.out
   unfold pM at hl
   rw[<-af]
   refine RN B D f' r' v U hM bm (bo f' (by rw[HS,hr];simp)) ?_
   rw[bm]
   have:=HS.out
   rw[this,hr]at hl
   simp only[iW]at hl|-
   omega);have dj:=eC (λ(k v:Int)(U:aS)(hM:MI B U D)=>show qK 209 #[qP mb 0,qI k,qI v] U (JF B U (j9 D k v))by
  rw[<-af]
  exact DW B D k v U hM);have bb:=eC (λ(ht:J=4\/J=5\/J=6\/J=18\/J=19\/J=21\/J=24\/J=25)=>show∃R x,a=some ⟨R,0,none⟩/\0<m/\qC M R 0 (qI x)/\hd f.vals=x by
  obtain⟨x,t,hv⟩:=ao.some1 bn (by rw[S];exact ht)
  obtain⟨R,h1,h2,h3,h4⟩:=AB aL (i:=0) (x:=x) (by rw[hv];rfl)
  exact⟨R,x,h1,h3,h4,by rw[hv];rfl⟩);have cr:=eC (λ(ht:J=22\/7<=J/\J<=17)=>show∃R x y,a=some ⟨R,0,none⟩/\1<m/\qC M R 0 (qI x)/\qC M R 1 (qI y)/\hd f.vals=x/\G7 f.vals=y by
  obtain⟨x,y,t,hv⟩:=ao.some2 bn (by rw[S];exact ht)
  obtain⟨R,h1,h2,h3,h4⟩:=AB aL (i:=0) (x:=x) (by rw[hv];rfl)
  obtain⟨ej,g1,g2,g3,g4⟩:=AB aL (i:=1) (x:=y) (by rw[hv];rfl)
  rw[h1]at g1
  cases g1
  exact⟨R,x,y,h1,g3,h4,g4,by rw[hv];rfl,by rw[hv];rfl⟩);replace ag:=eC ag;by_cases h1:J=1
 .subst h1;have O:Hid (aa=iX D bO):=eC (by rw[<-ab];unfold nD;rw[S];rfl);go_wp2_with(go_at_call 265;refine(a0 zO bO _ ⟨_,_,_,_,_,_,M4⟩).mono ?_;rintro e w'⟨rfl,hm⟩;replace hm:=eC hm);exact gO (iU rfl _ _ _) rfl ⟨rfl,by rw[O];exact hm.of ac⟩
 by_cases h2:J=2
 .subst h2;have O:Hid (aa=iX D bO):=eC (by rw[<-ab];unfold nD;rw[S];rfl);go_wp2_with(go_at_call 265;refine(a0 zO bO _ ⟨_,_,_,_,_,_,M4⟩).mono ?_;rintro e w'⟨rfl,hm⟩;replace hm:=eC hm);exact gO (iU rfl _ _ _) rfl ⟨rfl,by rw[O];exact hm.of ac⟩
 by_cases h5:J=5
 .subst h5;obtain⟨R,x,rfl,ay,ai,Y⟩:=bb zO;have O:Hid (aa=iX D (aP.wrap (-(hd f.vals)))):=eC (by rw[<-ab];unfold nD;rw[S];rfl);have ce:Hid (aP.wrap (-(hd f.vals))=a9 (-x)):=eC (by rw[Y,iA];unfold a9;rfl);clear Y;go_wp2_with(go_at_call 265;refine(a0 zO _ _ ⟨_,_,_,_,_,_,M4⟩).mono ?_;rintro e w'⟨rfl,hm⟩;replace hm:=eC hm);exact gO (iU rfl _ _ _) rfl ⟨rfl,by rw[O,ce];exact hm.of ac⟩
 by_cases h6:J=6
 .subst h6;obtain⟨R,x,rfl,ay,ai,Y⟩:=bb zO;have O:Hid (aa=iX D (aP.wrap (1-hd f.vals))):=eC (by rw[<-ab];unfold nD;rw[S];rfl);have ce:Hid (aP.wrap (1-hd f.vals)=a9 (1-x)):=eC (by rw[Y,iA];unfold a9;rfl);clear Y;go_wp2_with(go_at_call 265;refine(a0 zO _ _ ⟨_,_,_,_,_,_,M4⟩).mono ?_;rintro e w'⟨rfl,hm⟩;replace hm:=eC hm);exact gO (iU rfl _ _ _) rfl ⟨rfl,by rw[O,ce];exact hm.of ac⟩
 by_cases h25:J=25
 .subst h25;obtain⟨R,x,rfl,ay,ai,Y⟩:=bb zO;have O:Hid (aa=j9 D 0 x):=eC (by rw[<-ab];unfold nD;rw[S,Y];rfl);clear Y;go_wp2_with(go_at_call 209;refine(dj 0 x _ ⟨_,_,_,_,_,_,M4⟩).mono ?_;rintro e w'⟨rfl,hm⟩;replace hm:=eC hm);exact gO (iU rfl _ _ _) rfl ⟨rfl,by rw[O];exact hm.of ac⟩
 by_cases h20:J=20
 .subst h20;have O:Hid (aa=D):=eC (by rw[<-ab];unfold nD;rw[S];rfl);go_wp2;exact gO (iU rfl _ _ _) rfl ⟨rfl,by rw[O];exact⟨⟨_,_,_,_,_,_,M4⟩,ac⟩⟩
 by_cases h23:J=23
 .subst h23;have O:Hid (aa=D):=eC (by rw[<-ab];unfold nD;rw[S];rfl);go_wp2;exact gO (iU rfl _ _ _) rfl ⟨rfl,by rw[O];exact⟨⟨_,_,_,_,_,_,M4⟩,ac⟩⟩
 by_cases h26:J=26
 .subst h26;have O:Hid (aa=D):=eC (by rw[<-ab];unfold nD;rw[S];rfl);go_wp2;exact gO (iU rfl _ _ _) rfl ⟨rfl,by rw[O];exact⟨⟨_,_,_,_,_,_,M4⟩,ac⟩⟩
 by_cases h3:J=3
 .subst h3;obtain⟨u,ae⟩:=ao.var (by rw[S];simp);rw[S]at u ae;simp only at u ae;obtain⟨k,rfl⟩:=qJ u;obtain⟨y,hy⟩:∃y,D.vs[k]?=some y:=⟨_,lJ (by rw[<-ag];have:=cs.out;simp only;omega)⟩;obtain⟨g2,dl,a1,dz,dy,c9,bL⟩:=vO (M4.ls.ints.own (vv,D.vs) zS) hy;have dB:=(gX.1 hy).1;have c4:M.cell? ⟨mb,4,none⟩=some vv:=by rw[<-af];exact M4.cells rfl
  simp only at a1;rw[a1]at c4;have O:Hid (aa=iX D y):=eC (by rw[<-ab];unfold nD;rw[S];show iX D (D.vs[k]?.getD 0)=_;rw[hy];rfl);have dA:(k:Int)<(D.vs.length:Int):=zO;clear hy u ae a1 bL;generalize D.vs.length=vl at*;go_wp2;go_still_tail 9,zK;change wpList _ _ _ _ _ M.drew;obtain⟨X,Z⟩:∃X,M.drew=X:=⟨_,rfl⟩;rw[Z];have M5:=eC (show rA B X D vv av (aA (some ⟨g,0,none⟩) N aj) ev aw ak by rw[<-Z];exact M4.drew);have am:=eC (show eZ (lQ B) w X by rw[<-Z];exact ac.drew);go_wp2_with(go_at_call 265;refine(a0 zO y _ ⟨_,_,_,_,_,_,M5⟩).mono ?_;rintro e w'⟨rfl,hm⟩;replace hm:=eC hm);exact gO (iU rfl _ _ _) rfl ⟨rfl,by rw[O];exact hm.of am⟩
 by_cases h18:J=18
 .subst h18;obtain⟨x,tt,hv⟩:=ao.some1 bn (by rw[S];simp);obtain⟨i,hi⟩:=PZ hv;have b7:=(gX.1 hi).1;have bh:f.vals[f.vals.length-1]?=some (f.vals.getLastD 0):=by rw[hv];simp only[List.getLastD,iW,Nat.add_sub_cancel];rw[lJ zS];congr 1;exact(List.getLast_eq_getElem (l:=x::tt) zS).symm
  obtain⟨R,rfl,bj,cc,ai⟩:=AB aL bh;have cd:=bo f (by rw[HS];simp);rw[<-bj]at ai cd;have ay:0<m:=zO;have w0:aP.wrap ((m:Int)-1)=((m-1:Nat):Int):=by rw[iA];omega
  have w9:(m:Int)-1=((m-1:Nat):Int):=zO;have O:Hid (aa=iX D (f.vals.getLastD 0)):=eC (by rw[<-ab];unfold nD;rw[S];rfl);clear hv hi b7 bh bj cc;generalize f.vals.getLastD 0=y at*;obtain⟨m1,bi⟩:∃m1,m-1=m1:=⟨_,rfl⟩;rw[bi]at ai w0 w9;have dT:m1<m:=zO;have b9:(m1:Int)<(m:Int):=zO;clear bi;go_wp2_with(go_at_call 265;refine(a0 zO y _ ⟨_,_,_,_,_,_,M4⟩).mono ?_;rintro e w'⟨rfl,hm⟩;replace hm:=eC hm);exact gO (iU rfl _ _ _) rfl ⟨rfl,by rw[O];exact hm.of ac⟩
 by_cases h19:J=19
 .subst h19;obtain⟨x,tt,hv⟩:=ao.some1 bn (by rw[S];simp);obtain⟨i,hi⟩:=PZ hv;have b7:=(gX.1 hi).1;have bh:f.vals[f.vals.length-1]?=some (f.vals.getLastD 0):=by rw[hv];simp only[List.getLastD,iW,Nat.add_sub_cancel];rw[lJ zS];congr 1;exact(List.getLast_eq_getElem (l:=x::tt) zS).symm
  obtain⟨R,rfl,bj,cc,ai⟩:=AB aL bh;have cd:=bo f (by rw[HS];simp);rw[<-bj]at ai cd;have ay:0<m:=zO;have w0:aP.wrap ((m:Int)-1)=((m-1:Nat):Int):=by rw[iA];omega
  have w9:(m:Int)-1=((m-1:Nat):Int):=zO;have O:Hid (aa=iX D (f.vals.getLastD 0)):=eC (by rw[<-ab];unfold nD;rw[S];rfl);clear hv hi b7 bh bj cc;generalize f.vals.getLastD 0=y at*;obtain⟨m1,bi⟩:∃m1,m-1=m1:=⟨_,rfl⟩;rw[bi]at ai w0 w9;have dT:m1<m:=zO;have b9:(m1:Int)<(m:Int):=zO;clear bi;go_wp2_with(go_at_call 265;refine(a0 zO y _ ⟨_,_,_,_,_,_,M4⟩).mono ?_;rintro e w'⟨rfl,hm⟩;replace hm:=eC hm);exact gO (iU rfl _ _ _) rfl ⟨rfl,by rw[O];exact hm.of ac⟩
 have ch:=eC (show∀x∈f.vals,kS x by
  have:=dk.out
  rw[HS]at this
  obtain⟨kc,_,hf,_⟩:=this
  exact hf.r64);by_cases h4:J=4
 .subst h4;obtain⟨R,x,rfl,ay,ai,Y⟩:=bb zO;obtain⟨u,ae⟩:=ao.var (by rw[S];simp);rw[S]at u ae;simp only at u ae;obtain⟨k,rfl⟩:=qJ u;have a6:k<B.p.vs.length:=zO;have a3:kS x:=by rw[<-Y];exact(XP ch).1
  have ax:k<D.ar.length:=by rw[<-ag];have:=cj.out;simp only;omega
  have a7:(mT D k).length<=1000:=by rw[<-ag];exact cp k a6
  obtain⟨X,Z⟩:∃X,M.drew=X:=⟨_,rfl⟩;have M5:=eC (show rA B X D vv av (aA (some ⟨g,0,none⟩) N aj) ev aw ak by rw[<-Z];exact M4.drew);have am:=eC (show eZ (lQ B) w X by rw[<-Z];exact ac.drew);obtain⟨rv,ga,ca,ra,rc,aq,_,a8,_,az⟩:=M5.row ax;rw[a8]at aq az;have CS:=TO B D k x X _ _ _ _ _ _ rv ra rc M5 ax aq a7 a3;rw[af]at CS;by_cases hin:tF D k x=true
  .have ah:=hin;unfold tF at ah;simp only[BV,AX]at ah;obtain⟨y,hy⟩:∃y,(mT D k)[x.toNat]?=some y:=⟨_,lJ zO⟩;obtain⟨rb,rfl,_,_,b4⟩:=AB az hy;have a2:Hid (qK 266 #[qP mb 0,qI (k:Int),qI x] X (λe w'=>e=aO (qP rb x.toNat)/\X=w')):=eC (CS.mono λe w' h=>by
    unfold N9 at h
    rw[hin]at h
    obtain⟨d8,h1,h2,h3⟩:=h
    cases h1
    exact⟨h2,h3⟩);have O:Hid (aa=iX D y):=eC (by
    rw[<-ab];unfold nD;rw[S]
    show(if tF D k (hd f.vals)then iX D ((mT D k)[(hd f.vals).toNat]?.getD 0)else j9 D 2 0)=_
    rw[Y,hin,hy];rfl);generalize x.toNat=j at*;clear Y hy hin ah az aq a8 CS ax a7 a3 a6 u ae;replace Z:=eC Z;go_wp2;go_still_tail 7,zK;change wpList _ _ _ _ _ M.drew;rw[Z];go_wp2_with(first|(go_at_call 265;refine(a0 zO y _ ⟨_,_,_,_,_,_,M5⟩).mono ?_;rintro e w'⟨rfl,hm⟩;replace hm:=eC hm)|(go_at_call 266;refine a2.mono ?_;rintro e w'⟨rfl,rfl⟩));exact gO (iU rfl _ _ _) rfl ⟨rfl,by rw[O];exact hm.of am⟩
  .have ah:tF D k x=false:=by simpa using hin
   have a2:Hid (qK 266 #[qP mb 0,qI (k:Int),qI x] X (λe w'=>e=aO (aE none)/\xF B X (j9 D 2 0) w'/\eN B.mb X w')):=eC (CS.mono λe w' h=>by
    unfold N9 at h
    rw[ah]at h
    exact h);have O:Hid (aa=j9 D 2 0):=eC (by
    rw[<-ab];unfold nD;rw[S]
    show(if tF D k (hd f.vals)then iX D ((mT D k)[(hd f.vals).toNat]?.getD 0)else j9 D 2 0)=_
    rw[Y,ah];rfl);clear Y hin ah az aq a8 CS ax a7 a3 a6 u ae;replace Z:=eC Z;go_wp2;go_still_tail 7,zK;change wpList _ _ _ _ _ M.drew;rw[Z];go_wp2_with(go_at_call 266;refine a2.mono ?_;rintro e w'⟨rfl,hm⟩;replace hm:=eC hm);exact gO (iU rfl _ _ _) rfl ⟨rfl,by rw[O];exact hm.1.of am⟩
 by_cases h21:J=21
 .subst h21;obtain⟨R,x,rfl,ay,ai,Y⟩:=bb zO;obtain⟨u,ae⟩:=ao.var (by rw[S];simp);rw[S]at u ae;simp only at u ae;obtain⟨k,rfl⟩:=qJ u;obtain⟨y,hy⟩:∃y,D.vs[k]?=some y:=⟨_,lJ (by rw[<-ag];have:=cs.out;simp only;omega)⟩;obtain⟨g2,dl,a1,dz,dy,c9,bL⟩:=vO (M4.ls.ints.own (vv,D.vs) zS) hy;have dB:=(gX.1 hy).1;have c4:M.cell? ⟨mb,4,none⟩=some vv:=by rw[<-af];exact M4.cells rfl
  simp only at a1;obtain⟨X,Z⟩:∃X,M.drew=X:=⟨_,rfl⟩;have M5:=eC (show rA B X D vv av (aA (some ⟨g,0,none⟩) N aj) ev aw ak by rw[<-Z];exact M4.drew);have am:=eC (show eZ (lQ B) w X by rw[<-Z];exact ac.drew);have da:X.cell? ⟨g2,k,none⟩=some (qI y):=by rw[<-Z];exact c9
  have db:X.frozen? ⟨g2,k,none⟩=false:=by rw[<-Z];exact bL
  have ba:=M5.setInt (s':={D with vs:=D.vs.set k x}) (lv:=vv) (rows':=aw) (A:=[]) (C:=aw++ak.map (λx=>(x.2,x.1.vals))) (L:=D.vs) (g:=g2) (j:=k) (x:=x) zS zS (by rw[a1];rfl) rfl M5.ls.ar rfl rfl rfl rfl rfl;have CN:=aEp B {D with vs:=D.vs.set k x} g2 k (k:Int) (-1) x y X _ _ _ _ _ _ da db ba.1 ba.2 (by
   have:=be.out
   unfold pM at this
   have e:D.ev=s.ev:=by rw[<-ag]
   rw[e]
   omega);rw[af]at CN;have CN:=eC CN;rw[a1]at c4;have O:Hid (aa=DV D k x):=eC (by rw[<-ab];unfold nD;rw[S];show DV D k (hd f.vals)=_;rw[Y]);have dA:(k:Int)<(D.vs.length:Int):=zO;clear hy u ae a1 bL ba da db Y;generalize D.vs.length=vl at*;replace Z:=eC Z;go_wp2;go_still_tail 14,zK;change wpList _ _ _ _ _ M.drew;rw[Z];go_wp2_with(go_at_call 267;refine CN.mono ?_;rintro e w'⟨rfl,hm⟩;replace hm:=eC hm);exact gO (iU rfl _ _ _) rfl ⟨rfl,by rw[O];exact hm.of am⟩
 by_cases h24:J=24
 .subst h24;obtain⟨R,x,rfl,ay,ai,Y⟩:=bb zO;have dC:Hid (pM B.F D):=eC (by
   have:=be.out
   rw[<-ag]
   unfold pM at this|-
   have e:=HS.out
   rw[e]at this
   simp only[iW]at this|-
   omega);by_cases hx:x=1
  .subst hx;have CE:=aKR B D f.pos M ⟨_,_,_,_,_,_,M4⟩ dC;rw[af]at CE;have CE:=eC CE;have O:Hid (aa=jQ B.F D f.pos):=eC (by rw[<-ab];unfold nD;rw[S,Y];rfl);clear Y;go_wp2_with(go_at_call 210;refine CE.mono ?_;rintro e w'⟨rfl,hm⟩;replace hm:=eC hm);exact gO (iU rfl _ _ _) rfl ⟨rfl,by rw[O];exact hm.of ac⟩
  .have O:Hid (aa=D):=eC (by
    rw[<-ab];unfold nD;rw[S,Y]
    show(if x=1 then jQ B.F D f.pos else D)=D
    rw[eE hx]);have d0:(x==1)=false:=by simpa using hx
   clear Y;go_wp2;exact gO (iU rfl _ _ _) rfl ⟨rfl,by rw[O];exact⟨⟨_,_,_,_,_,_,M4⟩,ac⟩⟩
 by_cases h22:J=22
 .subst h22;obtain⟨R,x,y,rfl,ay,ai,b4,Y,bc⟩:=cr (.inl rfl);obtain⟨u,ae⟩:=ao.var (by rw[S];simp);rw[S]at u ae;simp only at u ae;obtain⟨k,rfl⟩:=qJ u;have a6:k<B.p.vs.length:=zO;have a3:kS x:=by rw[<-Y];exact(XP ch).1
  have ax:k<D.ar.length:=by rw[<-ag];have:=cj.out;simp only;omega
  have a7:(mT D k).length<=1000:=by rw[<-ag];exact cp k a6
  have M5:=eC (show rA B M.drew D vv av (aA (some ⟨g,0,none⟩) N aj) ev aw ak from M4.drew);have am:=eC (show eZ (lQ B) w M.drew from ac.drew);obtain⟨rv,ga,ca,ra,rc,aq,_,a8,_,az⟩:=M5.row ax;rw[a8]at aq az;have CS:=TO B D k x M.drew _ _ _ _ _ _ rv ra rc M5 ax aq a7 a3;rw[af]at CS;have cu:R≠mb/\R<M:=⟨λe=>by
   have h1:=aL.lt R rfl
   have h2:=M4.good.mb
   have h3:=af.out
   omega,(aL.lt R rfl).2⟩;have cE:w≠mb/\w<M.heap.size:=⟨λe=>by have:=au.1;omega,(fB.1 di).1⟩;have cW:W≠mb/\W<M.heap.size:=⟨λe=>by have:=au.1;have:=b2.out;omega,(fB.1 dg).1⟩;have ek:tQ W w R M M.drew:=λ_ _=>rfl;have bV:=eC cu;have b0:=eC cE;have b1:=eC cW;have s1:∀U,tQ W w R M U->qC U W 1 (qI (k:Int)):=λU h=>(h.cell (.inl rfl)).trans n1;have s2:∀U,tQ W w R M U->qC U w 2 (aA (some ⟨R,0,none⟩) m c):=λU h=>(h.cell (.inr (.inl rfl))).trans r2;have s3:∀U,tQ W w R M U->qC U R 0 (qI x):=λU h=>(h.cell (.inr (.inr rfl))).trans ai;have s4:∀U,tQ W w R M U->qC U R 1 (qI y):=λU h=>(h.cell (.inr (.inr rfl))).trans b4;clear cu cE cW;have dF:0<m:=zO;have b9:(1:Int)<(m:Int):=zO;by_cases hin:tF D k x=true
  .have ah:=hin;unfold tF at ah;simp only[BV,AX]at ah;obtain⟨z,hz⟩:∃z,(mT D k)[x.toNat]?=some z:=⟨_,lJ zO⟩;obtain⟨rb,em,c6,_,_,cA,cL⟩:=vO az hz;simp only[Value.slice.injEq]at c6;obtain⟨rfl,_,_⟩:=c6;have a2:Hid (qK 266 #[qP mb 0,qI (k:Int),qI x] M.drew (λe w'=>e=aO (qP rb x.toNat)/\M.drew=w')):=eC (CS.mono λe w' h=>by
    unfold N9 at h
    rw[hin]at h
    obtain⟨d8,h1,h2,h3⟩:=h
    cases h1
    exact⟨h2,h3⟩);have O:Hid (aa={D with ar:=D.ar.set k ((mT D k).set x.toNat y),ev:=D.ev++[((k:Int),x,y)]}):=eC (by
    rw[<-ab];unfold nD;rw[S]
    show(if tF D k (hd f.vals)then ES D k (hd f.vals) (G7 f.vals)else j9 D 2 0)=_
    rw[Y,bc,hin];rfl);have d5:=aA1 (B:=B) (rows:=aw) (v:=k) (s:=D) (y:=y) (i:=x.toNat) M5 aq;obtain⟨A,C,e1,e2,e3,e4⟩:=d5;have ba:=M5.setInt (s':={D with ar:=D.ar.set k ((mT D k).set x.toNat y)}) (A:=A) (C:=C) (g:=rb) (j:=x.toNat) (x:=y) e1 e2 rfl e3 e4 rfl rfl rfl rfl rfl;have CN:=OR B {D with ar:=D.ar.set k ((mT D k).set x.toNat y)} rb x.toNat (k:Int) x y z M.drew _ _ _ _ _ _ cA cL ba.1 ba.2 (by
    have:=be.out
    unfold pM at this
    have e:D.ev=s.ev:=by rw[<-ag]
    rw[e]
    omega);rw[af]at CN;have CN:=eC CN;have dh:=eC (show∀w',(∀q,q<M.heap.size->q≠B.mb->q≠rb->ev.ownBlock≠some q->w'.heap[q]?=M.heap[q]?)->tQ W w R M w' from λw' h q hq=>by
    have d4:=ci.1 (aA (some ⟨rb,0,none⟩) (mT D k).length rc,mT D k) (iG aq) rb rfl
    have cB:=ci.2
    have cg:=b2.out
    have cb:=af.out
    obtain rfl|rfl|rfl:=hq
    .exact h _ b1.2 (by rw[cb];exact b1.1) zO (λe=>by have:=cB _ e;omega)
    .exact h _ b0.2 (by rw[cb];exact b0.1) zO (λe=>by have:=cB _ e;omega)
    .refine h _ bV.2 (by rw[cb];exact bV.1) (λe=>d4.2 (by rw[e])) (λe=>?_)
     obtain⟨c1,t1⟩:=aL.tag _ rfl
     obtain⟨c2,t2⟩:=M4.ls.ev.tag _ e
     rw[t1]at t2
     simp at t2);clear e1 e2 e3 e4 ba Y bc hin ah az aq a8 CS ax a7 a3 a6 u ae hz cA cL;generalize x.toNat=j at*;go_wp2;go_region_held_law(λU=>tQ W w R M U) (first|(with_reducible assumption)|go_grown) (first
    |(go_at_call 267;refine CN.mono ?_;rintro e w'⟨rfl,hm,hk⟩;have hS:=dh w' hk;replace hm:=eC hm;clear hk)
    |(go_at_call 266;refine a2.mono ?_;rintro e w'⟨rfl,rfl⟩));exact gO (iU rfl _ _ _) rfl ⟨rfl,by rw[O];exact hm.of am⟩
  .have ah:tF D k x=false:=by simpa using hin
   have a2:Hid (qK 266 #[qP mb 0,qI (k:Int),qI x] M.drew (λe w'=>e=aO (aE none)/\xF B M.drew (j9 D 2 0) w'/\eN mb M.drew w')):=eC (CS.mono λe w' h=>by
    unfold N9 at h
    rw[ah,af]at h
    exact h);have CN:=eC (λv q x w=>af▸aFn B v q x w);have O:Hid (aa=j9 D 2 0):=eC (by
    rw[<-ab];unfold nD;rw[S]
    show(if tF D k (hd f.vals)then ES D k (hd f.vals) (G7 f.vals)else j9 D 2 0)=_
    rw[Y,ah];rfl);clear Y bc hin ah az aq a8 CS ax a7 a3 a6 u ae;go_wp2;go_region_held_law(λU=>tQ W w R M U) (first|(with_reducible assumption)|go_grown) (first
    |(go_at_call 267;refine(CN _ _ _ _).mono ?_;rintro e w2⟨rfl,rfl⟩)
    |(go_at_call 266;refine a2.mono ?_;rintro e w'⟨rfl,hm,ho⟩;have hS:tQ W w R M w':=tQ.only ((eN.refl mb M).drew.trans ho) b1 b0 bV;replace hm:=eC hm;clear ho));exact gO (iU rfl _ _ _) rfl ⟨rfl,by rw[O];exact hm.of am⟩
 have bp:7<=J/\J<=17:=by have:=HT.out;omega
 obtain⟨R,x,y,rfl,ay,ai,b4,Y,bc⟩:=cr (.inr bp);have dF:0<m:=zO;have b9:(1:Int)<(m:Int):=zO;have bu:=ao.tells (by rw[S];show J<=19;omega);obtain⟨X,Z⟩:∃X,M.drew=X:=⟨_,rfl⟩;have M5:=eC (show rA B X D vv av (aA (some ⟨g,0,none⟩) N aj) ev aw ak by rw[<-Z];exact M4.drew);have am:=eC (show eZ (lQ B) w X by rw[<-Z];exact ac.drew);have CP:qK 268 #[qP mb 0,qI J,qI x,qI y] X (JF B X (yR D J x y)):=by
  cases hr:r with
  |nil=>exact absurd hr bu
  |cons f' r'=>
   have bm:D.sk=f'::r':=by rw[<-ag];exact hr
   have hl:=be.out;unfold pM at hl;rw[<-af];refine aAH B D f' r' J x y X ⟨_,_,_,_,_,_,M5⟩ bp bm (bo f' (by rw[HS,hr];simp)) ?_;rw[bm];have:=HS.out;rw[this,hr]at hl;simp only[iW]at hl|-;omega
 have CP:=eC CP;have O:Hid (aa=yR D J x y):=eC (by
  rw[<-ab];unfold nD;rw[S,Y,bc]
  show(if J=1\/J=2 then _ else if J=3 then _ else if J=4 then _ else if J=5 then _ else if J=6 then _ else if J=18\/J=19 then _ else if J=21 then _ else if J=22 then _ else if J=24 then _ else if J=25 then _ else if J=20\/J=23\/J=26 then _ else if y=0/\(J=10\/J=11)then _ else _)=_
  rw[eE zO,eE h3,eE h4,eE h5,eE h6,eE zO,eE h21,eE h22,eE h24,eE h25,eE zO]
  rfl);have e1:(J==1)=false:=by simpa using h1
 have e2:(J==2)=false:=by simpa using h2
 have e3:(J==3)=false:=by simpa using h3
 have e4:(J==4)=false:=by simpa using h4
 have e5:(J==5)=false:=by simpa using h5
 have e6:(J==6)=false:=by simpa using h6
 have ea:(J==18)=false:=by simpa using h18
 have eb:(J==19)=false:=by simpa using h19
 have ed:(J==21)=false:=by simpa using h21
 have ee:(J==22)=false:=by simpa using h22
 have eg:(J==24)=false:=by simpa using h24
 have eh:(J==25)=false:=by simpa using h25
 have ec:(J==20)=false:=by simpa using h20
 have ef:(J==23)=false:=by simpa using h23
 have ei:(J==26)=false:=by simpa using h26
 clear Y bc bu h1 h2 h3 h4 h5 h6 h18 h19 h21 h22 h24 h25 h20 h23 h26;replace bp:=eC bp;replace Z:=eC Z;go_wp2;go_still_tail 11,zK;change wpList _ _ _ _ _ M.drew;rw[Z];go_wp2_with(go_at_call 268;refine CP.mono ?_;rintro e w'⟨rfl,hm⟩;replace hm:=eC hm);exact gO (iU rfl _ _ _) rfl ⟨rfl,by rw[O];exact hm.of am⟩
theorem JW{c:Int}(h:Wt p k c):(oA p k).length<=200/\(eO p.bd k).length<=200:=by obtain⟨a,f,d,e,_,hw,_,_⟩:=h.node;have:=(lX d).2;omega
theorem RC{d:Nat}{c:Int}(hw:Wt p f.pos c)(h:T7 p f d):f.vals.length<=200/\d<=200:=by have e:=h.le;have g:=h.len;have i:=(JW hw).1;omega
theorem KI{p:Pg}:∀{r:List Fr}{c:Int},WX p r c->∀x∈r,x.vals.length<=1000/\x.kid<=1000
 |[],c,h,x,hx=>by cases hx
 |f::r,c,h,x,hx=>by
  obtain⟨g,hw,e,hf,_,d⟩:=h
  obtain rfl|hx:=xD.1 hx
  .have:=RC hw hf
   omega
  .exact KI d x hx
theorem M7{l:List Fr}(h:Top p l):∀x∈l,x.vals.length<=1000/\x.kid<=1000:=by
 cases l with
 |nil=>intro x d;cases d
 |cons f r=>
  obtain⟨g,hw,hf,e⟩:=h;intro x d;obtain rfl|d:=xD.1 d
  .have:=RC hw hf;omega
  .exact KI e x d
theorem aB7(h:Top p (f::r)):(eO p.bd f.pos).length<=1000:=by obtain⟨e,hw,hf,d⟩:=h;have:=(JW hw).2;omega
theorem aDb(v:Int)(h:pM F s):pM F (iX s v):=by
 unfold iX;cases hs:s.sk with
 |nil=>exact h
 |cons f r=>unfold pM at h|-;rw[hs]at h;simpa using h
theorem FZ(k:Nat)(h:pM F s):pM F (jQ F s k):=by
 unfold jQ;split
 .exact h
 .rename_i d;unfold pM at h|-;simp only[iW];omega
theorem aGF(h:s.sk.length+1+s.ev.length<=s.st)(e:(s.st:Int)<=F)(g:F<=10000):pM F (nD p F s f):=by
 have d:pM F s:=⟨zO,e,g⟩;refine C6 (P:=λa _=>pM F a) (p:=p) (F:=F) (G:=F) (s:=s) (f:=f) (λv=>aDb v d) (λk v=>d) (FZ _ d) d (λv x=>?_) (λv i x=>?_)
 .refine⟨?_,e,g⟩;simp only[DV,iR,iW,rP];omega
 .refine⟨?_,e,g⟩;simp only[ES,iR,iW,rP];omega
theorem aDs(h:pM F s):pM F (nY p F s):=by
 unfold nY;split
 .exact h
 .rename_i f r d;unfold pM at h;rw[d]at h;simp only[iW]at h;split
  .refine FZ _ ⟨?_,h.2.1,h.2.2⟩;simp only[iW];omega
  .refine aGF ?_ h.2.1 h.2.2;simp only;omega
theorem aBL{d:List Int}(e:0<=F)(f:F<=10000):pM F (lT p d F):=FZ _ ⟨by simp[mH],by simpa[mH]using e,f⟩
def uP(p:Pg)(F:Int)(n:Nat)(s R:Ms):Prop:=vW p s/\pM F s/\IG F s<=n/\l7 p F n s=R
theorem uP.over(h:uP p F n s R)(d:s.over=true):s=R:=by
 obtain⟨_,_,_,h⟩:=h;cases n with
 |zero=>exact h
 |succ n=>simp only[l7,d,if_true]at h;exact h
theorem uP.step(i:P64 p)(j:p.vs.length<=12)(h:uP p F n s R)(d:s.over=false):∃m,n=m+1/\uP p F m (nY p F s) R:=by
 obtain⟨g,e,k,f⟩:=h;have q:=JV (p:=p) (F:=F) (s:=s) d e.2.1;cases n with
 |zero=>omega
 |succ m=>refine⟨m,rfl,aCT i j g d,aDs e,zO,?_⟩;simp only[l7,d]at f;exact f
theorem NM{d:List Int}(g:Wt p 0 2)(h:∀x∈d,kS x)(j:∀i:Nat,p.vs[i]?=some 1->d.length<=i)(e:0<=F)(f:F<=10000):
  ∃R,uP p F (2*F.toNat+3) (lT p d F) R/\R.over=true/\LM p d F=⟨R.out,R.st,R.ev⟩:=by have hm:=KC (p:=p) (args:=d) (F:=F) e;refine⟨_,⟨aBK g h j,aBL e f,zO,rfl⟩,wQ p F _ _ hm.2 zO,rfl⟩
def ZI(p:Pg)(F:Int)(d:List Int)(w:aS)(e:Ending)(w':aS):Prop:=
 ∃B:gC,B.p=p/\B.F=F/\(w:Nat)<=B.mb/\(w:Nat)<=B.n/\e=aO (aE (some ⟨B.mb,0,none⟩))/\aV (w:Nat) w w'/\MI B w' (mH p d)
def aIa(n:Nat)(r:Rn)(d:Nat)(w':aS)(e:Ending):Prop:=
 ∃ev,e=aO (aF #[.agg #[aC aP r.out.1,aC aP r.out.2,aC aP r.st,ev],aC aP d])/\eD kT 434 n w' ev r.ev
def GD(n:Nat)(r:Rn)(d:Nat)(w:aS)(e:Ending)(w':aS):Prop:=aIa n r d w' e/\aV (w:Nat) w w'
theorem I4{y z a c:aT}{t:TypeId}(h:w.heap[b]?=some (aK #[x,y,z,u] t (0,0))):(qS (qS (qS (qS w (b,0) a) (b,1) c) (b,2) d) (b,3) g).heap[b]?=some (aK #[a,c,d,g] t (0,0)):=by have e:=iB w b 0 _ _ a h;have f:=iB _ b 1 _ _ c e;have i:=iB _ b 2 _ _ d f;exact iB _ b 3 _ _ g i
theorem IJ{u:aS}{a c:aT}(h:aV n u w)(e:n<=b):aV n u (qS (qS (qS (qS w (b,0) a) (b,1) c) (b,2) d) (b,3) g):=(((h.setCell e _).setCell e _).setCell e _).setCell e _
theorem iY{f d:Obj}(m:(w.alloc f).alloc d=V):V.heap[(w:Nat)]?=some f/\V.heap[(w:Nat)+1]?=some d/\Bl w V/\V=(w:Nat)+1+1:=by
 obtain⟨g,j,_,e,r⟩:=B0 (w:=w) (o0:=f) (o1:=d) (o2:=d) rfl;have q:V=(w:Nat)+1+1:=by rw[<-m,fO,fO]
 rw[m]at g j e;have k:∀i,i<(V:Nat)->(V.alloc d).heap[i]?=V.heap[i]?:=λi h=>heap_alloc_old V d h;exact⟨(k _ zO).symm.trans g,(k _ zO).symm.trans j,⟨e.os,e.tape,e.output,zO,λi n=>(k _ zO).symm.trans (e.block i n)⟩,q⟩
structure aJM(mb rb:Nat)(R:Ms)(ev:aT)(W:aS):Prop where
 c8:W.cell? ⟨mb,8,none⟩=some (aC aP R.out.1)
 c9:W.cell? ⟨mb,9,none⟩=some (aC aP R.out.2)
 c10:W.cell? ⟨mb,10,none⟩=some (aC aP R.st)
 c11:W.cell? ⟨mb,11,none⟩=some ev
 row:W.heap[rb]?=some (aK #[aC aP 0,aC aP 0,aC aP 0,aA none 0 0] 243 (0,0))
theorem aIU{d:aS}(h:MI B W R)(g:eZ (lQ B) d W)(f:rb<d)(i:qB d rb #[qI 0,qI 0,qI 0,qN] 243)(m:rb<B.mb)(e:rb<B.n):
  ∃ev,aJM B.mb rb R ev W/\eD kT 434 B.n W ev R.ev:=by obtain⟨r,j,q,ev,n,k,h⟩:=h;exact⟨ev,⟨h.cells rfl,h.cells rfl,h.cells rfl,h.cells rfl,(g.block _ f (zQ ⟨e,zO⟩)).trans i⟩,h.ls.ev⟩
theorem aG3{w1 i:aS}{r:Rn}(m:r=⟨R.out,R.st,R.ev⟩)(d:Bl w w1)(e:Bl w1 i)(f:eZ (lQ B) i W)(hm:w1<=B.mb)(u:w1<=B.n)(n:w<=rb)(x:rb<w1)(j:eD kT 434 B.n W ev R.ev):
  GD w r 0 w (aO (aF #[.agg #[qI R.out.1,qI R.out.2,qI R.st,ev],qI 0])) (qS (qS (qS (qS W (rb,0) (qI R.out.1)) (rb,1) (qI R.out.2)) (rb,2) (qI R.st)) (rb,3) ev):=by
 have hW:Bl w W:=by refine⟨f.os.trans (e.os.trans d.os),f.tape.trans (e.tape.trans d.tape),f.output.trans (e.output.trans d.output),fA d.size (fA e.size f.size),λk g=>?_⟩;have q:=d.size;have s:=e.size;refine(f.block k zO (zQ ⟨zO,zO⟩)).trans ((e.block k zO).trans (d.block k g))
 subst m;refine⟨⟨ev,rfl,?_⟩,IJ hW n⟩;refine(eW j (λ_ h=>h) λk g _=>?_).mono zO;rw[eF _ zO,eF _ zO,eF _ zO,eF _ zO]
theorem rA.kid{B:gC}{w:aS}{s:Ms}{y k ev e:aT}{x:List (aT×List Int)}{f:Fr}{r:List Fr}{d:List (Fr×aT)}{g m:Nat}(h:rA B w s y k (aA (some (g,0)) (d.length+1) m) ev x ((f,e)::d))(q:s.sk=f::r):
  xF B w {s with sk:={f with kid:=f.kid+1}::r} (qS w (g,d.length*3+1) (qI ((f.kid:Int)+1))):=by
 have i:=h.ls.sv;rw[List.reverse_cons]at i;have n:d.map (·.1)=r:=by have:=h.ls.sk;rw[q,bZ]at this;exact(List.cons.inj this).2
 refine rA.setTop (s:=s) (f:=f) (f':={f with kid:=f.kid+1}) (fv:=e) (fv':=e) (u:=qI ((f.kid:Int)+1)) (j:=1) h.good h.box h.ls.av h.ls.ar i h.ls.ev ?_ n rfl rfl rfl rfl rfl rfl rfl rfl zO ?_ ?_
 .simpa using h.ls.ints
 .simp
 .exact(h.ls.ints.own (e,f.vals) zS).sl
theorem aEI(p:Pg)(F:Int)(J:List Int)(va ba aa:Option Addr)(vc bc ac:Nat)(w:aS)
  (HC:∀V,Bl w V->qK 207 #[kE va ba vc bc p,aA aa J.length ac,qI F] V (Rt (qI 0) V))
  (HL:∀V,Bl w V->qK 208 #[kE va ba vc bc p,aA aa J.length ac,qI F] V (ZI p F J V))
  (bL:Wt p 0 2)(bm:P64 p)(bs:p.vs.length<=12)(ha:∀x∈J,kS x)(hv:∀i:Nat,p.vs[i]?=some 1->J.length<=i)(h0:0<=F)(h1:F<=10000):
  qK 155 #[kE va ba vc bc p,aA aa J.length ac,qI F] w (GD w (LM p J F) 0 w):=by
 obtain⟨R,bf,bw,bx⟩:=NM bL ha hv h0 h1;obtain⟨n0,bu⟩:=eR (2*F.toNat+3);rw[bu]at bf;obtain⟨V,hV⟩:=eR ((w.alloc (aK #[p.pa,aA va p.vs.length vc,aA ba p.bd.length bc] 25)).alloc (aK #[qI 0,qI 0,qI 0,qN] 243));obtain⟨r0,r1,au,bO⟩:=iY hV;have CC:=eC (HC V au);have CL:=eC (λU(h:Bl V U)=>HL U (fC au h));have HX:=eC (λU(h:Bl V U)=>show qC U w 0 p.pa/\qC U w 1 (aA va p.vs.length vc)/\U.cell? (w,2)=some (aA ba p.bd.length bc)by
  have e0:=(h.block _ zO).trans r0
  exact pX e0);have b8:=eC bf;have cm:=eC bw;have b5:=eC bx;have b4:=eC r1;have b0:=eC au;have ah:=eC bO;have bg:=eC (show pM F (mH p J)/\jQ F (mH p J) 0=lT p J F from⟨⟨by simp[mH],by simpa[mH]using h0,h1⟩,rfl⟩);have b7:=eC (λk s(h:uP p F k s R)X=>uP.step bm bs h X);obtain⟨Q,hQ⟩:=eR (GD w (LM p J F) 0 w);rw[hQ];have HQ:=eC hQ;obtain⟨a0,a1,a2⟩:=HX V (iL _ _);clear HC HL bL bm bs ha hv h0 h1 bf bw bx bu r0 r1 au bO hQ;unfold kE at CC CL|-;generalize p.vs.length=vl at*;generalize p.bd.length=bl at*;generalize p.pa=pa at*;generalize J.length=al at*;go_enter func155,ntmps155;go_wp2;refine pSj ?_;go_wp2_with(first|(go_at_call 210;refine(aKR B (mH p J) 0 w2 ay (by rw[HB.2.1];exact bg.1)).mono ?_;rintro e w3⟨rfl,ax⟩;replace ax:=eC ax)|(go_at_call 208;refine(CL w1 u).mono ?_;rintro e w2⟨B,bq,bn,bo,bp,rfl,ao,ay⟩;have HB:=eC (show B.p=p/\B.F=F/\w1<=B.mb/\w1<=B.n from⟨bq,bn,bo,bp⟩);replace ao:=eC ao;replace ay:=eC ay;clear bq bn bo bp)|(go_at_call 207;refine CC.mono ?_;rintro e w1⟨rfl,u⟩;obtain⟨a3,a4,a5⟩:=HX w1 u;replace u:=eC u));go_step3;go_wp2;have ca:=eC (show MI B w3 (lT p J F)/\eZ (lQ B) w2 w3 by
  have:=ax.out
  rw[HB.2.1,bg.2]at this
  exact this);have bh:=eC (λW(hm:MI B W R)(hc:eZ (lQ B) w2 W)=>aIU (rb:=(w:Nat)+1) hm hc (by have:=ah.out;have:=u.size;have:=ao.size;omega) ((ao.block _ (by have:=ah.out;have:=u.size;omega)).trans ((u.block _ (by have:=ah.out;omega)).trans b4)) (by have:=ah.out;have:=u.size;have:=HB.2.2.1;omega) (by have:=ah.out;have:=u.size;have:=HB.2.2.2;omega));have bi:=eC (λW ev(hc:eZ (lQ B) w2 W)(X:eD kT 434 B.n W ev R.ev)=>HQ▸aG3 (w:=w) (w1:=w1) (rb:=(w:Nat)+1) b5 (fC b0 u) ao hc HB.2.2.1 HB.2.2.2 zO (by have:=ah.out;have:=u.size;omega) X);have O:=eC (show B.p=p/\B.F=F from⟨HB.1,HB.2.1⟩);clear ax ay a0 a1 a2 a3 a4 a5 hV;generalize bt:B.mb=mb at*;have ae:=eC bt;clear bt;go_loopg [] n0 (λk wr=>∃s,Hid (uP p F k s R/\MI B wr s/\eZ (lQ B) w2 wr))
 case atStart=>exact⟨_,eC ⟨b8,ca⟩⟩
 case round=>
  obtain⟨s,Y⟩:=hrel;obtain⟨vv,av,sv,ev,aj,y,S⟩:=Y.out.2.1;have ar:wr.cell? (mb,12)=some (.bool s.over):=by rw[<-ae];exact S.cells rfl
  have c7:wr.cell? (mb,7)=some sv:=by rw[<-ae];exact S.cells rfl
  have HM:=eC S;clear S;cases X:s.over with
  |true=>rw[X]at ar;have bz:=Y.out.1.over X;obtain⟨cd,hE,hO⟩:=bh wr (bz▸Y.out.2.1) Y.out.2.2;obtain⟨ea,en,ec,rfl⟩:=hO.sl;have HF:=eC (bi wr _ Y.out.2.2 hO);have bd:=eC (I4 (a:=qI R.out.1) (c:=qI R.out.2) (d:=qI R.st) (g:=aA ea en ec) hE.row);obtain⟨e8,e9,cb,cc,M⟩:=hE;have f0:=g8 wr _ 0 _ _ M;have f1:=g8 wr _ 1 _ _ M;have f2:=g8 wr _ 2 _ _ M;have f3:=g8 wr _ 3 _ _ M;obtain⟨g0,g1,g2,g3⟩:=pQ4 M;clear bz hO M X;go_wp2;exact gO (eQ rfl _ _ ((w:Nat)+1) 243 _ (0,0) _ (qI 0) rfl bd underlying243 rfl zK rfl) rfl HF
  |false=>
   rw[X]at ar;obtain⟨m,hk,bv⟩:=b7 gk s Y.out.1 X;subst hk;have aq:=eC bv;clear bv;have b3:=eC Y.out.2.1;have a7:=eC Y.out.2.2;have a8:=eC Y.out.1.2.1;have b2:=eC Y.out.1.1;have bk:=eC (Y.out.1.1.top X);have HO:=eC X;clear X Y;cases hsk:s.sk with
   |nil=>
    have ap:y=[]:=by have:=HM.ls.sk;rw[hsk]at this;simpa using this
    subst ap;obtain⟨a,c,az,_⟩:=fV HM.ls.sv;simp only[List.reverse_nil,rP]at az;subst az;have CS:=DW B s 3 0 wr b3;rw[ae]at CS;replace CS:=eC CS;have hR:Hid (j9 s 3 0=R):=eC (by
     have e:nY p F s=j9 s 3 0:=by unfold nY;rw[hsk]
     have:=aq.out
     rw[e]at this
     exact this.over rfl);clear hsk;go_wp2_with(go_at_call 209;refine CS.mono ?_;rintro e D⟨rfl,hm⟩;rw[hR]at hm;have be:=a7.trans hm.2;obtain⟨cd,hE,hO⟩:=bh D hm.1 be;obtain⟨ea,en,ec,rfl⟩:=hO.sl;have HF:=eC (bi D _ be hO);have bd:=eC (I4 (a:=qI R.out.1) (c:=qI R.out.2) (d:=qI R.st) (g:=aA ea en ec) hE.row);obtain⟨e8,e9,cb,cc,M⟩:=hE;have f0:=g8 D _ 0 _ _ M;have f1:=g8 D _ 1 _ _ M;have f2:=g8 D _ 2 _ _ M;have f3:=g8 D _ 3 _ _ M;obtain⟨g0,g1,g2,g3⟩:=pQ4 M;clear hO M hm be);exact gO (eQ rfl _ _ ((w:Nat)+1) 243 _ (0,0) _ (qI 0) rfl bd underlying243 rfl zK rfl) rfl HF
   |cons f r=>
    obtain⟨fv,y,rfl,ap⟩:=HM.frs_cons hsk;obtain⟨g,ai,a,m',c,az,cf,cg,ce,x0,x1,x2,xf,ci⟩:=HM.ls.top;subst az;have hT:=bk.out;rw[hsk]at hT;have bA:=M7 hT f zS;have br:=aB7 hT;have aw:=a8.out;unfold pM at aw;rw[hsk]at aw;obtain⟨N,hN⟩:=eR y.length;have cp:N<=10000:=by have:=congrArg List.length ap;simp at this aw;omega
    have co:((N:Int)+1==0)=false:=zT;have w0:aP.wrap (((N+1:Nat):Int)-1)=(N:Int):=by rw[iA];omega
    have wk:aP.wrap ((f.kid:Int)+1)=(f.kid:Int)+1:=by rw[iA];omega
    have b6:=eC (show aFN p s f r from D9 hT);have ck:=eC br;have cn:=eC bA;have am:=eC hsk;have cj:=eC ap;have af:=eC hN;have b9:=eC (show∀x∈s.sk,x.vals.length<=1000 from λx hx=>(M7 bk x hx).1);have CN:=eC (λU(S:rA B U s vv av (aA (some (g,0)) (y.length+1) ai) ev aj ((f,fv)::y))=>aDm B s f r U vv av ev fv aj y g ai S hsk (by rw[O.1];exact D9 hT) zO (by rw[O.1];omega));have cl:=eC aq;rw[hN]at x1 c7;clear hT bA br aw hsk ap hN x0 x2 ci cf cg ce;cases hnf:rT p f with
    |some k=>
     have aL:Hid (∀U,rA B U s vv av (aA (some (g,0)) (N+1) ai) ev aj ((f,fv)::y)->qK 211 #[qP mb 0,qP g (N*3)] U λe U'=>e=aO (aF #[qI k,true])/\∃m,U'=U.drewN m):=eC (λU S=>by
      rw[<-ae,<-af]
      refine(CN U (by rw[af];exact S)).mono λe U' h=>?_
      unfold aBJ at h
      rw[O.1,hnf]at h
      exact h);have HE:=eC (show nY p F s=jQ F {s with sk:={f with kid:=f.kid+1}::r} k by unfold nY;rw[am];simp only[hnf]);have ch:Hid (pM F {s with sk:={f with kid:=f.kid+1}::r}):=eC (by
      have:=a8.out
      unfold pM at this|-
      rw[am]at this
      simpa using this);clear hnf CN;go_wp2;go_quiet (fail);obtain⟨D,ab⟩:=eR (wr.drewN nq);rw[ab];have ak:=eC (show rA B D s vv av (aA (some (g,0)) (N+1) ai) ev aj ((f,fv)::y)by rw[<-ab,<-af];exact HM.drewN _);have a6:=eC (show eZ (lQ B) w2 D by rw[<-ab];exact a7.drewN _);have bV:Hid (D.cell? (g,N*3+1)=some (qI f.kid)/\∀j,D.frozen? (qP g j)=false):=eC (by rw[<-ab];exact⟨x1,λj=>xf j⟩);clear ab x1 xf ar c7;go_wp2_with(first|(go_at_call 210;refine b1.mono ?_;rintro e w6⟨rfl,ag⟩;have bb:=eC (show MI B w6 (nY p F s)/\eZ (lQ B) w2 w6 from⟨HE▸ag.1,(a6.drewN Z).trans (bj.2.trans ag.2)⟩);clear ag)|(go_at_call 211;refine(aL D ak).mono ?_;rintro e w5⟨rfl,Z,rfl⟩;have x5:qC (D.drewN Z) g (N*3+1) (qI f.kid):=bV.1;have cq:qF (D.drewN Z) g (N*3+1):=bV.2 _;have bj:=eC (show xF B (D.drewN Z) {s with sk:={f with kid:=f.kid+1}::r} (qS (D.drewN Z) (g,N*3+1) (qI ((f.kid:Int)+1)))by have:=(ak.drewN Z);rw[<-af]at this|-;exact this.kid am);have b1:=eC (show qK 210 #[qP mb 0,qI k] (qS (D.drewN Z) (g,N*3+1) (qI ((f.kid:Int)+1))) (JF B (qS (D.drewN Z) (g,N*3+1) (qI ((f.kid:Int)+1))) (jQ F {s with sk:={f with kid:=f.kid+1}::r} k))by have:=aKR B {s with sk:={f with kid:=f.kid+1}::r} k _ bj.1 (by rw[O.2];exact ch);rw[ae,O.2]at this;exact this)));go_roundg m
     case measure=>omega
     case rel=>exact⟨_,eC ⟨aq,bb⟩⟩
    |none=>
     have aL:Hid (∀U,rA B U s vv av (aA (some (g,0)) (N+1) ai) ev aj ((f,fv)::y)->qK 211 #[qP mb 0,qP g (N*3)] U λe U'=>e=aO (aF #[qI 0,false])/\∃m,U'=U.drewN m):=eC (λU S=>by
      rw[<-ae,<-af]
      refine(CN U (by rw[af];exact S)).mono λe U' h=>?_
      unfold aBJ at h
      rw[O.1,hnf]at h
      exact h);have CF:=eC (λU(S:MI B U s)=>show qK 212 #[qP mb 0] U (JF B U (nY p F s))by
      have h:=XD B s f r U S am (by rw[O.1];exact b6) (by rw[O.1];exact hnf) (by rw[O.2];exact a8) b9 (by rw[O.1];exact b2) HO
      rw[O.1,O.2,ae]at h
      have e:nY p F s=nD p F {s with sk:=r} f:=by unfold nY;rw[am];simp only[hnf]
      rw[e]
      exact h);clear hnf CN;go_wp2;go_quiet (fail);obtain⟨D,ab⟩:=eR (wr.drewN nq);rw[ab];have ak:=eC (show rA B D s vv av (aA (some (g,0)) (N+1) ai) ev aj ((f,fv)::y)by rw[<-ab,<-af];exact HM.drewN _);have a6:=eC (show eZ (lQ B) w2 D by rw[<-ab];exact a7.drewN _);clear ab x1 xf ar c7;go_wp2_with(first|(go_at_call 212;refine(CF (D.drewN Z) ⟨_,_,_,_,_,_,ak.drewN Z⟩).mono ?_;rintro e w6⟨rfl,ag⟩;have bb:=eC (show MI B w6 (nY p F s)/\eZ (lQ B) w2 w6 from⟨ag.1,(a6.drewN Z).trans ag.2⟩);clear ag)|(go_at_call 211;refine(aL D ak).mono ?_;rintro e w5⟨rfl,Z,rfl⟩));go_roundg m
     case measure=>omega
     case rel=>exact⟨_,eC ⟨aq,bb⟩⟩
def aJO(x:Nat)(w:aS)(e:Ending)(w':aS):Prop:=e=aO (aC aP (x:Int))/\aV (w:Nat) w w'
theorem KN(va Y aa:Option Addr)(vc f ac X:Nat)(p:Pg)(F:Int)(w:aS)(hp:iE w va Y vc f p)(hm:p.vs.length<=1000000)(aj:p.bd.length<=100000):
  qK 207 #[kE va Y vc f p,aA aa X ac,qI F] w (aJO (lV p X F) w):=by
 obtain⟨V,hV,ae,ah,ao⟩:=lB w (aK #[p.pa,aA va p.vs.length vc,aA Y p.bd.length f] 25);have ag:=hp.later ae;have CV:=eC (λU(h:Bl V U)=>T6 va Y vc f p U (ag.later h) hm);have CE:=eC (λU(h:Bl V U)=>nQ Y f p.bd 0 U (ag.later h).2.1 aj);have O:=eC (λU(h:Bl V U)=>show qK 108 #[kE va Y vc f p,qI 0] U (Rt (qI (UM p 0)) U)from ZW va Y vc f p 0 U (ag.later h) hm aj);have s0:=rU (nS ah);have s1:=rU (rI ah);have s2:=rU (uI ah);have HN:=eC (λx(h:p.bd[0]?=some x)=>show∃b af,Y=some ⟨b,af,none⟩/\∀U,Bl V U->U.cell? (qP b af)=some (qI x.1)by
  obtain⟨b,af,ak,am,cx,_⟩:=ag.2.1.at h
  exact⟨b,af,ak,λU hU=>(hU.cell (p:=(b,af)) am).trans (by simpa using cx)⟩);have HX:=eC (λ(h:p.bd.length≠0)=>show∃x,p.bd[0]?=some x from⟨_,lJ zO⟩);have ap:=jX V;have N:Hid (lV p X F=if pA p≠0\/p.bd.length=0\/rZ p.bd 0≠(p.bd.length:Int)then 23
  else if(p.bd[0]?.getD (0,0)).1≠20\/UM p 0≠2 then 23
  else if(X:Int)≠p.pa then 18 else if F<0\/10000<F then 19 else 0):=eC rfl;generalize lV p X F=R at*;have a0:=s0 V (iL _ _);have a1:=s1 V (iL _ _);have a2:=s2 V (iL _ _);change Hid _ at ae;clear hp ag ah ao;unfold kE at CV O|-;generalize pA p=v at*;generalize UM p 0=o at*;generalize rZ p.bd 0=en at*;generalize p.vs.length=q1 at*;generalize p.bd.length=y at*;generalize p.pa=pa at*;by_cases h1:v=0
 case neg=>
  have e1:((v:Int) !=0)=true:=zT;obtain rfl:R=23:=by rw[N,eI (.inl h1)]
  clear h1 HN HX N O;go_enter func207,ntmps207;go_wp2_with(rw[hV])
  first
   |(go_region_with(first
   |(go_at_call 173;refine(CE _ (by first|(with_reducible assumption)|go_grown)).mono ?_;rintro e D⟨rfl,u⟩;have B:Bl V D:=fC M u)
   |(go_at_call 107;refine(CV _ (by first|(with_reducible assumption)|go_grown)).mono ?_;rintro e S⟨rfl,j⟩;have M:Bl V S:=(by refine Below.trans ?_ j;first|(with_reducible assumption)|go_grown);have c2:=s2 S M)))
   |fail
  all_goals go_wp2;go_ret;exact⟨rfl,fC ae M⟩
 subst h1;by_cases h2:y=0
 case pos=>
  subst h2;obtain rfl:R=23:=by rw[N,eI (.inr (.inl rfl))]
  clear HN HX N O;go_enter func207,ntmps207;go_wp2_with(rw[hV])
  first
   |(go_region_with(first
   |(go_at_call 173;refine(CE _ (by first|(with_reducible assumption)|go_grown)).mono ?_;rintro e D⟨rfl,u⟩;have B:Bl V D:=fC M u)
   |(go_at_call 107;refine(CV _ (by first|(with_reducible assumption)|go_grown)).mono ?_;rintro e S⟨rfl,j⟩;have M:Bl V S:=(by refine Below.trans ?_ j;first|(with_reducible assumption)|go_grown);have c2:=s2 S M)))
   |fail
  all_goals go_wp2;go_ret;exact⟨rfl,fC ae M⟩
 have e0:((y:Int)==0)=false:=zT;obtain⟨⟨t,n⟩,hx⟩:=HX h2;obtain⟨b,af,rfl,ai⟩:=HN _ hx;rw[hx]at N;simp only[cN]at N ai;have hq:(0:Int)<(y:Int):=zO;by_cases h3:en=(y:Int)
 case neg=>
  have e1:(en !=(y:Int))=true:=by simpa using h3
  obtain rfl:R=23:=by rw[N,eI (.inr (.inr h3))]
  clear HN HX N O h3 h2 hx ai;go_enter func207,ntmps207;go_wp2_with(rw[hV]);go_region_held3(λU=>Bl V U) (first|(with_reducible assumption)|go_grown) (first
   |(go_at_call 173;refine(CE _ (by first|(with_reducible assumption)|go_grown)).mono ?_;rintro e D⟨rfl,u⟩;have B:Bl V D:=fC M u)
   |(go_at_call 107;refine(CV _ (by first|(with_reducible assumption)|go_grown)).mono ?_;rintro e S⟨rfl,j⟩;have M:Bl V S:=(by refine Below.trans ?_ j;first|(with_reducible assumption)|go_grown)))
  all_goals go_wp2;go_ret;exact⟨rfl,fC ae B⟩
 subst h3;have W:Hid (R=if t≠20\/o≠2 then 23 else if(X:Int)≠pa then 18 else if F<0\/10000<F then 19 else 0):=eC (by rw[N,eE (by simp[h2])]);have e1:((y:Int) !=(y:Int))=false:=by simp
 clear N HN HX hx h2;go_enter func207,ntmps207;go_wp2_with(rw[hV]);go_region_held3(λU=>Bl V U) (first|(with_reducible assumption)|go_grown) (first
  |(go_at_call 173;refine(CE _ (by first|(with_reducible assumption)|go_grown)).mono ?_;rintro e D⟨rfl,u⟩;have B:Bl V D:=fC M u)
  |(go_at_call 107;refine(CV _ (by first|(with_reducible assumption)|go_grown)).mono ?_;rintro e S⟨rfl,j⟩;have M:Bl V S:=(by refine Below.trans ?_ j;first|(with_reducible assumption)|go_grown)));have b0:=s0 D B;have b2:=s2 D B;have b3:=ai D B;have ab:=mG ae B;by_cases h4:t=20
 case neg=>
  have e2:(t !=20)=true:=by simpa using h4
  obtain rfl:R=23:=by rw[W,eI (.inl h4)]
  clear h4;go_wp2;go_ret;exact⟨rfl,ab⟩
 subst h4;by_cases h5:o=2
 case neg=>
  have e2:(o !=2)=true:=by simpa using h5
  obtain rfl:R=23:=by rw[W,eI (.inr h5)]
  clear h5;go_wp2_with(go_at_call 108;refine(O D B).mono ?_;rintro e Z⟨rfl,J⟩);go_ret;exact⟨rfl,fC ab J⟩
 subst h5;rw[eE zS]at W;by_cases h6:(X:Int)=pa
 case neg=>
  have e2:((X:Int) !=pa)=true:=by simpa using h6
  obtain rfl:R=18:=by rw[W,eI h6]
  clear h6;go_wp2_with(go_at_call 108;refine(O D B).mono ?_;rintro e Z⟨rfl,J⟩;have b4:=s0 Z (fC B J));go_ret;exact⟨rfl,fC ab J⟩
 subst h6;rw[eE zS]at W;by_cases h7:F<0
 case pos=>
  have e2:decide (F<0)=true:=by simpa using h7
  obtain rfl:R=19:=by rw[W,eI (.inl h7)]
  go_wp2_with(go_at_call 108;refine(O D B).mono ?_;rintro e Z⟨rfl,J⟩;have b4:=s0 Z (fC B J));go_ret;exact⟨rfl,fC ab J⟩
 have e3:decide (F<0)=false:=by simpa using h7
 by_cases h8:10000<F
 case pos=>
  have e2:decide (10000<F)=true:=by simpa using h8
  obtain rfl:R=19:=by rw[W,eI (.inr h8)]
  go_wp2_with(go_at_call 108;refine(O D B).mono ?_;rintro e Z⟨rfl,J⟩;have b4:=s0 Z (fC B J));go_ret;exact⟨rfl,fC ab J⟩
 have e2:decide (10000<F)=false:=by simpa using h8
 obtain rfl:R=0:=by rw[W,eE zO]
 go_wp2_with(go_at_call 108;refine(O D B).mono ?_;rintro e Z⟨rfl,J⟩;have b4:=s0 Z (fC B J));go_ret;exact⟨rfl,fC ab J⟩
structure aKE(p:Pg)(al:Nat)(F:Int):Prop where
 wt:Wt p 0 2
 en:iD p.bd 0=some p.bd.length
 vl:p.vs.length<=12
 pa:(al:Int)=p.pa
 le:al<=p.vs.length
 kinds:∀i:Nat,p.vs[i]?=some 1->al<=i
 f0:0<=F
 f1:F<=10000
theorem ZL{d:Int}:∀{k:Nat}{l:List Int},qE d k l=true->∀(i:Nat)(t:Int),l[i]?=some t->t≠0->d<=((k+i:Nat):Int)
 |k,[],h,i,t,hi,ht=>by simp at hi
 |k,x::l,h,i,t,hi,ht=>by
  simp only[qE]at h
  split at h
  .cases h
  .rename_i f
   cases i with
   |zero=>
    simp only[List.getElem?_cons_zero,dL.injEq]at hi
    subst hi
    have:¬((k:Int)<d):=λe=>f ⟨ht,.inl e⟩
    omega
   |succ i=>
    rw[List.getElem?_cons_succ]at hi
    have:=ZL h i t hi ht
    omega
theorem OQ{f:Nat}(h:lV p f F=0):aKE p f F:=by
 unfold lV at h;split at h
 .cases h
 rename_i g;split at h
 .cases h
 rename_i m;split at h
 .cases h
 rename_i n;split at h
 .cases h
 rename_i u;have d:pA p=0:=cT.1 λe=>g (.inl e);have y:p.bd.length≠0:=λe=>g (.inr (.inl e));have he:rZ p.bd 0=(p.bd.length:Int):=cT.1 λe=>g (.inr (.inr e));have k:UM p 0=2:=cT.1 λe=>m (.inr e);have s:(f:Int)=p.pa:=cT.1 n;rw[show(0:Int)=((0:Nat):Int)from rfl,yY]at he;have j:iD p.bd 0=some p.bd.length:=by
  cases hq:iD p.bd 0 with
  |none=>rw[hq]at he;simp only at he;omega
  |some e=>rw[hq]at he;simp only at he;congr 1;omega
 unfold pA at d;split at d
 .cases d
 rename_i x;split at d
 case isFalse=>cases d
 rename_i q;refine⟨⟨⟨_,j⟩,⟨p.bd.length,?_⟩,zO⟩,j,zO,s,zO,λi r=>?_,zO,zO⟩
 .unfold UM at k;rw[j]at k;exact k
 .have:=ZL q i 1 r zO;omega
theorem MW:∀(l:List Nd)(n c:Nat),lC l n=some c->∀k,k<c->∃d,lC (l.drop k) 1=some d
 |l,0,c,h,k,hk=>by simp only[lC,dL.injEq]at h;omega
 |[],n+1,c,h,k,hk=>by simp[lC]at h
 |x::xs,n+1,c,h,k,hk=>by
  cases k with
  |zero=>
   rw[Nat.add_comm]at h
   obtain⟨d,hd,_⟩:=F8 (x::xs) 1 n c h
   exact⟨d,hd⟩
  |succ k=>
   simp only[lC]at h
   cases ha:KQ x with
   |none=>rw[ha]at h;cases h
   |some a=>
    rw[ha]at h
    simp only[OP]at h
    obtain⟨d,hd,rfl⟩:=h
    exact MW xs (n+a) d hd k zO
theorem aHj(h:iD l 0=some l.length):∀k,k<l.length->∃e,iD l k=some e:=by intro k g;unfold iD at h;simp only[List.drop_zero,OP]at h;obtain⟨c,f,he⟩:=h;obtain⟨d,hd⟩:=MW l 1 c f k zO;exact⟨k+d,by unfold iD;rw[hd];rfl⟩
theorem aCn(h:iD l 0=some l.length)(d:k<l.length):(if(iD l k).isSome then eO l k else [])=eO l k:=by obtain⟨e,he⟩:=aHj h k d;rw[he];rfl
theorem S5:gY prog 26 22 1 24:=gY.of underlying26 zK zO zO
def aCh(p:Pg)(i e:Option Addr)(j f:Nat)(g k d:aT)(F:Int)(h:Nat):List aT:=
 [aC aP p.pa,aA i p.vs.length j,aA e p.bd.length f,g,k,d,aC aP F,aA none 0 0,aC aP 0,aC aP 0,aC aP 0,aA none 0 0,.bool false,.map (some h)]
structure LdK(p:Pg)(va ba:Option Addr)(vc bc:Nat)(F:Int)(w0:aS)(mb pr k:Nat)(kv:aT)(rows:List (aT×List Int))(w:aS):Prop where
 bel:aV w0 w0 w
 pb:w.heap[(w0:Nat)]?=some (aK #[aC aP p.pa,aA va p.vs.length vc,aA ba p.bd.length bc] 25 (0,0))
 prn:(w0:Nat)<pr/\pr<mb/\mb<(w:Nat)
 box:w.heap[mb]?=some (aK (aCh p va ba vc bc kv (aA none 0 0) (aA none 0 0) F pr).toArray 323 (0,0))
 map:kK w pr PV
 own:eD kR 22 (mb+1) w kv rows
 rws:rows.map (·.2)=(dH k).map (oW p)
 each:∀x∈rows,∃a c,x.1=aA a x.2.length c/\eS kI w a x.2/\∀ad,a=some ad->x.2≠[]->mb<ad.block/\ad.block<(w:Nat)/\kv.ownBlock≠some ad.block
theorem LdK.below{s i:Option Addr}{u j:Nat}{y:aS}{q:Nat}{r:List (aT×List Int)}(h:LdK p s i u j F y n q k m r w)(d:Bl w w'):LdK p s i u j F y n q k m r w':=by obtain⟨D,E,G⟩:=h.prn;have J:=d.size;refine⟨h.bel.trans (d.mono h.bel.size),(d.block _ zO).trans h.pb,⟨D,E,zO⟩,(d.block _ G).trans h.box,h.map.on (d.block _ zO),h.own.later d,h.rws,λx C=>?_⟩;obtain⟨a,c,A,B,f⟩:=h.each x C;exact⟨a,c,A,B.later d,λad e g=>⟨(f ad e g).1,by have:=(f ad e g).2.1;omega,(f ad e g).2.2⟩⟩
theorem LdK.step{K D:Option Addr}{L E:Nat}{M m:aS}{d J:Nat}{f i:aT}{C:List (aT×List Int)}(h:LdK p K D L E F M d J k f C w)(o:Obj)(a:Option Addr)(c:Nat)(X:eS kI w a (oW p k))(U:∀ad,a=some ad->oW p k≠[]->d<ad.block/\ad.block<w/\f.ownBlock≠some ad.block)
  (ho:eD kR 22 (d+1) m i (C++[(aA a (oW p k).length c,oW p k)]))(j:(w.alloc o).grownBy m f.ownBlock)(n:U8 (w.alloc o) f i):
  LdK p K D L E F M d J (k+1) i (C++[(aA a (oW p k).length c,oW p k)]) (qS m (d,3) i):=by
 obtain⟨p1,p2,p3⟩:=h.prn;have W:=h.own.lt;have s:∀q,q<(w:Nat)->f.ownBlock≠some q->q≠d->(qS m (d,3) i).heap[q]?=w.heap[q]?:=λq A B R=>(eF _ R).trans ((j.block q zT (λe=>B e.symm)).trans (iI _ _ _ A));have u:∀q,q<=d->f.ownBlock≠some q:=λq hq e=>by have:=(W q e).1;omega
 have G:(w:Nat)<=(qS m (d,3) i).heap.size:=by have:=j.size;simp at this|-;omega
 have Z:∀q,q<(w:Nat)->f.ownBlock≠some q->i.ownBlock≠some q:=λq A B e=>by
  obtain n|n:=n
  .exact B (n.symm.trans e)
  .rw[n]at e;simp at e;omega
 have S:m.heap[d]?=_:=(j.block d zT (λe=>u d zO e.symm)).trans ((iI _ _ _ p3).trans h.box);refine⟨⟨j.os.trans h.bel.os,j.tape.trans h.bel.tape,j.output.trans h.bel.output,fA h.bel.size G,λq hq=>(s q (by have:=h.bel.size;omega) (u q zO) zO).trans (h.bel.block q hq)⟩,(s _ zO (u _ zO) zO).trans h.pb,⟨p1,p2,zO⟩,qV _ S (by simp[aCh]),h.map.on (s _ zO (u _ zO) zO),?_,?_,λx r=>?_⟩
 .exact eW ho (λ_ h=>h) λq A _=>eF _ zO
 .rw[DO,h.rws,List.range_succ,DO];rfl
 .have aa:∃a' y,x.1=aA a' x.2.length y/\eS kI w a' x.2/\∀ad,a'=some ad->x.2≠[]->d<ad.block/\ad.block<w/\f.ownBlock≠some ad.block:=by
   obtain r|r:=wM.1 r
   .exact h.each x r
   .obtain rfl:=rD.1 r;exact⟨a,c,rfl,X,U⟩
  obtain⟨a',y,N,O,e3⟩:=aa;exact⟨a',y,N,lH O G λad e g Y=>s _ Y (e3 ad e g).2.2 (by have:=(e3 ad e g).1;omega),λad e g=>⟨(e3 ad e g).1,by have:=(e3 ad e g).2.1;omega,Z _ (e3 ad e g).2.1 (e3 ad e g).2.2⟩⟩
theorem LdK.good{y i:Option Addr}{A:Nat}{B:aS}{K L:Nat}{J:aT}{f:List (aT×List Int)}(h:LdK p y i A n F B K L p.bd.length J f w)(S:iE B y i A n p)(N:∀ad,i=some ad->p.bd≠[]->ad.block<B)(j:p.bd≠[]):
  ∃d m,J=aA (some (qP d 0)) p.bd.length m/\IM ⟨p,F,(w:Nat),K,L,y,A,i,n,some (qP d 0),m⟩ w:=by
 obtain⟨p1,p2,Y⟩:=h.prn;have U:f.length=p.bd.length:=by have:=congrArg List.length h.rws;simpa using this
 have ab:0<p.bd.length:=List.length_pos_iff.2 j;obtain⟨x0,X⟩:∃x,f[0]?=some x:=⟨_,lJ zO⟩;obtain⟨d,m,ac,r,aa,R,_⟩:=h.own.at X;rw[U]at r;refine⟨d,m,r,Y,eX _,(S.later h.bel).2.1,λad e M=>?_,⟨d,0,rfl,R,by simp only;omega,λk G=>?_⟩,h.map,by simp only;omega⟩
 .have:=N ad e M;have hz:=h.bel.size;simp only;omega
 .obtain⟨x,s⟩:∃x,f[k]?=some x:=⟨_,lJ (by simp only at G;omega)⟩;obtain⟨g,Z,vs,q,_,_,⟨W,_⟩,O,_⟩:=h.own.at s;rw[r]at q;simp only[Value.slice.injEq,BU,Addr.mk.injEq]at q;obtain⟨⟨rfl,_⟩,_⟩:=q;obtain⟨a,c,C,D,e3⟩:=h.each x (iG s);have u:x.2=oW p k:=by
   have e:(f.map (·.2))[k]?=((dH p.bd.length).map (oW p))[k]?:=by rw[h.rws]
   rw[oY,s,oY,List.getElem?_range (by simpa using G)]at e;simpa using e
  rw[u]at C D;subst W;have E:=eG.one.1 O;refine⟨a,c,?_,D,λad e j=>⟨(e3 ad e (by rw[u];exact j)).2.1,by have:=(e3 ad e (by rw[u];exact j)).1;simp only;omega⟩⟩;rw[C]at E;simpa[kR]using E
structure LdV(B:gC)(args:List Int)(i k:Nat)(vv av:aT)(rows:List (aT×List Int))(w:aS):Prop where
 good:IM B w
 box:w.heap[B.mb]?=some (aK (l9 B vv av (aA none 0 0) (aA none 0 0) (mH B.p args)).toArray 323 (0,0))
 av:eD kR 22 B.n w av rows
 ar:rows.map (·.2)=(B.p.vs.take k).map λt=>bJ (jF t) 0
 ints:sX 3 B.n w ((vv,(dH i).map (tH args))::rows)
theorem LdV.val{f:List Int}{s:List (aT×List Int)}{d:aS}(h:LdV B f i k j u s w)(o:Obj)
  (J:eD kI 3 B.n d g ((dH i).map (tH f)++[tH f i]))(m:(w.alloc o).grownBy d j.ownBlock)(G:U8 (w.alloc o) j g):
  LdV B f (i+1) k g u s (qS d (B.mb,4) g)/\eZ (lQ B) w (qS d (B.mb,4) g):=by have M:=h.good.mb;have N:=h.good.nw;have C:=h.ints.own (j,(dH i).map (tH f)) zS;have A:=C.lt;have n:∀q,B.n<=q->q<(w:Nat)->(w.alloc o).heap[q]?=w.heap[q]?:=λq _ D=>iI _ _ _ D;have K:eD kI 3 B.n (w.alloc o) j ((dH i).map (tH f)):=eW C (λ_ h=>h) n;have F:sX 3 B.n (w.alloc o) ([]++(j,(dH i).map (tH f))::s):=qU h.ints n;have x:eZ (lQ B) w (qS d (B.mb,4) g):=pF (((eZ.refl _ w).alloc o).grown m λr L=>.inl (.inr (A r L).1)) _ _;have E:d.heap[B.mb]?=_:=(m.block B.mb zT (λe=>by have:=(A _ e.symm).1;omega)).trans ((iI _ _ _ zO).trans h.box);have y:∀q,B.n<=q->q<(d:Nat)->(qS d (B.mb,4) g).heap[q]?=d.heap[q]?:=λq hq _=>eF _ zO;refine⟨⟨h.good.chg x,qV _ E (by simp[l9]),eW (gA (eW h.av (λ_ h=>h) n) (λh=>h) K zD m) (λ_ h=>h) y,h.ar,?_⟩,x⟩;have:=qU (sX.step F J m G) y;rw[List.range_succ,DO];simpa using this
theorem LdV.row{D:List Int}{N C xv:aT}{A:List (aT×List Int)}{t:Int}{f d:aS}(h:LdV B D i k N C A w)(W:B.p.vs[k]?=some t)(s:Bl w f)(o:Obj)
  (X:eD kI 3 B.n f xv (bJ (jF t) 0))(Y:∀g,xv.ownBlock=some g->(w:Nat)<=g)
  (S:eD kR 22 B.n d m (A++[(xv,bJ (jF t) 0)]))(u:(f.alloc o).grownBy d C.ownBlock):
  LdV B D i (k+1) N m (A++[(xv,bJ (jF t) 0)]) (qS d (B.mb,5) m)/\eZ (lQ B) w (qS d (B.mb,5) m):=by
 have aa:=h.good.mb;have ab:=h.good.nw;have ac:=s.size;have M:=h.av.lt;have K:∀q,B.n<=q->q<(f:Nat)->(f.alloc o).heap[q]?=f.heap[q]?:=λq _ n=>iI _ _ _ n;have L:∀q,B.n<=q->q<(w:Nat)->(f.alloc o).heap[q]?=w.heap[q]?:=λq E n=>(K q E zO).trans (s.block q n);have F:eD kR 22 B.n (f.alloc o) C A:=eW h.av (λ_ h=>h) L;have R:eZ (lQ B) w f:=eZ.of s;have G:eZ (lQ B) w (qS d (B.mb,5) m):=pF ((R.alloc o).grown u λr U=>.inl (.inr (M r U).1)) _ _;have O:d.heap[B.mb]?=_:=(u.block B.mb zT (λe=>by have:=(M _ e.symm).1;omega)).trans ((iI _ _ _ zO).trans ((s.block _ zO).trans h.box));have J:∀q,B.n<=q->q<(d:Nat)->(qS d (B.mb,5) m).heap[q]?=d.heap[q]?:=λq hq _=>eF _ zO;refine⟨⟨h.good.chg G,qV _ O (by simp[l9]),eW S (λ_ h=>h) J,?_,?_⟩,G⟩
 .rw[DO,h.ar,F4,W];simp
 .refine qU (w:=d) ⟨λx j=>?_,?_⟩ J
  .rw[<-rO]at j;obtain j|j:=wM.1 j
   .exact gA (eW (h.ints.own x j) (λ_ h=>h) L) (λh=>h) F zD u
   .obtain rfl:=rD.1 j;exact gA (eW X (λ_ h=>h) K) (λh=>h) F zD u
  .rw[<-rO,List.pairwise_append];refine⟨h.ints.apart,List.pairwise_singleton _ _,λx j y Z=>?_⟩;obtain rfl:=rD.1 Z;intro q hq e;have E:=((h.ints.own x j).lt q hq).2;have n:=Y q e;omega
theorem LdV.done{d:List Int}{f:List (aT×List Int)}(h:LdV B d B.p.vs.length B.p.vs.length g e f w):MI B w (mH B.p d):=by
 refine⟨g,e,qN,qN,f,[],h.good,h.box,h.av,?_,eD.nil _ _ _ _,rfl,eD.nil _ _ _ _,?_⟩
 .rw[h.ar,nH (eX _)];rfl
 .have:=h.ints;simpa[mH]using this
theorem aGs(p:Pg)(F:Int)(B j:Nat)(R J Z:Option Addr)(S M f:Nat)(w:aS)
  (X:∀V,Bl w V->qK 207 #[kE R J S M p,aA Z j f,qI F] V (Rt (qI (B:Int)) V))(ae:B≠0):
  qK 155 #[kE R J S M p,aA Z j f,qI F] w (GD w ⟨(0,0),0,[]⟩ B w):=by
 obtain⟨V,hV⟩:=eR ((w.alloc (aK #[p.pa,aA R p.vs.length S,aA J p.bd.length M] 25)).alloc (aK #[qI 0,qI 0,qI 0,qN] 243));obtain⟨x,y,O,af⟩:=iY hV;have W:=eC (X V O);have HX:=eC (λU(h:Bl V U)=>show qB U ((w:Nat)+1) #[qI 0,qI 0,qI 0,qN] 243from(h.block _ zO).trans y);obtain⟨a0,a1,a2⟩:=pX x;have d0:((B:Int) !=0)=true:=zT;have Y:=eC (λ(U:aS)(h:Bl V U)=>show GD w ⟨(0,0),0,[]⟩ B w (aO (aF #[.agg #[qI 0,qI 0,qI 0,qN],qI (B:Int)])) (qS (qS (qS (qS U ((w:Nat)+1,0) (qI 0)) ((w:Nat)+1,1) (qI 0)) ((w:Nat)+1,2) (qI 0)) ((w:Nat)+1,3) qN)from
  ⟨⟨_,rfl,eD.nil _ _ _ _⟩,IJ (fC O h) zO⟩);obtain⟨Q,u⟩:=eR (GD w ⟨(0,0),0,[]⟩ B w);rw[u]at Y|-;clear X x y O af ae u;unfold kE at W|-;generalize p.vs.length=vl at*;generalize p.bd.length=bl at*;generalize p.pa=pa at*;go_enter func155,ntmps155;go_wp2;refine pSj ?_;go_wp2_with(go_at_call 207;refine W.mono ?_;rintro e w1⟨rfl,N⟩;have D:=HX w1 N;have f0:=tK D;obtain⟨g0,g1,g2,g3⟩:=pQ4 D;have ab:=eC (I4 (a:=qI 0) (c:=qI 0) (d:=qI 0) (g:=aA none 0 0) D);change Hid _ at D N);exact gO (eQ rfl _ _ ((w:Nat)+1) 243 _ (0,0) _ (qI (B:Int)) rfl ab underlying243 rfl zK rfl) rfl (Y w1 N)
theorem PX{u v:aS}(h:aV n u v)(m:Nat):aV n u (v.drewN m):=⟨h.os,h.tape,h.output,h.size,h.block⟩
theorem KZ{f:aS}{d:Nat}{n:List (aT×List Int)}(h:eS kI f a L)(j:∀ad,a=some ad->(w:Nat)<=ad.block)(m:eD kR 22 (d+1) w g n)(q:d<w):
  eS kI f a L/\∀ad,a=some ad->L≠[]->d<ad.block/\ad.block<f/\g.ownBlock≠some ad.block:=by
 refine⟨h,λad e k=>?_⟩;obtain h|⟨b,off,rfl,hlt,_⟩:=h
 .exact absurd h k
 .cases e;have i:=j _ rfl;simp only at i;exact⟨by simp only;omega,hlt,λe=>by have:=(m.lt _ e).2;simp only at this;omega⟩
theorem aEY{d:Option Addr}{L:List Nd}(h:eP w d L):∀ad,d=some ad->L≠[]->ad.block<w:=λad e f=>by
 obtain h|⟨b,off,rfl,hlt,_⟩:=h
 .exact absurd h f
 .cases e;exact hlt
theorem aBm(n t:Nat)(U:aS)(d:n<=U)(e:t<=1000):eD kI 3 n (U.alloc (aK (madeCells #[qI 0] t) 3)) (aA (some (U,0)) t t) (bJ t 0):=by have h:=(QA (bJ t 0) U).own (by rw[DA];exact e);rw[List.map_replicate,DA,<-I6]at h;exact h.mono d
theorem aC6(p:Pg)(F:Int)(N:List Int)(f S aa:Option Addr)(j X ac:Nat)(w:aS)(hp:iE w f S j X p)(ha:eS kI w aa N)(b4:iD p.bd 0=some p.bd.length)(b9:p.bd≠[])(c7:p.vs.length<=1000000)(b2:p.bd.length<=100000)(a4:N.length<=1000000):
  Calls prog 208 #[kE f S j X p,aA aa N.length ac,aC aP F] w (ZI p F N w):=by
 obtain⟨V,hV⟩:∃V,w.alloc (aK #[aC aP p.pa,aA f p.vs.length j,aA S p.bd.length X] 25)=V:=⟨_,rfl⟩;have bj:aV w w V:=by rw[<-hV];exact(cF _ w).alloc (bF _) _
 have ar:V.heap[(w:Nat)]?=some (aK #[aC aP p.pa,aA f p.vs.length j,aA S p.bd.length X] 25 (0,0)):=by rw[<-hV];exact heap_alloc_new w _
 have cm:V.heap.size=(w:Nat)+1:=by rw[<-hV];exact bP _ _
 have cg:=hp.later bj;have ap:∀U,aV V.heap.size V U->U.heap[(w:Nat)]?=some (aK #[aC aP p.pa,aA f p.vs.length j,aA S p.bd.length X] 25 (0,0)):=λU h=>(h.block _ (by omega)).trans ar;have s0:∀U,aV V.heap.size V U->U.cell? ⟨w,0,none⟩=some (aC aP p.pa):=λU h=>aU U _ 0 _ _ _ (ap U h);have s1:∀U,aV V.heap.size V U->U.cell? ⟨w,1,none⟩=some (aA f p.vs.length j):=λU h=>aU U _ 1 _ _ _ (ap U h);have s2:∀U,aV V.heap.size V U->U.cell? ⟨w,2,none⟩=some (aA S p.bd.length X):=λU h=>aU U _ 2 _ _ _ (ap U h);have cE:aV V.heap.size V V.drew:=⟨rfl,rfl,rfl,bF _,λ_ _=>rfl⟩;have a0:V.cell? ⟨w,0,none⟩=some (aC aP p.pa):=aU V _ 0 _ _ _ ar;have a1:V.cell? ⟨w,1,none⟩=some (aA f p.vs.length j):=aU V _ 1 _ _ _ ar;have a2:V.cell? ⟨w,2,none⟩=some (aA S p.bd.length X):=aU V _ 2 _ _ _ ar;have CP:=eB (aBP V.drew);have bw:=eB bj;have db:=eB ar;have cw:=eB cm;have da:=eB cg;have HP:=eB hp;have cq:=eB b4;have ct:=eB b9;obtain⟨Q,hQ⟩:∃Q,ZI p F N w=Q:=⟨_,rfl⟩;rw[hQ];have HQ:=eB hQ;have HA:=eB ha;replace ap:=eB ap;clear bj ar cm cg hp b4 hQ ha b9;unfold kE;go_enter func208,ntmps208;go_wp2_with(rw[hV]);go_region_held_law(λU=>aV V.heap.size V U) (first|(with_reducible assumption)|exact bh.alloc bh.size _|go_grown) ((go_at_call 264;refine CP.out.mono ?_;rintro e w1⟨rfl,ag⟩;have bh:aV V.heap.size V w1:=⟨ag.bel.os,ag.bel.tape,ag.bel.output,ag.bel.size,ag.bel.block⟩;have bb:=eB bh;replace ag:=eB ag));obtain⟨W,hW⟩:∃W,w1.alloc (aK #[aC aP p.pa,aA f p.vs.length j,aA S p.bd.length X,aA none 0 0,aA none 0 0,aA none 0 0,aC aP F,aA none 0 0,aC aP 0,aC aP 0,aC aP 0,aA none 0 0,.bool false,.map (some V.heap.size)] 323)=W:=⟨_,rfl⟩;rw[hW];have a3:=eB (show LdK p f S j X F w (w1:Nat) V.heap.size 0 (aA none 0 0) [] W by
  have a4:aV w1 w1 W:=by rw[<-hW];exact(cF _ w1).alloc (bF _) _
  have hz:W.heap.size=(w1:Nat)+1:=by rw[<-hW];exact bP _ _
  have a7:=bb.out.size
  have dh:=cw.out
  have aq:V.heap.size<(w1:Nat):=by
   obtain⟨es,c,hm,_⟩:=ag.out.map
   exact(bD.1 hm).1
  refine⟨bw.out.trans ((bb.out.trans (a4.mono a7)).mono bw.out.size),(a4.block _ (by omega)).trans (ap.out w1 bb.out),⟨by omega,aq,by omega⟩,?_,ag.out.map.on (a4.block _ aq),eD.nil _ _ _ _,rfl,λx hx=>by cases hx⟩
  rw[<-hW]
  exact heap_alloc_new w1 _);have c2:W.cell? ⟨w,2,none⟩=some (aA S p.bd.length X):=aU W _ 2 _ _ _ a3.out.pb;clear hW s0 s1 s2 a0 a1 a2 cE;go_wp2;obtain⟨D,br⟩:∃D,(w1:Nat)=D:=⟨_,rfl⟩;rw[br]at a3|-;replace br:=eB br;obtain⟨pr,aq⟩:∃pr,V.heap.size=pr:=⟨_,rfl⟩;rw[aq]at a3|-;replace aq:=eB aq;have co:=eB b2;clear c2;go_loopw [20] (λi wr=>∃(k:Nat)(kv:aT)(ah:List (aT×List Int)),k<=p.bd.length/\i=aC aP k/\Hid (LdK p f S j X F w D pr k kv ah wr)) (λi _=>p.bd.length-(aW i).toNat)
 case atStart=>exact⟨0,_,_,by omega,rfl,a3⟩
 case round=>
  obtain⟨k,kv,ah,hk,rfl,J⟩:=hrel;by_cases hlt:k<p.bd.length
  .have bp:(k:Int)<(p.bd.length:Int):=zO;have c2:wr.cell? ⟨w,2,none⟩=some (aA S p.bd.length X):=aU wr _ 2 _ _ _ J.out.pb;have c3:wr.cell? ⟨D,3,none⟩=some kv:=by rw[aU wr D 3 _ _ _ J.out.box];rfl
   have f3:wr.frozen? ⟨D,3,none⟩=false:=bE wr _ 3 _ _ J.out.box;have wk:aP.wrap ((k:Int)+1)=(k:Int)+1:=by rw[IntKind.wrap_i64];omega
   have CK:=eB (show Calls prog 227 #[aA S p.bd.length X,aC aP k] wr.drew λe w'=>(∃a c,e=aO (aA a (oW p k).length c)/\eS kI w' a (oW p k)/\∀ad,a=some ad->(wr:Nat)<=ad.block)/\aV wr wr w' by
    have h:=yN S X p.bd k wr.drew ((HP.out.later J.out.bel).2.1.later ⟨rfl,rfl,rfl,bF _,λ_ _=>rfl⟩) b2
    rw[aCn cq.out hlt]at h
    refine h.mono λe w' hq=>?_
    obtain⟨⟨a,c,h1,h2,h3⟩,hb⟩:=hq
    exact⟨⟨a,c,h1,h2,h3⟩,⟨hb.os,hb.tape,hb.output,hb.size,hb.block⟩⟩);obtain⟨ka,kn,kc,bo⟩:=J.out.own.sl;subst bo;have Y:Hid (D<(wr:Nat)):=eB J.out.prn.2.2;have bt:Hid (ah.length+1<=10000000):=eB (by have h1:=congrArg List.length J.out.rws;have h2:=co.out;rw[List.length_map,List.length_map,List.length_range]at h1;omega);go_wp2;refine wp_region_any (by kernel_rfl) ?_;change wpAny _ _ _ _ _ _ _ (World.drew _);refine wpAny_take (i:=0) (v:=?v0) rfl (by kernel_rfl) (by kernel_rfl) (by kernel_rfl) (λ_ _ _ h=>h) (Or.inl ⟨by rfl,?y0⟩) ?_
   case y0=>(intro U;go_simp<;>with_reducible rfl)
   simp only[bS];refine wpAny_take (i:=1) (v:=?v1) rfl (by kernel_rfl) (by kernel_rfl) (by kernel_rfl) (λ_ _ _ h=>h) (Or.inl ⟨by rfl,?y1⟩) ?_
   case y1=>(intro U;go_simp<;>with_reducible rfl)
   simp only[bS];refine wpAny_take (i:=5) (v:=?v5) rfl (by kernel_rfl) (by kernel_rfl) (by kernel_rfl) (λ_ _ _ h=>h) (Or.inl ⟨by rfl,?y5⟩) ?_
   case y5=>(intro U;go_simp<;>with_reducible rfl)
   simp only[bS];refine wpAny_take (i:=7) (v:=?v7) rfl (by kernel_rfl) (by kernel_rfl) (by kernel_rfl) (λ_ _ _ h=>h) (Or.inl ⟨by rfl,?y7⟩) ?_
   case y7=>(intro U;go_simp<;>with_reducible rfl)
   simp only[bS];refine wpAny_take (i:=2) (v:=?v2) rfl (by kernel_rfl) (by kernel_rfl) (by kernel_rfl) (λ_ _ _ h=>h) (Or.inl ⟨by rfl,?y2⟩) ?_
   case y2=>(intro U;go_simp<;>with_reducible rfl)
   simp only[bS];refine wpAny_take (i:=3) (v:=?v3) rfl (by kernel_rfl) (by kernel_rfl) (by kernel_rfl) (λ_ _ _ h=>h) (Or.inl ⟨by rfl,?y3⟩) ?_
   case y3=>(intro U;go_simp<;>with_reducible rfl)
   simp only[bS];refine wpAny_ready (rs:=[4,6]) (by kernel_rfl) (by simp) (AllReady.cons rfl (λK hK=>?ca) (AllReady.cons rfl (λK hK=>?cb) AllReady.nil))
   case' ca=>(go_simp;refine hK _ _ ?_;clear hK K;refine wpAny_ready (rs:=[6]) (by kernel_rfl) (by simp) (AllReady.cons rfl (λK hK=>?_) AllReady.nil);go_simp;refine hK _ _ ?_;clear hK K;refine wpAny_ready (rs:=[8]) (by kernel_rfl) (by simp) (AllReady.cons rfl (λK hK=>?_) AllReady.nil);go_simp;go_wp2_with(go_at_call 227;refine CK.out.mono ?_;rintro e R⟨⟨a2,au,rfl,ae,ax⟩,M⟩;have u:=eB (J.out.below M);replace ae:=eB (KZ ae ax J.out.own Y.out);have be:R.cell? ⟨D,3,none⟩=some (aA ka kn kc):=(M.cell (p:=⟨D,3,none⟩) Y.out).trans c3;have bg:R.frozen? ⟨D,3,none⟩=false:=(M.frozen (p:=⟨D,3,none⟩) Y.out).trans f3;have bq:D<(R:Nat):=Nat.lt_of_lt_of_le Y.out M.size;replace M:=eB M);refine wpAny_ready (rs:=[9]) (by kernel_rfl) (by simp) (AllReady.cons rfl (λK hK=>?_) AllReady.nil);go_simp;refine hK _ _ ?_;clear hK K)
   case' cb=>(go_simp;refine hK _ _ ?_;clear hK K;refine wpAny_ready (rs:=[4,8]) (by kernel_rfl) (by simp) (AllReady.cons rfl (λK hK=>?cc) (AllReady.cons rfl (λK hK=>?cd) AllReady.nil)))
   case' cc=>(go_simp;refine hK _ _ ?_;clear hK K;refine wpAny_ready (rs:=[8]) (by kernel_rfl) (by simp) (AllReady.cons rfl (λK hK=>?_) AllReady.nil);go_simp;go_wp2_with(go_at_call 227;refine CK.out.mono ?_;rintro e R⟨⟨a2,au,rfl,ae,ax⟩,M⟩;have u:=eB (J.out.below M);replace ae:=eB (KZ ae ax J.out.own Y.out);have be:R.cell? ⟨D,3,none⟩=some (aA ka kn kc):=(M.cell (p:=⟨D,3,none⟩) Y.out).trans c3;have bg:R.frozen? ⟨D,3,none⟩=false:=(M.frozen (p:=⟨D,3,none⟩) Y.out).trans f3;have bq:D<(R:Nat):=Nat.lt_of_lt_of_le Y.out M.size;replace M:=eB M);refine wpAny_ready (rs:=[9]) (by kernel_rfl) (by simp) (AllReady.cons rfl (λK hK=>?_) AllReady.nil);go_simp;refine hK _ _ ?_;clear hK K)
   case' cd=>(go_simp;go_wp2_with(go_at_call 227;refine CK.out.mono ?_;rintro e R⟨⟨a2,au,rfl,ae,ax⟩,M⟩;have u:=eB (J.out.below M);replace ae:=eB (KZ ae ax J.out.own Y.out);have be:R.cell? ⟨D,3,none⟩=some (aA ka kn kc):=(M.cell (p:=⟨D,3,none⟩) Y.out).trans c3;have bg:R.frozen? ⟨D,3,none⟩=false:=(M.frozen (p:=⟨D,3,none⟩) Y.out).trans f3;have bq:D<(R:Nat):=Nat.lt_of_lt_of_le Y.out M.size;replace M:=eB M);refine wpAny_ready (rs:=[4,9]) (by kernel_rfl) (by simp) (AllReady.cons rfl (λK hK=>?ce) (AllReady.cons rfl (λK hK=>?cf) AllReady.nil)))
   case' ce=>(go_simp;refine hK _ _ ?_;clear hK K;refine wpAny_ready (rs:=[9]) (by kernel_rfl) (by simp) (AllReady.cons rfl (λK hK=>?_) AllReady.nil);go_simp;refine hK _ _ ?_;clear hK K)
   case' cf=>(go_simp;refine hK _ _ ?_;clear hK K;refine wpAny_ready (rs:=[4]) (by kernel_rfl) (by simp) (AllReady.cons rfl (λK hK=>?_) AllReady.nil);go_simp;refine hK _ _ ?_;clear hK K)
   all_goals
    refine wpAny_ready (rs:=[10]) (by kernel_rfl) (by simp) (AllReady.cons rfl (λK hK=>?_) AllReady.nil);refine rR (K:=kR) (E:=22) (o:=⟨some 33,_,_,_,_,_⟩) S5 rfl (.tmp 27) (.tmp 32) (by rfl) (D+1) (aA ka kn kc) ah (by rfl) ((u.out.own).later ((cF _ R).alloc (bF _) _)) (R:Nat) (aA a2 (oW p k).length au,oW p k) [aA a2 (oW p k).length au] ⟨rfl,_,_,_,rfl⟩ (by rfl) (eG.new _ _ _) bt.out (by have:=u.out.prn.2.2;rw[bP];omega) (λh=>h) ?_;intro v5 w5 al ak bk ay;have y:w5.heap[D]?=R.heap[D]?:=(ak.block D (by rw[bP];omega) (λe=>by have:=(u.out.own.lt _ e.symm).1;omega)).trans (Below.heap_alloc _ _ _ bq);have q1:=(World.cell?_of_block (w:=R) (a:=⟨D,3,none⟩) y).trans be;have q2:=(cO (w:=R) (a:=⟨D,3,none⟩) y).trans bg;obtain⟨g5,bf,rfl⟩:=al.form;have az:=eB (u.out.step _ a2 au ae.out.1 ae.out.2 al ak ay);clear y bk al ak ay;simp only[bS,List.setIfInBounds_toArray,List.set_cons_zero,List.set_cons_succ];refine hK _ _ ?_;clear hK K;refine wpAny_ready (rs:=[11]) (by kernel_rfl) (by simp) (AllReady.cons rfl (λK hK=>?_) AllReady.nil);go_simp;refine hK _ _ ?_;clear hK K;refine wpAny_ready (rs:=[12]) (by kernel_rfl) (by simp) (AllReady.cons rfl (λK hK=>?_) AllReady.nil);go_simp;refine hK _ _ ?_;clear hK K;refine wpAny_ready (rs:=[13]) (by kernel_rfl) (by simp) (AllReady.cons rfl (λK hK=>?_) AllReady.nil);go_simp;refine hK _ _ ?_;clear hK K;refine wpAny_done (by kernel_rfl) ?_ _;go_wp2;go_roundw
    case rel=>exact⟨k+1,_,_,by omega,by go_num,az⟩
    case measure=>simp[aW];omega
  .have bn:k=p.bd.length:=zO;subst bn;have bp:¬(p.bd.length:Int)<(p.bd.length:Int):=zO;obtain⟨kb,kc,bo,bl⟩:=J.out.good HP.out (aEY HP.out.2.1) ct.out;subst bo;obtain⟨B,hB⟩:∃B,(⟨p,F,(wr:Nat),D,pr,f,j,S,X,some ⟨kb,0,none⟩,kc⟩:gC)=B:=⟨_,rfl⟩;have HB:=eB (show B.p=p/\B.F=F/\B.n=(wr:Nat)/\B.mb=D by rw[<-hB];exact⟨rfl,rfl,rfl,rfl⟩);have cu:=eB (show LdV B N 0 0 (aA none 0 0) (aA none 0 0) [] wr by
    rw[hB]at bl
    refine⟨bl,?_,eD.nil _ _ _ _,by simp,⟨λx hx=>?_,by simp⟩⟩
    .have:=J.out.box
     rw[<-hB]
     exact this
    .obtain rfl:=List.mem_singleton.1 hx
     exact eD.nil _ _ _ _);clear bl hB;have ai:=eB J.out.bel;have af:=eB J.out.prn;have c9:=eB J.out.pb;have c1:wr.cell? ⟨w,1,none⟩=some (aA f p.vs.length j):=aU wr _ 1 _ _ _ J.out.pb;clear J;obtain⟨W1,cA⟩:∃W1,W1=wr:=⟨_,rfl⟩;subst cA;go_wp2;have bd:=eB c7;clear c1;go_loopw [40] (λi wr=>∃(k:Nat)(vv av:aT)(ah:List (aT×List Int)),k<=p.vs.length/\i=aC aP k/\Hid (LdV B N k k vv av ah wr/\eZ (lQ B) W1 wr)) (λi _=>p.vs.length-(aW i).toNat)
   case atStart=>exact⟨0,_,_,_,by omega,rfl,eB ⟨cu.out,eZ.refl _ _⟩⟩
   case round=>
    obtain⟨k,vv,av,ah,hk,rfl,J⟩:=hrel;by_cases hlt:k<p.vs.length
    .have bp:(k:Int)<(p.vs.length:Int):=zO;obtain⟨e1,e2,e3,e4⟩:=HB.out;have aj:=J.out.1;have u:=J.out.2;have b7:∀q,q<(w:Nat)->wr.heap[q]?=w.heap[q]?:=λq hq=>(u.block q (by have:=af.out;omega) (zQ ⟨by rw[e3];have:=af.out;omega,by rw[e4];have:=af.out;omega⟩)).trans (ai.out.block q hq);obtain⟨t,ht⟩:∃t,p.vs[k]?=some t:=⟨_,dU hlt⟩;obtain⟨tb,cn,c0,cX,ch⟩:=mD HP.out.1 ht;subst c0;have cx:wr.cell? ⟨tb,cn+k,none⟩=some (aC aP t):=(World.cell?_of_block (w:=w) (a:=⟨tb,cn+k,none⟩) (b7 tb cX)).trans ch;obtain⟨x,hx⟩:∃x,tH N k=x:=⟨_,rfl⟩;obtain⟨v1,v2,v3,ci⟩:=(aj.ints.own (vv,(dH k).map (tH N)) (by simp)).sl;obtain⟨u1,u2,u3,c6⟩:=aj.av.sl;simp only at ci;subst ci c6;have a6:wr.heap[D]?=some (aK (l9 B (aA v1 v2 v3) (aA u1 u2 u3) (aA none 0 0) (aA none 0 0) (mH B.p N)).toArray 323 (0,0)):=by rw[<-e4];exact aj.box
     have c4:wr.cell? ⟨D,4,none⟩=some (aA v1 v2 v3):=by rw[aU wr D 4 _ _ _ a6];rfl
     have f4:wr.frozen? ⟨D,4,none⟩=false:=bE wr _ 4 _ _ a6;have wk:aP.wrap ((k:Int)+1)=(k:Int)+1:=by have:=bd.out;rw[IntKind.wrap_i64];omega
     have Y:D<(wr:Nat):=(bD.1 a6).1;have bz:=eB Y;have bA:=eB (aj.ints.own (aA v1 v2 v3,(dH k).map (tH N)) (by simp));have cr:=eB aj;have bx:=eB u;have HT:=eB ht;have HX:=eB hx;have cR:Hid (((dH k).map (tH N)).length+1<=10000000):=eB (by have:=bd.out;simp;omega);have HE:=eB (show B.n=W1.heap.size/\B.mb=D/\W1.heap.size<=(wr:Nat)/\B.p=p from⟨e3,e4,u.size,e1⟩);have aL:Hid (jF t<=1000):=eB (by unfold jF;split<;>omega);have bt:Hid (ah.length+1<=10000000):=eB (by
      have h1:=congrArg List.length aj.ar
      have h2:=bd.out
      rw[List.length_map,List.length_map,List.length_take]at h1
      omega);have CS:=eB (λW=>EB t W);obtain⟨i0,b6,cj,a7,ck⟩:=info_parts (show(prog.info? 3).map (λi=>(i.zero,i.size,i.bytes))=some (some (aC aP 0),1,8) by kernel_rfl);have cs:=eB (λW:aS=>show(Instr.makeSlice 22 (aC aP (jF t:Nat)) (aC aP (jF t:Nat))).run prog W=.ok (aA (some ⟨W.heap.size,0,none⟩) (jF t) (jF t)) (W.alloc (aK (madeCells #[aC aP 0] (jF t)) 3))by
      have hr:=run_make (P:=prog) W 22 3 i0 (aC aP 0) underlying22 b6 cj aP aP (jF t) (jF t) (by have:=aL.out;omega) (by have:=aL.out;omega) (by rw[ck];have:=aL.out;omega) (by have:=aL.out;omega)
      simp only[Int.toNat_natCast,a7,Nat.mul_one]at hr
      exact hr);generalize b5:jF t=n at*;have a8:=eB b5;clear b5 e1 e2 e3 e4 aj u ht ch a6 J b7 Y b6 cj a7 ck;by_cases hik:k<N.length
     case' pos=>
      have cP:(k:Int)<(N.length:Int):=zO;have b1:N[k]?=some x:=by rw[<-hx];unfold tH;rw[dU hik];rfl
      obtain⟨ab,bV,hav,cB,b0⟩:=mD HA.out b1;subst hav;have dc:wr.cell? ⟨ab,bV+k,none⟩=some (aC aP x):=by have e:wr.heap[ab]?=w.heap[ab]?:=(bx.out.block ab (by have:=af.out;omega) (zQ ⟨by rw[HE.out.1];have:=af.out;omega,by rw[HE.out.2.1];have:=af.out;omega⟩)).trans (ai.out.block ab cB);exact(World.cell?_of_block (w:=w) (a:=⟨ab,bV+k,none⟩) e).trans b0
      clear b1 b0 hx
     case' neg=>
      have cP:¬(k:Int)<(N.length:Int):=zO;have c8:x=0:=by rw[<-hx];unfold tH;rw[List.getElem?_eq_none (by omega)];rfl
      subst c8;clear hx
     all_goals
      go_wp2_with(refine JL rV rfl _ _ rfl B.n (aA v1 v2 v3) ((dH k).map (tH N)) rfl (bA.out.later ((cF _ wr).alloc (bF _) (aK #[aC aP _] 3))) (wr:Nat) _ [aC aP _] rfl rfl (eG.new _ _ _) cR.out (by have:=HE.out;simp;omega) (λh=>h) ?_;intro v5 w5 al ak bk ay;have y:w5.heap[D]?=wr.heap[D]?:=(ak.block D (by have:=bz.out;simp;omega) (λe=>by have h1:=(bA.out.lt _ e.symm).1;rw[HE.out.1]at h1;have:=af.out;omega)).trans (Below.heap_alloc _ _ _ bz.out);have q1:=(World.cell?_of_block (w:=wr) (a:=⟨D,4,none⟩) y).trans c4;have q2:=(cO (w:=wr) (a:=⟨D,4,none⟩) y).trans f4;obtain⟨g5,bf,rfl⟩:=al.form;have bu:=eB (LdV.val cr.out _ (by rw[HX.out];exact al) ak ay);rw[HE.out.2.1]at bu;clear y bk al ak ay);obtain⟨O,bi⟩:∃O,w5.setCell ⟨D,4,none⟩ (aA (some ⟨g5,0,none⟩) (k+1) bf)=O:=⟨_,rfl⟩;have am:=bu.out;rw[List.length_map,List.length_range,bi]at am;rw[bi];have a5:O.heap[D]?=some (aK (l9 B (aA (some ⟨g5,0,none⟩) (k+1) bf) (aA u1 u2 u3) (aA none 0 0) (aA none 0 0) (mH B.p N)).toArray 323 (0,0)):=by have:=am.1.box;rw[HE.out.2.1]at this;exact this
      obtain⟨Z,ao⟩:∃Z,O.drew.alloc (aK (madeCells #[aC aP 0] n) 3)=Z:=⟨_,rfl⟩;have aw:aV O.heap.size O Z:=by rw[<-ao];exact(PX (cF _ O) 1).alloc (bF _) _
      have cl:Z.heap.size=O.heap.size+1:=by rw[<-ao];exact bP _ _
      have b8:D<O.heap.size:=(bD.1 a5).1;have cS:D<Z.heap.size:=zO;have c5:O.cell? ⟨D,5,none⟩=some (aA u1 u2 u3):=by rw[aU O D 5 _ _ _ a5];rfl
      have cy:Z.cell? ⟨D,5,none⟩=some (aA u1 u2 u3):=(aw.cell (p:=⟨D,5,none⟩) b8).trans c5;have cz:Z.frozen? ⟨D,5,none⟩=false:=(aw.frozen (p:=⟨D,5,none⟩) b8).trans (bE O _ 5 _ _ a5);have cv:=eB (show eD kI 3 B.n Z (aA (some ⟨O.heap.size,0,none⟩) n n) (bJ n 0)by
       rw[<-ao]
       exact aBm B.n n O.drew (by have:=am.1.good.nw;exact this) aL.out);have bv:=eB (am.1.av.later aw);have bO:=eB am;have cp:=eB aw;have cV:Hid (B.n<=Z.heap.size):=eB (by have:=am.1.good.nw;omega);have df:=cs.out;replace cl:=eB cl;clear am bu a5 aw q1 q2 bi c4 f4 cx;refine wp_region_any (by kernel_rfl) ?_;change wpAny _ _ _ _ _ _ _ (World.drew _);refine wpAny_take (i:=0) (v:=Value.pointer (some ⟨D,0,none⟩)) rfl (by kernel_rfl) (by kernel_rfl) (by kernel_rfl) (λ_ _ _ h=>h) (Or.inl ⟨by rfl,by intro U;go_simp⟩) ?_;simp only[bS];refine wpAny_take (i:=1) (v:=Value.pointer (some ⟨D,0,none⟩)) rfl (by kernel_rfl) (by kernel_rfl) (by kernel_rfl) (λ_ _ _ h=>h) (Or.inl ⟨by rfl,by intro U;go_simp⟩) ?_;simp only[bS];refine wpAny_take (i:=5) (v:=aC aP t) rfl (by kernel_rfl) (by kernel_rfl) (by kernel_rfl) (λ_ _ _ h=>h) (Or.inl ⟨by rfl,by intro U;go_simp⟩) ?_;simp only[bS];refine wpAny_take (i:=2) (v:=Value.pointer (some ⟨D,0,none⟩)) rfl (by kernel_rfl) (by kernel_rfl) (by kernel_rfl) (λ_ _ _ h=>h) (Or.inl ⟨by rfl,by intro U;go_simp⟩) ?_;simp only[bS];refine wpAny_take (i:=3) (v:=Value.pointer (some ⟨D,5,none⟩)) rfl (by kernel_rfl) (by kernel_rfl) (by kernel_rfl) (λ_ _ _ h=>h) (Or.inl ⟨by rfl,by intro U;go_simp⟩) ?_;simp only[bS];refine wpAny_ready (rs:=[4,6]) (by kernel_rfl) (by simp) (AllReady.cons rfl (λK hK=>?_) (AllReady.cons rfl (λK hK=>?_) AllReady.nil));focus(go_simp;refine hK _ _ ?_;clear hK K;refine wpAny_ready (rs:=[6]) (by kernel_rfl) (by simp) (AllReady.cons rfl (λK hK=>?_) AllReady.nil);go_simp;go_wp2_with(go_at_call 175;refine(CS.out _).mono ?_;rintro e w9⟨rfl,rfl⟩);refine wpAny_ready (rs:=[7]) (by kernel_rfl) (by simp) (AllReady.cons rfl (λK hK=>?_) AllReady.nil);go_simp;refine hK _ _ ?_;clear hK K;(try rw[ao]);refine wpAny_ready (rs:=[8]) (by kernel_rfl) (by simp) (AllReady.cons rfl (λK hK=>?_) AllReady.nil);go_simp;refine hK _ _ ?_;clear hK K)
      rotate_left;focus(go_simp;go_wp2_with(go_at_call 175;refine(CS.out _).mono ?_;rintro e w9⟨rfl,rfl⟩);refine wpAny_ready (rs:=[4,7]) (by kernel_rfl) (by simp) (AllReady.cons rfl (λK hK=>?_) (AllReady.cons rfl (λK hK=>?_) AllReady.nil)))
      focus(go_simp;refine hK _ _ ?_;clear hK K;refine wpAny_ready (rs:=[7]) (by kernel_rfl) (by simp) (AllReady.cons rfl (λK hK=>?_) AllReady.nil);go_simp;refine hK _ _ ?_;clear hK K;(try rw[ao]);refine wpAny_ready (rs:=[8]) (by kernel_rfl) (by simp) (AllReady.cons rfl (λK hK=>?_) AllReady.nil);go_simp;refine hK _ _ ?_;clear hK K)
      rotate_left;focus(go_simp;refine hK _ _ ?_;clear hK K;(try rw[ao]);refine wpAny_ready (rs:=[4,8]) (by kernel_rfl) (by simp) (AllReady.cons rfl (λK hK=>?_) (AllReady.cons rfl (λK hK=>?_) AllReady.nil)))
      focus(go_simp;refine hK _ _ ?_;clear hK K;refine wpAny_ready (rs:=[8]) (by kernel_rfl) (by simp) (AllReady.cons rfl (λK hK=>?_) AllReady.nil);go_simp;refine hK _ _ ?_;clear hK K)
      rotate_left;focus(go_simp;refine hK _ _ ?_;clear hK K;refine wpAny_ready (rs:=[4]) (by kernel_rfl) (by simp) (AllReady.cons rfl (λK hK=>?_) AllReady.nil);go_simp;refine hK _ _ ?_;clear hK K)
      all_goals
       refine wpAny_ready (rs:=[9]) (by kernel_rfl) (by simp) (AllReady.cons rfl (λK hK=>?_) AllReady.nil);refine rR (K:=kR) (E:=22) (o:=⟨some 72,_,_,_,_,_⟩) S5 rfl (.tmp 67) (.tmp 71) (by rfl) B.n (aA u1 u2 u3) ah (by rfl) (bv.out.later ((cF _ Z).alloc (bF _) _)) Z.heap.size (aA (some ⟨O.heap.size,0,none⟩) n n,bJ n 0) [aA (some ⟨O.heap.size,0,none⟩) n n] ⟨rfl,_,_,_,rfl⟩ (by rfl) (eG.new _ _ _) bt.out (by rw[bP];have:=cV.out;omega) (λh=>h) ?_;intro v6 w6 bs bm cL cW;have y:w6.heap[D]?=Z.heap[D]?:=(bm.block D (by rw[bP];omega) (λe=>by have h1:=(bv.out.lt _ e.symm).1;rw[HE.out.1]at h1;have:=af.out;omega)).trans (Below.heap_alloc _ _ _ cS);have q1:=(World.cell?_of_block (w:=Z) (a:=⟨D,5,none⟩) y).trans cy;have q2:=(cO (w:=Z) (a:=⟨D,5,none⟩) y).trans cz;obtain⟨g6,de,rfl⟩:=bs.form;have az:=LdV.row (t:=t) (xv:=aA (some ⟨O.heap.size,0,none⟩) n n) bO.out.1 (by rw[HE.out.2.2.2];exact HT.out) cp.out _ (by rw[a8.out];exact cv.out) (λg hg=>by cases hg;exact bF _) (by rw[a8.out];exact bs) bm;rw[a8.out,HE.out.2.1]at az;have bL:=eB az;clear y cL bs bm cW az;simp only[bS,List.setIfInBounds_toArray,List.set_cons_zero,List.set_cons_succ];refine hK _ _ ?_;clear hK K;refine wpAny_ready (rs:=[10]) (by kernel_rfl) (by simp) (AllReady.cons rfl (λK hK=>?_) AllReady.nil);go_simp;refine hK _ _ ?_;clear hK K;refine wpAny_ready (rs:=[11]) (by kernel_rfl) (by simp) (AllReady.cons rfl (λK hK=>?_) AllReady.nil);go_simp;refine hK _ _ ?_;clear hK K;refine wpAny_ready (rs:=[12]) (by kernel_rfl) (by simp) (AllReady.cons rfl (λK hK=>?_) AllReady.nil);go_simp;refine hK _ _ ?_;clear hK K;refine wpAny_done (by kernel_rfl) ?_ _;go_wp2;go_roundw
       case rel=>exact⟨k+1,_,_,_,by omega,by go_num,eB ⟨bL.out.1,bx.out.trans (bO.out.2.trans bL.out.2)⟩⟩
       case measure=>simp[aW];omega
    .have bn:k=p.vs.length:=zO;subst bn;have bp:¬(p.vs.length:Int)<(p.vs.length:Int):=zO;have HF:=eB (show ZI p F N w (aO (aE (some ⟨D,0,none⟩))) wr by
      obtain⟨e1,e2,e3,e4⟩:=HB.out
      have hm:=ai.out.size
      have dg:=af.out
      have hd:=J.out.1
      rw[show p.vs.length=B.p.vs.length by rw[e1]]at hd
      have b3:=hd.done
      rw[e1]at b3
      have hc:=J.out.2
      refine⟨B,e1,e2,by rw[e4];omega,by rw[e3];exact hm,by rw[e4],⟨hc.os.trans ai.out.os,hc.tape.trans ai.out.tape,hc.output.trans ai.out.output,Nat.le_trans hm hc.size,λq hq=>(hc.block q (by omega) (zQ ⟨by rw[e3];omega,by rw[e4];omega⟩)).trans (ai.out.block q hq)⟩,b3⟩);clear J;go_wp2;rw[<-HQ.out];exact HF.out
theorem TG(p:Pg)(F:Int)(d:List Int)(j g f:Option Addr)(k i m:Nat)(w:aS)(s:iE w j g k i p)(A:eS kI w f d)(y:P64 p)(B:∀x∈d,kS x)(u:p.vs.length<=1000000)(r:p.bd.length<=100000)(C:d.length<=1000000):
  qK 155 #[kE j g k i p,aA f d.length m,qI F] w (GD w (jL p d F) (lV p d.length F) w):=by
 have q:∀V,Bl w V->qK 207 #[kE j g k i p,aA f d.length m,qI F] V (Rt (qI (lV p d.length F:Nat)) V):=λV n=>(KN j g f k i m d.length p F V (s.later n) u r).mono λ_ _ h=>h;by_cases h0:lV p d.length F=0
 .have e:=OQ h0;have hm:jL p d F=LM p d F:=by unfold jL;rw[eE zO]
  rw[hm,h0];rw[h0]at q;have D:p.bd≠[]:=λh=>by have:=e.wt;have he:=e.en;unfold lV at h0;rw[eI (.inr (.inl (by rw[h];rfl)))]at h0;omega
  refine aEI p F d j g f k i m w q (λV n=>aC6 p F d j g f k i m V (s.later n) (A.later n) e.en D u r C) e.wt y e.vl B e.kinds e.f0 e.f1
 .have hm:jL p d F=⟨(0,0),0,[]⟩:=by unfold jL;rw[eI h0]
  rw[hm];exact aGs p F _ d.length j g f k i m w q h0
def lY(n:Nat):List Nat:=if n<128 then [n]else(128+n%128)::lY (n/128)
 termination_by n
 decreasing_by omega
theorem qX(h:n<128):lY n=[n]:=by rw[lY,eI h]
theorem r8(h:¬n<128):lY n=(128+n%128)::lY (n/128):=by rw[lY,eE h]
theorem aGk(n:Nat):lY n≠[]:=by
 by_cases h:n<128
 .rw[qX h];simp
 .rw[r8 h];simp
theorem MO(n:Nat):∀x∈lY n,x<256:=by
 induction n using Nat.strongRecOn with
 |_ n ih=>
  by_cases h:n<128
  .rw[qX h];simp;omega
  .rw[r8 h];intro x d;obtain rfl|d:=xD.1 d
   .omega
   .exact ih _ zO x d
theorem pI(n:Nat):1<=(lY n).length:=by
 have:=aGk n;cases h:lY n with
 |nil=>exact absurd h this
 |cons=>simp
theorem RS(k:Nat):∀n,0<k->n<128^k->(lY n).length<=k:=by
 induction k with
 |zero=>intro n h;omega
 |succ k ih=>
  intro n _ d;by_cases h:n<128
  .rw[qX h];simp
  .rw[r8 h];have e:0<k:=by
    obtain rfl|h':=Nat.eq_zero_or_pos k
    .simp at d;omega
    .exact h'
   have:=ih (n/128) e (by rw[Nat.pow_succ]at d;omega);simp only[iW];omega
theorem tP(h:n<18446744073709551616):(lY n).length<=10:=RS 10 n zO zO
def jG(n:Nat):Prop:=n<18446744073709551616
theorem jG.div(h:jG n)(k:Nat):jG (n/k):=Nat.lt_of_le_of_lt (Nat.div_le_self n k) h
end Go.Proofs.YtgmjilingndloaaGreatDoor
