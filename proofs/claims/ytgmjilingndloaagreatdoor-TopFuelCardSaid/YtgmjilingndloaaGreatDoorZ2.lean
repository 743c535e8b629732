/- Part 2 of the proof of TopFuel. No conditions. -/
import Derived.Test.YtgmjilingndloaaGreatDoorZ1
import Derived.Deep.DrawnRows
import Derived.Deep.RegionHeldLaw
import Derived.Deep.RegionLawGrows
import Derived.Laws.CopyOwn
import Derived.Test.YtgmjilingndloaaGreatDoorShelf
open Go renaming Program->bB,TypeId->aX,Value->aT,World->aS,maxLen->aZ
open Go.Ending renaming returned->aO
open Go.Instr renaming lookup->dS,typeAssert->bN
open Go.IntKind renaming i64->aP,u64->bK
open Go.Obj renaming cells->aK,deferred->aM,loop->aN
open Go.Operand renaming tmp->aR
open Go.Result renaming andThen->bR
open Go.RowKit renaming Below->aV,intOf->aW
open Go.Value renaming agg->aH,bool->aG,func->aD,int->aC,nilIface->aI,slice->aA,tuple->aF
open Go.World renaming cell?->bH,cell?_alloc_lt->dV
open List renaming getElem?_replicate->dZ,map_cons->bZ,mem_map->cG,not_mem_nil->cC,range->dH,replicate->bJ
namespace Go.Proofs.YtgmjilingndloaaGreatDoor
set_option linter.unusedVariables false
set_option linter.unusedSimpArgs false
set_option maxRecDepth 100000
set_option maxHeartbeats 20000000
open Go Go.RowKit Go.Proofs.Tryz Go.Shelf
variable{W w' d f:aS}{B r k n c l m i:Nat}{M:List (Int×aT)}{v:aT}{a:Option Addr}{t:Int}{Q:Exit->Act->aS->Prop}{L:List Int}{R:Ending->aS->Prop}{ops:Array Oper}{o:Oper}{g:Nat->Int}
def kK(w:aS)(r:Nat)(M:List (Int×aT)):Prop:=∃es d,w.heap[r]?=some (.map es d)/\es.toList.map (λe=>(e.key,e.val))=M.map (λp=>(aC aP p.1,p.2))
theorem kK.on{w:aS}(h:kK w r M)(f:w'.heap[r]?=w.heap[r]?):kK w' r M:=by obtain⟨es,c,d,e⟩:=h;exact⟨es,c,f.trans d,e⟩
theorem kK.lt{w:aS}(h:kK w r M):r<w:=by obtain⟨es,c,d,_⟩:=h;exact(fB.1 d).1
theorem kK.new(w:aS):kK (w.alloc (.map #[] 0)) w []:=⟨#[],0,fG w _,rfl⟩
def GT:List (Int×aT)->Int->Option aT
 |[],_=>none
 |p::M,k=>if k=p.1 then some p.2 else GT M k
theorem EN(T:aX)(k:Int):∀(es:List MapEntry)(M:List (Int×aT))(i:Nat),es.map (λe=>(e.key,e.val))=M.map (λp=>(qI p.1,p.2))->
  ∃r,Instr.findNow (.int aP) (qI k) es i=some r/\r.map (·.2)=GT M k
 |[],M,i,h=>by
  have:M=[]:=by simpa using h.symm
  subst this
  exact⟨none,rfl,rfl⟩
 |e::es,[],i,h=>by simp at h
 |e::es,p::M,i,h=>by
  simp only[bZ,List.cons.injEq,Prod.mk.injEq]at h
  obtain⟨⟨d,f⟩,g⟩:=h
  simp only[Instr.findNow,d,Instr.sameNow,if_true,GT]
  by_cases hk:k=p.1
  .rw[show(k==p.1)=true by simpa using hk,eI hk]
   exact⟨some (i,e.val),rfl,by rw[<-f];rfl⟩
  .obtain⟨r,j,m⟩:=EN T k es M (i+1) g
   rw[show(k==p.1)=false by simpa using hk,eE hk]
   exact⟨r,j,m⟩
theorem pY{P:bB}{KT:aX}(d:P.underlying KT=some (.int aP))(e:Bool)(n:Nat)(k:Int)(w:aS):(Instr.checkKey e (n+1) KT (qI k)).run P w=.ok () w:=by simp only[Instr.checkKey];simp[run_underlying d]
section
variable {P : bB} {T KT ET : aX} (w : aS)
theorem qL{r:Nat}{es:Array MapEntry}(g:P.underlying KT=some (.int aP))(k:Int)(h:es.toList.map (λe=>(e.key,e.val))=M.map (λp=>(qI p.1,p.2))):
  ∃x,(Instr.findKey KT (qI k) es.toList).run P w=.ok x w/\x.map (·.2)=GT M k:=by obtain⟨x,d,f⟩:=EN KT k es.toList M 0 h;refine⟨x,?_,f⟩;simp[Instr.findKey,run_underlying g,d]
theorem oN(n:P.underlying T=some (.map KT ET))(g:P.underlying KT=some (.int aP))(hm:kK w r M)(k:Int)(m:GT M k=some v)(h:Bool):
  (dS T (.map (some r)) (qI k) h).run P w=.ok (if h then aF #[v,aG true]else v) w:=by
 obtain⟨es,c,i,j⟩:=hm;obtain⟨x,e,d⟩:=qL (P:=P) (KT:=KT) (r:=r) w g k j;rw[m]at d;cases x with
 |none=>simp at d
 |some y=>simp only[Option.map_some,BU]at d;have f:(Instr.checkKey es.isEmpty 10000 KT (qI k)).run P w=.ok () w:=pY g _ 9999 k w;simp[dS,run_underlying n,getObj,Sem.run,i,bR]at e f|-;simp[e,f,Sem.run,bR,d]
theorem rQ{z:aT}(q:P.underlying T=some (.map KT ET))(g:P.underlying KT=some (.int aP))(s:∀w,(zeroValue ET).run P w=.ok z w)(hm:kK w r M)(k:Int)(n:GT M k=none)(i:Bool):
  (dS T (.map (some r)) (qI k) i).run P w=.ok (if i then aF #[z,aG false]else z) w:=by
 obtain⟨es,c,j,m⟩:=hm;obtain⟨x,d,e⟩:=qL (P:=P) (KT:=KT) (r:=r) w g k m;rw[n]at e;cases x with
 |some y=>simp at e
 |none=>have f:(Instr.checkKey es.isEmpty 10000 KT (qI k)).run P w=.ok () w:=pY g _ 9999 k w;have h:=s w;simp[dS,run_underlying q,getObj,Sem.run,j,bR]at d f h|-;simp[d,f,h,Sem.run,bR]
theorem pO(B:P.underlying T=some (.map KT ET))(n:P.underlying KT=some (.int aP))(hm:kK w r M)(k:Int)(v:aT)(s:GT M k=none):
  ∃w',(Instr.mapUpdate T (.map (some r)) (qI k) v).run P w=.ok () w'/\kK w' r (M++[(k,v)])/\eZ (·=r) w w':=by
 obtain⟨es,c,d,f⟩:=hm;obtain⟨x,h,j⟩:=qL (P:=P) (KT:=KT) (r:=r) w n k f;rw[s]at j;have u:=(fB.1 d).1;cases x with
 |some y=>simp at j
 |none=>
  have m:(Instr.checkKey false 10000 KT (qI k)).run P w=.ok () w:=pY n _ 9999 k w;refine⟨w.putObj r (.map (es.push {key:=qI k,val:=v,born:=c}) (c+1)),?_,⟨_,_,G1 u,by simp[f]⟩,?_⟩
  .simp[Instr.mapUpdate,run_underlying B,getObj,setObj,Sem.run,d,bR]at h m|-;simp[h,m,Sem.run,bR,d,World.putObj]
  .have g:=grownBy_putObj' w r (.map (es.push {key:=qI k,val:=v,born:=c}) (c+1));exact⟨g.os,g.tape,g.output,g.size,λi q A=>g.block i q (λe=>A (by injection e))⟩
end
theorem eM{P:bB}{w:aS}{B:List Oper}{a:Act}(O:o.guard=none)(m x v:Operand)(t:aX)(R:o.op=Op.insert t m x v)(D M J:aT)
  (hm:a.eval m=D)(W:a.eval x=M)(U:a.eval v=J){w':aS}(S:(Instr.mapUpdate t D M J).run P w=.ok () w')(h:wpList P ops Q B (a.put o.dst undef) w'):wpList P ops Q (o::B) a w:=by refine wpList_plain O λX N=>?_;unfold Oper.wp;simp[execOp,R,hm,W,U,S,bR];exact N _ _ h
theorem pC{P:bB}{w:aS}{B:List Oper}{a:Act}(O:o.guard=none)(m x v:Operand)(t:aX)(R:o.op=Op.mapUpdate t m x v)(D M J:aT)
  (hm:a.eval m=D)(W:a.eval x=M)(U:a.eval v=J){w':aS}(S:(Instr.mapUpdate t D M J).run P w=.ok () w')(h:wpList P ops Q B (a.put o.dst undef) w'):wpList P ops Q (o::B) a w:=by refine wpList_plain O λX N=>?_;unfold Oper.wp;simp[execOp,R,hm,W,U,S,bR];exact N _ _ h
def AE(w:aS)(a:Option Addr)(c:Nat)(k:List Int):Prop:=(k=[]/\a=none/\c=0)\/∃b,a=some ⟨b,0,none⟩/\c=k.length/\w.heap[b]?=some (aK (k.map (aC aP)).toArray 3 (0,0))
def RuV(w:aS)(v:aT):Ru->Prop
 |.plain k is=>∃a c,v=.iface 352 (aH #[aA a k.length c,aC aP is])/\AE w a c k
 |.scalar s=>v=.iface 354 (aH #[aG s])
 |.array k is=>∃a c,v=.iface 356 (aH #[aA a k.length c,aC aP is])/\AE w a c k
theorem AE.chg{w:aS}{k:List Int}(h:AE w a c k)(hm:kK w r M)(e:eZ (·=r) w w'):AE w' a c k:=by
 obtain h|⟨b,h1,h2,h3⟩:=h
 .exact .inl h
 .refine .inr ⟨b,h1,h2,(e.block b (fB.1 h3).1 ?_).trans h3⟩;rintro rfl;obtain⟨es,f,d,_⟩:=hm;rw[d]at h3;cases h3
theorem AE.later{w:aS}{k:List Int}(h:AE w a c k)(d:Bl w w'):AE w' a c k:=by
 obtain h|⟨b,h1,h2,h3⟩:=h
 .exact .inl h
 .exact .inr ⟨b,h1,h2,(d.block b (fB.1 h3).1).trans h3⟩
theorem RuV.imp{w:aS}{f:Ru}(g:∀a c k,AE w a c k->AE w' a c k)(h:RuV w v f):RuV w' v f:=by
 cases f with
 |plain k is=>obtain⟨a,c,d,e⟩:=h;exact⟨a,c,d,g _ _ _ e⟩
 |scalar s=>exact h
 |array k is=>obtain⟨a,c,d,e⟩:=h;exact⟨a,c,d,g _ _ _ e⟩
structure RI(w0:aS)(r:Nat)(M:List (Int×aT))(w:aS):Prop where
 bel:aV w0 w0 w
 ge:(w0:Nat)<=r
 map:kK w r M
 all:∀p∈M,∃ru,vH p.1=some ru/\RuV w p.2 ru
theorem RI.later{e w w':aS}{r:Nat}{M:List (Int×aT)}(h:RI e r M w)(d:Bl w w'):RI e r M w':=
 ⟨h.bel.trans (d.mono h.bel.size),h.ge,h.map.on (d.block r h.map.lt),λp i=>by obtain⟨m,f,g⟩:=h.all p i;exact⟨m,f,g.imp λa c k j=>j.later d⟩⟩
theorem RI.alloc{d w:aS}{r:Nat}{M:List (Int×aT)}(h:RI d r M w)(o:Obj):RI d r M (w.alloc o):=h.later ((iL _ w).alloc (eX _) o)
theorem RI.step{n w:aS}(h:RI n r M w)(k:Int)(v:aT)(j:Ru)(y:vH k=some j)(B:RuV w v j)(A:GT M k=none):
  ∃w',(Instr.mapUpdate 271 (.map (some r)) (qI k) v).run prog w=.ok () w'/\RI n r (M++[(k,v)]) w':=by
 obtain⟨w',q,s,d⟩:=pO (P:=prog) w underlying271 underlying3 h.map k v A;refine⟨w',q,?_,h.ge,s,λp f=>?_⟩
 .have D:=h.map.lt;exact⟨d.os.trans h.bel.os,d.tape.trans h.bel.tape,d.output.trans h.bel.output,fA h.bel.size d.size,λi m=>(d.block i (gV m h.bel.size) (λe=>by have:=h.ge;omega)).trans (h.bel.block i m)⟩
 .obtain f|f:=wM.1 f
  .obtain⟨C,u,x⟩:=h.all p f;exact⟨C,u,x.imp λa c k g=>g.chg h.map d⟩
  .rw[rD.1 f];exact⟨j,y,B.imp λa c k g=>g.chg h.map d⟩
theorem AE.new(w:aS)(k:List Int):AE (w.alloc (aK (k.map (aC aP)).toArray 3)) (some (w,0)) k.length k:=.inr ⟨_,rfl,rfl,fG w _⟩
theorem AE.nil(w:aS):AE w none 0 []:=.inl ⟨rfl,rfl,rfl⟩
def mU(w:aS)(r:Nat):Prop:=∃M,kK w r M/\∀t,match GT M t with
 |none=>vH t=none
 |some v=>∃d,vH t=some d/\RuV w v d
def aC5(n:Nat)(w:aS)(e:Ending):Prop:=∃r,e=aO (.map (some r))/\n<=r/\mU w r
def sP(M:List (Int×aT)):List Int:=M.map (·.1)
theorem GB(M:List (Int×aT))(k:Int)(v:aT):sP (M++[(k,v)])=sP M++[k]:=by simp[sP]
theorem KV:∀{M:List (Int×aT)}{k:Int},k∉sP M->GT M k=none
 |[],k,h=>rfl
 |p::M,k,h=>by
  simp only[sP,bZ,List.mem_cons,not_or]at h
  simp only[GT,if_neg h.1]
  exact KV h.2
theorem RH:∀{M:List (Int×aT)}{k:Int},k∈sP M->∃v,GT M k=some v/\(k,v)∈M
 |[],k,h=>by simp[sP]at h
 |p::M,k,h=>by
  by_cases hk:k=p.1
  .exact⟨p.2,by simp[GT,hk],by rw[hk];exact List.mem_cons_self ..⟩
  .simp only[sP,bZ,List.mem_cons]at h
   obtain⟨v,d,e⟩:=RH (M:=M) (h.resolve_left hk)
   exact⟨v,by simp[GT,hk,d],BP _ e⟩
def K0:List Int:=[1,2,3,21,4,22,5,6,18,19,23,24,25,26]
theorem aE5(f:7<=k)(d:k<=17:=by omega):(k:Int)∉K0++(dH (k-7)).map (λi:Nat=>((7+i:Nat):Int)):=by simp only[K0,wM,xD,cG,List.mem_range,cC,or_false,not_or];refine⟨by omega,?_⟩;rintro⟨i,e,d⟩;omega
theorem ME(d:7<=k):K0++(dH (k-7)).map (λi:Nat=>((7+i:Nat):Int))++[(k:Int)]=K0++(dH (k+1-7)).map (λi:Nat=>((7+i:Nat):Int)):=by rw[show k+1-7=(k-7)+1 from zO,List.range_succ,DO,jH];simp;omega
theorem LH(h:7<=t/\t<=17):∃c,vH t=some (.plain [0,0] c)/\True/\(t<=11->c=0)/\(12<=t->c=1):=by
 have:t=7\/t=8\/t=9\/t=10\/t=11\/t=12\/t=13\/t=14\/t=15\/t=16\/t=17:=zO;obtain rfl|rfl|rfl|rfl|rfl|rfl|rfl|rfl|rfl|rfl|rfl:=this
 all_goals first
  |exact⟨0,rfl,trivial,λ_=>rfl,λh=>absurd h zD⟩
  |exact⟨1,rfl,trivial,λh=>absurd h zD,λ_=>rfl⟩
theorem aHn(e:7<=k)(f:k<12):vH (k:Int)=some (.plain [0,0] 0):=by obtain⟨c,h,_,d⟩:=LH (t:=(k:Int)) zO;rw[h,d.1 zO]
theorem aFU(e:7<=k)(f:12<=k/\k<=17):vH (k:Int)=some (.plain [0,0] 1):=by obtain⟨c,h,_,d⟩:=LH (t:=(k:Int)) zO;rw[h,d.2 zO]
theorem RI.rules{k w:aS}(h:RI k r M w)(j:sP M=K0++(dH (18-7)).map (λi:Nat=>((7+i:Nat):Int)))(t:Int):match GT M t with
 |none=>vH t=none
 |some v=>∃e,vH t=some e/\RuV w v e:=by
 by_cases d:t∈sP M
 .obtain⟨v,f,g⟩:=RH d;rw[f];exact h.all _ g
 .rw[KV d];rw[j]at d;simp only[K0,wM,xD,cG,List.mem_range,cC,or_false,not_or]at d;have m:¬(7<=t/\t<=17):=λh=>d.2 ⟨(t-7).toNat,zO,zO⟩;have d:=d.1;show vH t=none;unfold vH;rw[eE zO,eE zO,eE zO,eE zO,eE zO,eE zO,eE zO,eE zO,eE zO,eE zO,eE zO,eE zO,eE zO,eE zO,eE zO]
theorem aAO(w:aS):qK 176 #[] w λe w'=>aC5 w w' e/\Bl w w':=by
 have ag:∀W:aS,(Instr.makeMap 271 none).run prog W=.ok (.map (some W)) (W.alloc (.map #[] 0)):=λW=>by simp[Instr.makeMap]
 have S:RI w w [] (w.alloc (.map #[] 0)):=⟨fL w _,eX _,kK.new w,λp hp=>by cases hp⟩;go_enter func176,ntmps176;go_wp2_with(first
  |(obtain⟨w1,B,U⟩:=S.step 1 _ (.plain [] 0) rfl ⟨none,0,rfl,AE.nil _⟩ rfl;refine eM rfl (aR 4) (.const (qI 1)) (aR 6) _ zR _ _ _ zR zR zR B ?_)
  |(obtain⟨w2,B,j⟩:=U.step 2 _ (.plain [] 1) rfl ⟨none,0,rfl,AE.nil _⟩ rfl;refine eM rfl (aR 4) (.const (qI 2)) (aR 8) _ zR _ _ _ zR zR zR B ?_)
  |(obtain⟨w3,B,u⟩:=j.step 3 _ (.scalar false) rfl rfl rfl;refine eM rfl (aR 4) (.const (qI 3)) (aR 10) _ zR _ _ _ zR zR zR B ?_)
  |(obtain⟨w4,B,x⟩:=u.step 21 _ (.scalar true) rfl rfl rfl;refine eM rfl (aR 4) (.const (qI 21)) (aR 12) _ zR _ _ _ zR zR zR B ?_)
  |(obtain⟨w5,B,y⟩:=(x.alloc _).step 4 _ (.array [0] 0) rfl ⟨_,_,rfl,AE.new _ _⟩ rfl;refine eM rfl (aR 4) (.const (qI 4)) (aR 16) _ zR _ _ _ zR zR zR B ?_)
  |(obtain⟨w6,B,aa⟩:=(y.alloc _).step 22 _ (.array [0,0] 2) rfl ⟨_,_,rfl,AE.new _ _⟩ rfl;refine eM rfl (aR 4) (.const (qI 22)) (aR 20) _ zR _ _ _ zR zR zR B ?_)
  |(obtain⟨w7,B,ab⟩:=(aa.alloc _).step 5 _ (.plain [0] 0) rfl ⟨_,_,rfl,AE.new _ _⟩ rfl;refine eM rfl (aR 4) (.const (qI 5)) (aR 23) _ zR _ _ _ zR zR zR B ?_)
  |(obtain⟨w8,B,ac⟩:=(ab.alloc _).step 6 _ (.plain [1] 1) rfl ⟨_,_,rfl,AE.new _ _⟩ rfl;refine eM rfl (aR 4) (.const (qI 6)) (aR 26) _ zR _ _ _ zR zR zR B ?_)
  |(obtain⟨w9,B,ae⟩:=(ac.alloc _).step 18 _ (.plain [1,1] 1) rfl ⟨_,_,rfl,AE.new _ _⟩ rfl;refine eM rfl (aR 4) (.const (qI 18)) (aR 29) _ zR _ _ _ zR zR zR B ?_)
  |(obtain⟨ah,B,X⟩:=(ae.alloc _).step 19 _ (.plain [1,1] 1) rfl ⟨_,_,rfl,AE.new _ _⟩ rfl;refine eM rfl (aR 4) (.const (qI 19)) (aR 32) _ zR _ _ _ zR zR zR B ?_)
  |(obtain⟨ai,B,Y⟩:=(X.alloc _).step 23 _ (.plain [1,2,2] 2) rfl ⟨_,_,rfl,AE.new _ _⟩ rfl;refine eM rfl (aR 4) (.const (qI 23)) (aR 35) _ zR _ _ _ zR zR zR B ?_)
  |(obtain⟨aj,B,Z⟩:=(Y.alloc _).step 24 _ (.plain [1,2] 2) rfl ⟨_,_,rfl,AE.new _ _⟩ rfl;refine eM rfl (aR 4) (.const (qI 24)) (aR 38) _ zR _ _ _ zR zR zR B ?_)
  |(obtain⟨ak,B,f⟩:=(Z.alloc _).step 25 _ (.plain [0] 2) rfl ⟨_,_,rfl,AE.new _ _⟩ rfl;refine eM rfl (aR 4) (.const (qI 25)) (aR 41) _ zR _ _ _ zR zR zR B ?_)
  |(obtain⟨al,B,O⟩:=f.step 26 _ (.plain [] 2) rfl ⟨none,0,rfl,AE.nil _⟩ rfl;refine eM rfl (aR 4) (.const (qI 26)) (aR 43) _ zR _ _ _ zR zR zR B ?_));change Hid _ at O;go_loopw [2] (λt wr=>∃k:Nat,7<=k/\k<=18/\t=qI k/\∃M,RI w w M wr/\sP M=K0++(dH (k-7)).map (λi:Nat=>((7+i:Nat):Int))) (λt _=>18-(aW t).toNat)
 case atStart=>exact⟨7,zO,zO,rfl,_,O,rfl⟩
 case round=>
  obtain⟨k,J,hk,rfl,M,D,hK⟩:=hrel;change Hid _ at hK;by_cases hlt:k<=17
  .have R:=eC (KV (by rw[hK];exact aE5 J));have d0:decide ((k:Int)<=17)=true:=zT;by_cases h12:12<=k
   .have d1:decide ((12:Int)<=(k:Int))=true:=zT;go_wp2_with(obtain⟨af,B,N⟩:=(D.alloc _).step k _ (.plain [0,0] 1) (aFU J zO) ⟨_,_,rfl,AE.new _ _⟩ R;refine pC rfl (aR 51) (aR 52) (aR 56) _ zR _ _ _ zR zR zR B ?_);go_roundw
    case rel=>exact⟨k+1,zO,zO,by go_num,_,N,by rw[GB,hK,ME J]⟩
    case measure=>simp[aW];omega
   .have d1:decide ((12:Int)<=(k:Int))=false:=zT;go_wp2_with(obtain⟨af,B,N⟩:=(D.alloc _).step k _ (.plain [0,0] 0) (aHn J zO) ⟨_,_,rfl,AE.new _ _⟩ R;refine pC rfl (aR 51) (aR 52) (aR 56) _ zR _ _ _ zR zR zR B ?_);go_roundw
    case rel=>exact⟨k+1,zO,zO,by go_num,_,N,by rw[GB,hK,ME J]⟩
    case measure=>simp[aW];omega
  .obtain rfl:k=18:=zO;go_wp2;go_ret;exact⟨⟨_,rfl,eX _,M,D.map,λt=>D.rules hK t⟩,D.bel⟩
theorem U4(a:Option Addr)(n c:Nat)(is:Int)(M B:Option Addr)(N D:Nat)(p:Pg)(t J:Int)(w:aS):
  qK 434 #[aH #[aA a n c,qI is],kE M B N D p,aH #[qI t,qI J]] w (Rt (qI is) w):=by unfold kE;go_enter func434,ntmps434;go_wp2;go_ret;exact⟨rfl,((fL w _).alloc zS _).alloc zT _⟩
theorem aAL(w:aS)(d e f:Obj):Bl w (((w.alloc d).alloc e).alloc f):=((fL w _).alloc zS _).alloc zT _
theorem aC0(h:k<L.length):∃t,L[k]?=some t:=⟨_,lJ h⟩
theorem UB(s:Bool)(S M:Option Addr)(U N:Nat)(p:Pg)(t:Int)(k:Nat)(w:aS)(O:iE w S M U N p)(hm:p.vs.length<=1000000):
  qK 435 #[aH #[aG s],kE S M U N p,aH #[qI t,qI k]] w (Rt (qI (oD p.vs k (some (.scalar s)))) w):=by
 obtain⟨j,B,X⟩:=p;unfold kE;have D:oD B k (some (.scalar s))=if(B.length:Int)<=k then-1 else match B[k]?with
  |none=>-1
  |some t=>if t≠0/\t≠1 then-1 else if s then 2 else t:=rfl
 have W:=eC (λV(h:Bl w V)=>O.1.later h);simp only at hm W D|-;have J:=aAL w (aK #[aG s] 354) (aK #[qI j,aA S B.length U,aA M X.length N] 25) (aK #[qI t,qI k] 54);generalize oD B k (some (.scalar s))=R at D|-;generalize X.length=bl at*;by_cases h1:B.length<=k
 .rw[eI zO]at D;subst D;have d1:decide (B.length<=k)=true:=by simpa using h1
  generalize B.length=m at*;go_enter func435,ntmps435;go_wp2;go_ret;exact⟨rfl,J⟩
 .have d1:decide (B.length<=k)=false:=by simpa using h1
  have f:k<B.length:=zO;obtain⟨u,Z⟩:=aC0 f;rw[eE zO,Z]at D;obtain⟨b,ab,O,aa,hc⟩:=mD (W _ J) Z;subst O;generalize B.length=m at*;by_cases h2:u≠0/\u≠1
  .simp only[eI h2]at D;subst D;have x:(u !=0)=true:=by simpa using h2.1
   have y:(u !=1)=true:=by simpa using h2.2
   go_enter func435,ntmps435;go_wp2;go_ret;exact⟨rfl,J⟩
  .simp only[eE h2]at D;have Y:u=0\/u=1:=zO;cases s with
   |true=>
    obtain rfl:R=2:=D;obtain rfl|rfl:=Y
    all_goals go_enter func435,ntmps435;go_wp2;go_ret;exact⟨rfl,J⟩
   |false=>
    obtain rfl:R=u:=D;obtain rfl|rfl:=Y
    all_goals go_enter func435,ntmps435;go_wp2;go_ret;exact⟨rfl,J⟩
theorem UX(a:Option Addr)(n c:Nat)(is:Int)(U:List Int)(W N:Option Addr)(X O:Nat)(p:Pg)(t:Int)(k:Nat)(w:aS)(S:iE w W N X O p)(hm:p.vs.length<=1000000):
  qK 436 #[aH #[aA a n c,qI is],kE W N X O p,aH #[qI t,qI k]] w (Rt (qI (oD p.vs k (some (.array U is)))) w):=by
 obtain⟨y,B,Z⟩:=p;unfold kE;have D:oD B k (some (.array U is))=if(B.length:Int)<=k then-1 else match B[k]?with
  |none=>-1
  |some t=>if jF t=0 then-1 else is:=rfl
 have Y:=eC (λV(h:Bl w V)=>S.1.later h);simp only at hm Y D|-;have M:=aAL w (aK #[aA a n c,qI is] 356) (aK #[qI y,aA W B.length X,aA N Z.length O] 25) (aK #[qI t,qI k] 54);generalize oD B k (some (.array U is))=R at D|-;generalize Z.length=bl at*;by_cases h1:B.length<=k
 .rw[eI zO]at D;subst D;have d1:decide (B.length<=k)=true:=by simpa using h1
  generalize B.length=m at*;go_enter func436,ntmps436;go_wp2;go_ret;exact⟨rfl,M⟩
 .have d1:decide (B.length<=k)=false:=by simpa using h1
  have x:k<B.length:=zO;obtain⟨u,f⟩:=aC0 x;rw[eE zO,f]at D;obtain⟨b,ab,S,aa,hc⟩:=mD (Y _ M) f;subst S;have J:=eC (λV=>EB u V);generalize B.length=m at*;by_cases h2:jF u=0
  .simp only[eI h2]at D;subst D;rw[h2]at J;go_enter func436,ntmps436;go_wp2_with(go_at_call 175;refine(J _).mono ?_;rintro e w1⟨rfl,rfl⟩);go_ret;exact⟨rfl,M⟩
  .simp only[eE h2]at D;subst D;have j:(((jF u:Nat):Int)==0)=false:=zT;generalize jF u=z at J j;go_enter func436,ntmps436;go_wp2_with(go_at_call 175;refine(J _).mono ?_;rintro e w1⟨rfl,rfl⟩);go_ret;exact⟨rfl,M⟩
section
attribute [local go_sem ↓] Go.wp_at_zero Go.wp_at_succ
def DI(k n:Nat):List aT:=bJ k (aC aP 2)++bJ (n-k) (aC aP 0)
theorem aBC(a:Addr)(n:Nat):(a.add n).block=a.block:=by unfold Addr.add;split<;>rfl
theorem aCP(h:k<=n):(DI k n).length=n:=by simp[DI];omega
theorem TR(h:k+c<=n):splice (DI k n) k (bJ c (qI 2))=DI (k+c) n:=by unfold splice DI;rw[DA,List.take_append_of_le_length zS,nH zS,List.drop_append,D5 zS,uS,DA,List.drop_replicate,<-jH,List.replicate_append_replicate];congr 2;omega
theorem I6(z:aT)(n:Nat):madeCells #[z] n=(bJ n z).toArray:=by
 apply Array.ext
 .simp[size_madeCells]
 .intro i d e;simp[madeCells,Nat.mod_one]
theorem VB(b n:Nat)(w:aS)(hn:n<=1000)(hb:qC w b 0 (qI 2))(af:b<w):
  qK 280 #[aA (some (b,0)) 1 1,qI n] w λe w'=>mR kI 3 w (bJ n 2) w' e/\Bl w w':=by
 obtain⟨i0,ai,al,am,ao⟩:=info_parts (show(prog.info? 3).map (λi=>(i.zero,i.size,i.bytes))=some (some (qI 0),1,8)from zK);have aw:∀W:aS,(Instr.makeSlice 22 (qI n) (qI n)).run prog W=.ok (aA (some (W,0)) n n) (W.alloc (aK (madeCells #[qI 0] n) 3)):=λW=>by have hr:=run_make (P:=prog) W 22 3 i0 (qI 0) underlying22 ai al aP aP n n zO zO (by rw[ao];omega) zO;simp only[xC,am,Nat.mul_one]at hr;exact hr
 have U:=eC (λW=>bits_Mul 1 n zO zO W);rw[show(1*n/18446744073709551616:Nat)=0 from zO,show(1*n%18446744073709551616:Nat)=n by omega]at U;have ay:bK.wrap (n:Int)=(n:Int):=by rw[sU];omega
 have az:aP.wrap (n:Int)=(n:Int):=by rw[iA];omega
 go_enter func280,ntmps280;have Y:(prog.info? 3).map (·.size)=some 1:=zK;have f:∀j v,(bJ (min 1 n) (qI 2))[j]?=some v->w.cell? (((b,0):Addr).add j)=some v:=λj v B=>by have D:=(gX.1 B).1;rw[DA]at D;have aj:j=0:=zO;subst aj;rw[dZ,eI D]at B;cases B;exact hb
 have J:=eC (show(w.alloc (aK (madeCells #[qI 0] n) 3)).heap[(w:Nat)]?=some (aK (DI 0 n).toArray 3 (0,0)) by rw[fG,I6];simp[DI]);have X:=eC (λk c(h:k+c<=n)=>TR h);have M:=eC (λk(h:k<=n)=>aCP h);have aa:=eC ((iL w w).alloc (eX _) (aK (madeCells #[qI 0] n) 3));change Hid _ at f;go_wp2_with(first|(go_at_call 322;refine(U _).mono ?_;rintro e w1⟨rfl,ak⟩;obtain rfl:w=w1:=ak.symm)|(refine wpList_copy_splice rfl (aR 31) (aR 32) _ _ zR 3 underlying22 Y _ _ _ _ _ _ zR zR w 0 (DI 0 n) 3 J (bJ (min 1 n) (qI 2)) (by simp[Nat.min_def]) (λ_=>⟨rfl,_,rfl,λj v B=>by rw[dV w _ _ (by rw[aBC];exact af)];exact f j v B⟩) (by rw[M 0 (kU _),DA];omega) (λv S=>by rw[(List.mem_replicate.1 S).2];rfl) w w aa (eX _) ?_;intro w2 O ac;rw[X 0 (min 1 n) zO,kQ]at O));change Hid _ at O;go_loopw [8] (λi wr=>∃k:Nat,min 1 n<=k/\k<=n/\i=qI k/\qB wr w (DI k n).toArray 3/\Bl w wr) (λi _=>n-(aW i).toNat)
 case atStart=>exact⟨min 1 n,eX _,zO,by simp[Nat.min_def],O,ac⟩
 case round=>
  obtain⟨k,av,hk,rfl,hg,N⟩:=hrel;have J:=eC hg;change Hid _ at N;by_cases hlt:k<n
  .obtain⟨c,Z⟩:=eR (min k (n-k));have ap:1<=c:=zO;have y:k+c<=n:=zO;have aq:c<=k:=zO;have i1:(0:Int)<=(k:Int):=zO;have i2:(k:Int)<=(n:Int):=zO;have i3:(k:Int)<(n:Int):=zO;have ax:¬n=k:=zO;have ab:=eC (λ(q:Nat)(W:aS)(hW:qB W w (DI k n).toArray 3)(j:Nat)(v:aT)(B:(bJ c (qI 2))[j]?=some v)=>show W.cell? (((w,0):Addr).add j)=some v by
    have D:=(gX.1 B).1
    rw[DA]at D
    rw[dZ,eI D]at B
    cases B
    rw[kJ]
    unfold bH
    rw[hW]
    simp only[kQ,List.getElem?_toArray,DI]
    rw[FU (show j<(bJ k (qI 2)).length by rw[DA];omega),dZ,eI (show j<k from zO)]
    rfl);change Hid _ at Z;have aL:aP.wrap ((k:Int)+(c:Int))=(k:Int)+(c:Int):=by rw[iA];omega
   go_wp2;have ag:=N.drew;have ar:=J.out;have au:=J.out;go_region_held_law(λw'=>True) (trivial) ((refine step_copy_splice (o:=⟨some 45,_,_,_,_,_⟩) rfl (aR 41) (aR 44) _ _ zR 3 underlying22 Y _ _ _ _ _ _ zR zR w k (DI k n) 3 J (bJ c (qI 2)) (by rw[DA];exact Z.symm) (λ_=>⟨rfl,_,rfl,ab 0 _ J⟩) (by rw[M k hk,DA];exact y) (λv S=>by rw[(List.mem_replicate.1 S).2];rfl) w w ag (eX _) ?_;intro w3 ah ae))
   all_goals go_wp2
   have u:=ah.out;rw[X k c y]at u;go_roundw
   case rel=>exact⟨k+c,zO,zO,by go_num,u,ae⟩
   case measure=>simp[aW];omega
  .obtain rfl:n=k:=zO;have HO:=eC (show eD kI 3 w wr (aA (some (w,0)) n n) (bJ n 2)from⟨(bJ n [qI 2]),⟨zS,λi x R=>by
     have D:=(gX.1 R).1
     rw[DA]at D
     rw[dZ,eI D]at R
     cases R
     exact⟨_,by rw[dZ,eI D],rfl⟩⟩,by simp[kI],.inr ⟨w,n,(DI n n).toArray,by rw[DA],eX _,J,by rw[DA];exact eX _,by unfold aZ;omega,by simp[kI,M.out n (eX _)],by simp[DI,kI]⟩⟩);go_wp2;go_ret;exact⟨⟨_,rfl,HO⟩,N⟩
end
theorem AE.ls{w:aS}{k:List Int}(h:AE w a c k):eS kI w a k:=by
 obtain⟨rfl,_,_⟩|⟨b,rfl,_,h⟩:=h
 .exact .inl rfl
 .refine .inr ⟨b,0,rfl,(fB.1 h).1,λi x d=>⟨[x],rfl,eG.one.2 ?_⟩⟩;unfold bH;rw[h];simp[kI,d]
def RuO(w:aS)(v:aT):Option Ru->Prop
 |none=>v=aI
 |some ru=>RuV w v ru
theorem TE{α:Type}{K:lL α}{w:aS}{L:List α}(h:eS K w a L):EC K 0 L w (aO (aA a L.length c)):=⟨a,c,rfl,h,λ_ _=>kU _⟩
theorem aJm(V:aT)(W:aS):(bN (.iface 352 V) 358 352 true).run prog W=.ok (aF #[V,aG true]) W:=zK
theorem aKm(V:aT)(W:aS):(bN (.iface 356 V) 358 352 true).run prog W=.ok (aF #[aH #[qN,qI 0],aG false]) W:=zK
theorem aJj(V:aT)(W:aS):(bN (.iface 356 V) 358 356 true).run prog W=.ok (aF #[V,aG true]) W:=zK
theorem aJx(V:aT)(W:aS):(bN (.iface 354 V) 358 352 true).run prog W=.ok (aF #[aH #[qN,qI 0],aG false]) W:=zK
theorem aJG(V:aT)(W:aS):(bN (.iface 354 V) 358 356 true).run prog W=.ok (aF #[aH #[qN,qI 0],aG false]) W:=zK
theorem aKf(V:aT)(W:aS):(bN (.iface 354 V) 358 354 true).run prog W=.ok (aF #[V,aG true]) W:=zK
theorem aJU(W:aS):(bN .nilIface 358 352 true).run prog W=.ok (aF #[aH #[qN,qI 0],aG false]) W:=zK
theorem aKa(W:aS):(bN .nilIface 358 356 true).run prog W=.ok (aF #[aH #[qN,qI 0],aG false]) W:=zK
theorem aKg(W:aS):(bN .nilIface 358 354 true).run prog W=.ok (aF #[aH #[aG false],aG false]) W:=zK
theorem RF(a:Option Addr)(c:Nat)(k:List Int)(is:Int)(R M:Option Addr)(S N:Nat)(p:Pg)(t O:Int)(m:Nat)(w:aS)(D:AE w a c k):
  qK 228 #[kE R M S N p,aH #[qI t,qI O],.iface 352 (aH #[aA a k.length c,qI is]),qI m] w λe w'=>EC kI 0 k w' e/\Bl w w':=by
 unfold kE;have J:=eC (λV h=>(AE.later D (w':=V) h).ls);clear D;generalize B:k.length=n;have f1:=aJm;change Hid _ at B;generalize p.vs.length=q1;generalize p.bd.length=q2;go_enter func228,ntmps228;go_wp2;go_ret;refine⟨⟨a,c,by rw[B];rfl,J _ ?_,λ_ _=>kU _⟩,?_⟩
 all_goals exact aAL w _ _ _
theorem TK(a:Option Addr)(c:Nat)(k:List Int)(is:Int)(R M:Option Addr)(S N:Nat)(p:Pg)(t O:Int)(m:Nat)(w:aS)(D:AE w a c k):
  qK 228 #[kE R M S N p,aH #[qI t,qI O],.iface 356 (aH #[aA a k.length c,qI is]),qI m] w λe w'=>EC kI 0 k w' e/\Bl w w':=by
 unfold kE;have J:=eC (λV h=>(AE.later D (w':=V) h).ls);clear D;generalize B:k.length=n;have f1:=aKm;have f2:=aJj;change Hid _ at B;generalize p.vs.length=q1;generalize p.bd.length=q2;go_enter func228,ntmps228;go_wp2;go_ret;refine⟨⟨a,c,by rw[B];rfl,J _ ?_,λ_ _=>kU _⟩,?_⟩
 all_goals exact aAL w _ _ _
theorem LD(U J:Option Addr)(W M:Nat)(p:Pg)(t O:Int)(m:Nat)(w:aS)(hm:m<=1000):
  qK 228 #[kE U J W M p,aH #[qI t,qI O],aI,qI m] w λe w'=>EC kI 0 (bJ m 2) w' e/\Bl w w':=by
 unfold kE;have f1:=aJU;have f2:=aKa;have f3:=aKg;generalize p.vs.length=q1;generalize p.bd.length=q2;have D:=eC (λR S=>VB ((w:Nat)+1+1) m (((w.alloc R).alloc S).alloc (aK #[qI 2] 3)) hm (by
  have:=oI ((w.alloc R).alloc S) 3 (qI 2)
  rw[fO,fO]at this
  exact this.cell) zS);go_enter func228,ntmps228;go_wp2_with(go_at_call 280;refine(D _ _).mono ?_;rintro e f⟨⟨v,rfl,B⟩,N⟩);have X:=eC (OC (m:=0) B (kU _));obtain⟨a',Z,rfl,_,_⟩:=B.ls;have Y:=(aAL w (aK #[p.pa,aA U q1 W,aA J q2 M] 25) (aK #[t,O] 54) (aK #[qI 2] 3)).trans (N.mono zT);clear B N D;go_wp2;go_ret;exact⟨X,Y⟩
theorem O6(s:Bool)(N O:Option Addr)(J R:Nat)(p:Pg)(t:Int)(B:Nat)(m:Nat)(w:aS)(W:iE w N O J R p)(hm:p.vs.length<=1000000):
  qK 228 #[kE N O J R p,aH #[qI t,qI B],.iface 354 (aH #[aG s]),qI m] w λe w'=>EC kI 0 (uK p.vs B m (some (.scalar s))) w' e/\Bl w w':=by
 obtain⟨f,D,j⟩:=p;unfold kE;have Y:=eC (λV(h:Bl w V)=>W.1.later h);have ae:D.length<=J:=W.2.2.1;have aa:J<=aZ:=W.2.2.2.1;unfold aZ at aa;have f1:=aJx;have f2:=aJG;have f3:=aKf;simp only at hm Y|-;generalize j.length=bl at*;have U:=aAL w (aK #[qI f,aA N D.length J,aA O bl R] 25) (aK #[qI t,qI B] 54) (aK #[aG s] 354);cases s with
 |false=>
  have M:uK D B m (some (.scalar false))=[]:=by simp[uK]
  rw[M];clear W M;generalize D.length=q1 at*;go_enter func228,ntmps228;go_wp2;go_ret;exact⟨TE (c:=0) (eS.nil _ _ none),U⟩
 |true=>
  by_cases h1:B<D.length
  .have M:uK D B m (some (.scalar true))=(D.drop B).take 1:=by simp[uK,h1]
   rw[M];have S:((D.drop B).take 1).length=1:=by rw[jR,sB];omega
   have Z:=eC (show eS kI (((w.alloc (aK #[qI f,aA N D.length J,aA O bl R] 25)).alloc (aK #[qI t,qI B] 54)).alloc (aK #[aG true] 354)) (N.map (·.add B)) ((D.drop B).take 1)by
    obtain h|⟨b,off,h,hlt,hh⟩:=Y _ U
    .exact .inl (by rw[h];simp)
    .refine .inr ⟨b,off+B,by rw[h];simp[kJ],hlt,λi x X=>?_⟩
     have ac:=(gX.1 X).1
     rw[S]at ac
     have ab:i=0:=zO
     subst ab
     have hx:D[B]?=some x:=by
      rw[List.getElem?_take_of_lt zO,List.getElem?_drop]at X
      simpa using X
     obtain⟨us,u,y⟩:=hh B x hx
     exact⟨us,u,by simpa[kI]using y⟩);generalize(D.drop B).take 1=rr at Z S|-;have d1:decide (B<D.length)=true:=by simpa using h1
   have d2:¬J=B:=zO;have d3:B+1<=J:=zO;have d4:B+1<=1000000:=zO;change Hid _ at S;generalize D.length=q1 at*;go_enter func228,ntmps228;go_wp2;go_ret;refine⟨⟨_,J-B,?_,Z,λ_ _=>kU _⟩,U⟩;rw[S];simp
  .have M:uK D B m (some (.scalar true))=[]:=by simp[uK];omega
   rw[M];have d1:decide (B<D.length)=false:=by simpa using h1
   generalize D.length=q1 at*;go_enter func228,ntmps228;go_wp2;go_ret;exact⟨TE (c:=0) (eS.nil _ _ none),U⟩
theorem aAm(q:Option Ru)(v:aT)(i f:Option Addr)(j g:Nat)(p:Pg)(t h:Int)(m:Nat)(w:aS)(y:iE w i f j g p)(hm:p.vs.length<=1000000)(u:m<=1000)(d:RuO w v q)(x:(∃s,q=some (.scalar s))->0<=h):
  qK 228 #[kE i f j g p,aH #[qI t,qI h],v,qI m] w λe w'=>EC kI 0 (uK p.vs h m q) w' e/\Bl w w':=by
 match q,d with
 |none,d=>have r:=d;subst r;exact LD i f j g p t h m w u
 |some (.plain k is),⟨a,c,d,hs⟩=>subst d;exact RF a c k is i f j g p t h m w hs
 |some (.array k is),⟨a,c,d,hs⟩=>subst d;exact TK a c k is i f j g p t h m w hs
 |some (.scalar s),d=>have r:=d;subst r;obtain⟨n,rfl⟩:=qJ (x ⟨s,rfl⟩);exact O6 s i f j g p t n m w y hm
theorem mU.look{w:aS}(h:mU w r)(t:Int):∃v,RuO w v (vH t)/\∀W,W.heap[r]?=w.heap[r]?->(dS 271 (.map (some r)) (qI t) false).run prog W=.ok v W:=by
 obtain⟨M,hm,h⟩:=h;have d:=h t;cases hl:GT M t with
 |none=>rw[hl]at d;simp only at d;refine⟨aI,by rw[d];rfl,λW hW=>?_⟩;have:=rQ (P:=prog) W underlying271 underlying3 (z:=aI) (λW=>zK) (hm.on hW) t hl false;simpa using this
 |some v=>rw[hl]at d;obtain⟨g,e,f⟩:=d;refine⟨v,by rw[e];exact f,λW hW=>?_⟩;have:=oN (P:=prog) W underlying271 underlying3 (hm.on hW) t hl false;simpa using this
theorem mU.later{w w':aS}{r:Nat}(h:mU w r)(i:r<w)(e:Bl w w'):mU w' r:=by
 obtain⟨M,hm,h⟩:=h;refine⟨M,hm.on (e.block r i),λt=>?_⟩;have d:=h t;cases hl:GT M t with
 |none=>rw[hl]at d;exact d
 |some v=>rw[hl]at d;obtain⟨m,f,g⟩:=d;exact⟨m,f,g.imp λa c k j=>j.later e⟩
theorem aF8(T:aX)(hT:T=352\/T=354\/T=356)(V:aT)(W:aS):(binOp .neq 358 (.iface T V) aI).run prog W=.ok (aG true) W:=by
 obtain rfl|rfl|rfl:=hT
 all_goals kernel_rfl
theorem VY(W:aS):(binOp .neq 358 .nilIface aI).run prog W=.ok (aG false) W:=zK
theorem I7{bd:List Nd}{d:List Nat}{j q:Nat}{u:Int}(k:d[j]?=some q)(m:L[j]?=some u):
  lD g bd t j (d.drop j) (L.drop j)=if g q≠u then false else if(t=23\/t=24)/\0<j/\(bd[q]?.getD (0,0)).1≠20 then false else lD g bd t (j+1) (d.drop (j+1)) (L.drop (j+1)):=by obtain⟨e,h⟩:=gX.1 k;obtain⟨f,i⟩:=gX.1 m;rw[tL e,tL f,h,i];simp only[lD]
theorem LA{e:List Nd}{d:List Nat}(h:d.length=L.length):lD g e t d.length (d.drop d.length) (L.drop d.length)=true:=by rw[D5 (eX _),D5 zO];rfl
theorem OK{pa:Int}{vs:List Int}{d:List Nd}{f:Nat}{x:Nd}(e:d[k]?=some x):oE ⟨pa,vs,d⟩ (f+1) k=
  if oD vs x.2 (vH x.1)=-1\/(uK vs x.2 (eO d k).length (vH x.1)).length≠(eO d k).length then-1
  else if lD (oE ⟨pa,vs,d⟩ f) d x.1 0 (eO d k) (uK vs x.2 (eO d k).length (vH x.1))then oD vs x.2 (vH x.1)else-1:=by simp only[oE,e,Option.getD_some]
theorem rF(w:aS)(d e:Array aT)(T U:aX)(h:d[i]?=some v:=by rfl):((w.alloc (aK d T)).alloc (aK e U)).cell? (w,i)=some v:=by rw[dV _ _ _ (by simp)];unfold bH;rw[fG];exact h
theorem GE(w:aS)(e d:Array aT)(T U:aX)(h:d[i]?=some v:=by rfl):((w.alloc (aK e T)).alloc (aK d U)).cell? ((w:Nat)+1,i)=some v:=by have:=fG (w.alloc (aK e T)) (aK d U);rw[fO]at this;unfold bH;rw[this];exact h
theorem oO(h:Bl W f)(e:Bl f d):Bl W d/\W<=(d:Nat):=⟨fC h e,fA h.size e.size⟩
theorem xP(e:Bl W d):(∀b o,b<(W:Nat)->d.cell? (qP b o)=W.cell? (qP b o))/\(∀b o,b<(W:Nat)->d.frozen? (qP b o)=W.frozen? (qP b o)):=
 ⟨λb o h=>e.cell (p:=(qP b o)) h,λb o h=>e.frozen (p:=(qP b o)) h⟩
theorem aHl(va ba:Option Addr)(vc bc r:Nat)(N:Int)(O:List Int)(B:List Nd)(k e f:Nat)(w:aS)(hp:iE w va ba vc bc ⟨N,O,B⟩)(hm:O.length<=1000000)(ap:B.length<=100000)(hr:mU w r)(bz:r<w)(he:iD B k=some e)(t n:Int)(hx:B[k]?=some (t,n))(ar:vH t=none)
  (IH:∀(q:Nat) (W:aS),q∈eO B k->Bl w W->qK 177 #[aH #[qI N,aA va O.length vc,aA ba B.length bc,.map (some r)],qI q] W (Rt (qI (oE ⟨N,O,B⟩ f q)) W)):
  qK 177 #[aH #[qI N,aA va O.length vc,aA ba B.length bc,.map (some r)],qI k] w (Rt (qI (oE ⟨N,O,B⟩ (f+1) k)) w):=by
 have CK:=eC (λW(h:Bl w W)=>yN ba bc B k W (hp.later h).2.1 ap);rw[he]at CK;simp only[Option.isSome_some,if_true]at CK;obtain⟨v,hv,a3⟩:=hr.look t;rw[ar]at hv;have bA:=hv;subst bA;have ao:=jW he;obtain⟨b,al,bo,bn,c0,c1⟩:=hp.2.1.at hx;have CA:=eC (λW(m:Nat)(ap:m<=1000)=>LD va ba vc bc ⟨N,O,B⟩ t n m W ap);unfold kE at CA;simp only at CA;have b3:=VY;have bt:(eO B k).length<=200:=by obtain⟨x,a,hx,ha,_⟩:=lI he;rw[(qZ he hx ha).2.1];exact(lX ha).2
 have av:=eC a3;subst bo;simp only at c0 c1;generalize aL:oE ⟨N,O,B⟩ (f+1) k=RES;have ax:=eC aL;clear aL;have bs:k<B.length:=zO;have HE:=eC he;have bg:=eC hp.2.1;have aw:=eC (λ(q:Nat)(x:Nd)(h:B[q]?=some x)=>show(B[q]?.getD (0,0))=x by rw[h];rfl);have HB:=eC bn;have hK:(mJ (eO B k)).length=(eO B k).length:=by simp[mJ]
 generalize O.length=q1 at*;generalize B.length=q2 at*;go_enter func177,ntmps177;have a0:Bl w ((w.alloc (aK #[N,aA va q1 vc,aA (some (b,al)) q2 bc,.map (some r)] 274)).alloc (aK #[t,n] 54)):=(fL w _).alloc zS _;have ai:=eC a0;clear a0;go_wp2_with(first
  |(go_at_call 227;refine(CK _ ai).mono ?_;rintro e1 w1⟨⟨pk,ck,rfl,a2,_⟩,ae⟩;rw[hK];obtain⟨aa,bq⟩:=xP ae;have bL:=(by have:=ae.size;simp at this;omega);have bu:=av w1 ((ae.block r zT).trans (ai.block r bz));have B1:=eC (ai.trans (ae.mono zT));have au:=eC a2;clear a2 ae)
  |(go_at_call 228;refine(CA _ _ zO).mono ?_;rintro e2 Y⟨⟨pw,cw,rfl,a6,_⟩,af⟩;obtain⟨ab,br⟩:=xP af;have b4:=(by have:=af.size;omega);have y:=mG B1 af;have bb:=eC (au.later af);have ay:=eC a6;clear a6 af));obtain⟨m,a4⟩:=eR ((eO B k).length);obtain⟨S,am⟩:=eR (bJ (eO B k).length (2:Int));have aq:(eO B k).length=S.length:=by rw[<-am];simp
 have bf:=eC (zO);have b2:m<=200:=zO;have a1:RES=if lD (oE ⟨N,O,B⟩ f) B t 0 (eO B k) S then 2 else-1:=by rw[<-ax,OK hx,ar];simp only[oD,uK,am];rw[eE (by rw[aq];omega)]
 have a7:=trivial;rw[am]at ay;rw[a4];have bj:=eC (λ(j:Nat)(q:Nat)(u:Int)(h1:(eO B k)[j]?=some q)(R:S[j]?=some u)=>I7 (g:=oE ⟨N,O,B⟩ f) (bd:=B) (t:=t) h1 R);have bi:=eC (show lD (oE ⟨N,O,B⟩ f) B t m ((eO B k).drop m) (S.drop m)=true by rw[<-a4];exact LA aq);have be:=eC (λ(j:Nat)(h:j<m)=>show∃q u,(eO B k)[j]?=some q/\(mJ (eO B k))[j]?=some (q:Int)/\S[j]?=some u/\q<q2/\∃x,B[q]?=some x by
  have h1:j<(eO B k).length:=zO
  have R:j<S.length:=by have:=bf.out;omega
  obtain⟨_,e',g1,g2⟩:=oT HE _ (List.getElem_mem h1)
  have g3:=jW g1
  obtain⟨x,_,g4,_⟩:=lI g1
  exact⟨(eO B k)[j],S[j],lJ h1,by simp[mJ,h1],lJ R,zO,x,g4⟩);have a8:=eC (λ(q:Nat)(h:q∈eO B k)(W:aS)(R:Bl Y W)=>IH q W h (fC y R));have bh:=eC (λ(q:Nat)(x:Nd)(h:B[q]?=some x)(W:aS)(R:Bl Y W)=>show W.cell? (b,al+q*2)=some x.1 by
  obtain⟨b',b5,bp,_,g0,_⟩:=bg.at h
  cases bp
  exact((fC y R).cell (p:=(b,al+q*2)) HB).trans g0);have x0:Y.cell? (w,0)=some N:=by rw[ab _ _ zO,aa _ _ zT];exact rF w _ _ _ _
 have x1:Y.cell? (w,1)=some (aA va q1 vc):=by rw[ab _ _ zO,aa _ _ zT];exact rF w _ _ _ _
 have x2:Y.cell? (w,2)=some (aA (some (b,al)) q2 bc):=by rw[ab _ _ zO,aa _ _ zT];exact rF w _ _ _ _
 have x3:Y.cell? (w,3)=some (.map (some r)):=by rw[ab _ _ zO,aa _ _ zT];exact rF w _ _ _ _
 have x4:Y.cell? ((w:Nat)+1,0)=some t:=by rw[ab _ _ zO,aa _ _ zS];exact GE w _ _ _ _
 have HX:=eC (λ(W:aS)(R:Bl Y W)=>(⟨(R.cell (p:=(w,0)) (by show(w:Nat)<_;omega)).trans x0,(R.cell (p:=(w,1)) (by show(w:Nat)<_;omega)).trans x1,(R.cell (p:=(w,2)) (by show(w:Nat)<_;omega)).trans x2,(R.cell (p:=(w,3)) (by show(w:Nat)<_;omega)).trans x3,(R.cell (p:=((w:Nat)+1,0)) (by show(w:Nat)+1<_;omega)).trans x4⟩:_/\_/\_/\_/\_));have ah:=eC a1;generalize az:lD (oE ⟨N,O,B⟩ f) B t 0 (eO B k) S=OKV at ah;have bl:=eC az;clear ar ax az a1 aq aa ab bq br x0 x1 x2 x3 x4 bL bu c0 c1 hx hv a3 ao CK CA hK bs bt av B1 au ai hp IH hr a7;generalize hG:oE ⟨N,O,B⟩ f=G at*;clear hG;go_loopw [54] (λi wr=>∃j:Nat,j<=m/\i=qI j/\lD G B t j ((eO B k).drop j) (S.drop j)=OKV/\Bl Y wr) (λi _=>m-(aW i).toNat)
 case atStart=>exact⟨0,zO,rfl,bl,iL _ _⟩
 case round=>
  obtain⟨j,hj,rfl,hJ,ag⟩:=hrel;have HJ:=eC hJ;have Z:=eC ag;clear hJ;by_cases ao:j<m
  .obtain⟨q,u,g1,g2,g3,g4,x,g5⟩:=be j ao;obtain⟨bk,ok,bv,b0,bO⟩:=mD (bb.later ag) g2;obtain⟨bw,ow,bx,b1,bm⟩:=mD (ay.later ag) g3;subst bv;subst bx;have ac:=eC (bj j q u g1 g3);have a5:=iG g1;have HC:=eC (λW(h:Bl wr W)=>a8 q a5 W (fC Z h));have HD:=eC (λW(h:Bl wr W)=>bh q x g5 W (fC Z h));have M:=eC (λW(h:Bl wr W)=>HX W (fC Z h));have i0:(0:Int)<=(j:Int):=zO;have i1:(j:Int)<(m:Int):=zO;have s0:=λW h=>(M W h).1;have s1:=λW h=>(M W h).2.1;have s2:=λW h=>(M W h).2.2.1;have s3:=λW h=>(M W h).2.2.2.1;have s4:=rU bm;have GX:=g5;clear ag g1 g2 g3 g5 a5;by_cases hgu:G q=u
   .have e0:(G q !=u)=false:=by simp[hgu]
    by_cases ht3:t=23\/t=24
    .by_cases hj0:j=0
     .have X:=eC (show lD G B t (j+1) ((eO B k).drop (j+1)) (S.drop (j+1))=OKV by rw[<-HJ,ac,eE (by simp[hgu]),eE zO]);have d0:decide ((0:Int)<(j:Int))=false:=zT;have bV:decide (0<j)=false:=zT;clear hgu hj0;generalize G q=Gq at*;obtain rfl|rfl:=ht3
      all_goals
       go_wp2;have aj:=jX wr;go_region_held3(λw'=>Bl wr w') (first|(with_reducible assumption)|go_grown) ((go_at_call 177;refine(HC _ zG).mono ?_;rintro e4 J⟨rfl,U⟩;obtain⟨D,ak⟩:=oO zG U;clear U));have y4:=(M J D).2.2.2.2;have y2:=(M J D).2.2.1;have y5:=HD J D;go_wp2;go_roundw
       case rel=>exact⟨j+1,zO,by go_num,X,fC Z D⟩
       case measure=>simp[aW];omega
     .have d0:decide ((0:Int)<(j:Int))=true:=zT;by_cases hx20:x.1=20
      .have X:=eC (show lD G B t (j+1) ((eO B k).drop (j+1)) (S.drop (j+1))=OKV by rw[<-HJ,ac,eE (by simp[hgu]),eE (by rw[aw q x GX];omega)]);have e1:(x.1 !=20)=false:=by simp[hx20]
       clear hgu hx20;generalize G q=Gq at*;obtain rfl|rfl:=ht3
       all_goals
        go_wp2;have aj:=jX wr;go_region_held3(λw'=>Bl wr w') (first|(with_reducible assumption)|go_grown) ((go_at_call 177;refine(HC _ zG).mono ?_;rintro e4 J⟨rfl,U⟩;obtain⟨D,ak⟩:=oO zG U;clear U));have y4:=(M J D).2.2.2.2;have y2:=(M J D).2.2.1;have y5:=HD J D;go_wp2;go_roundw
        case rel=>exact⟨j+1,zO,by go_num,X,fC Z D⟩
        case measure=>simp[aW];omega
      .have X:=eC (show OKV=false by rw[<-HJ,ac,eE (by simp[hgu]),eI (by rw[aw q x GX];omega)]);have e1:(x.1 !=20)=true:=by simpa using hx20
       clear hgu hx20;generalize G q=Gq at*;obtain rfl|rfl:=ht3
       all_goals go_wp2;have aj:=jX wr;go_region_held3(λw'=>Bl wr w') (first|(with_reducible assumption)|go_grown) ((go_at_call 177;refine(HC _ zG).mono ?_;rintro e4 J⟨rfl,U⟩;obtain⟨D,ak⟩:=oO zG U;clear U));have y4:=(M J D).2.2.2.2;have y2:=(M J D).2.2.1;have y5:=HD J D;go_wp2;go_ret;exact⟨by rw[ah,X];rfl,y.trans ((fC Z D).mono y.size)⟩
    .have X:=eC (show lD G B t (j+1) ((eO B k).drop (j+1)) (S.drop (j+1))=OKV by rw[<-HJ,ac,eE (by simp[hgu]),eE zO]);have e2:(t==23)=false:=zT;have e3:(t==24)=false:=zT;generalize G q=Gq at*;go_wp2;have aj:=jX wr;go_region_held3(λw'=>Bl wr w') (first|(with_reducible assumption)|go_grown) ((go_at_call 177;refine(HC _ zG).mono ?_;rintro e4 J⟨rfl,U⟩;obtain⟨D,ak⟩:=oO zG U));have y4:=(M J D).2.2.2.2;have y2:=(M J D).2.2.1;have y5:=HD J D;go_wp2;go_roundw
     case rel=>exact⟨j+1,zO,by go_num,X,fC Z D⟩
     case measure=>simp[aW];omega
   .have X:=eC (show OKV=false by rw[<-HJ,ac,eI hgu]);have e0:(G q !=u)=true:=by simpa using hgu
    generalize G q=Gq at*;go_wp2;have aj:=jX wr;go_region_held3(λw'=>Bl wr w') (first|(with_reducible assumption)|go_grown) ((go_at_call 177;refine(HC _ zG).mono ?_;rintro e4 J⟨rfl,U⟩;obtain⟨D,ak⟩:=oO zG U));have y4:=(M J D).2.2.2.2;have y2:=(M J D).2.2.1;have y5:=HD J D;go_wp2;go_ret;exact⟨by rw[ah,X];rfl,y.trans ((fC Z D).mono y.size)⟩
  .obtain rfl:m=j:=zO;have HF:=eC (show OKV=true by rw[<-HJ];exact bi);go_wp2;go_ret;exact⟨by rw[ah,HF];rfl,fC y ag⟩
theorem aBQ{w:aS}{d:Option Ru}(h:RuO w v d)(e:Bl w w'):RuO w' v d:=by
 cases d with
 |none=>exact h
 |some d=>exact RuV.imp (λa c k f=>f.later e) h
theorem aDJ(T:aX)(F:FuncId)(A:Array aT)(o:Ru)(bb:(T=352/\F=434)\/(T=354/\F=435)\/(T=356/\F=436))(va ba:Option Addr)(vc bc r:Nat)(R:Int)(S:List Int)(B:List Nd)(k e f:Nat)(w:aS)(hp:iE w va ba vc bc ⟨R,S,B⟩)(hm:S.length<=1000000)(bO:B.length<=100000)(hr:mU w r)(a4:r<w)(he:iD B k=some e)(t n:Int)(bi:vH t=some o)(hx:B[k]?=some (t,n))
  (v:aT)(hv:RuO w v (some o))(b2:v=.iface T (aH A))(be:∀W:aS,W.heap[r]?=w.heap[r]?->(dS 271 (.map (some r)) (qI t) false).run prog W=.ok v W)(b1:(∃s,some o=some (.scalar s))->0<=n)
  (al:∀W,Bl w W->qK F #[aH A,aH #[qI R,aA va S.length vc,aA ba B.length bc],aH #[qI t,qI n]] W (Rt (qI (oD S n (some o))) W))
  (IH:∀(q:Nat) (W:aS),q∈eO B k->Bl w W->qK 177 #[aH #[qI R,aA va S.length vc,aA ba B.length bc,.map (some r)],qI q] W (Rt (qI (oE ⟨R,S,B⟩ f q)) W)):
  qK 177 #[aH #[qI R,aA va S.length vc,aA ba B.length bc,.map (some r)],qI k] w (Rt (qI (oE ⟨R,S,B⟩ (f+1) k)) w):=by
 have CK:=eC (λW(h:Bl w W)=>yN ba bc B k W (hp.later h).2.1 bO);rw[he]at CK;simp only[Option.isSome_some,if_true]at CK;have bt:=eC (λW(h:Bl w W)=>aBQ hv h);subst b2;have a3:=jW he;obtain⟨b,ai,bx,bv,c0,c1⟩:=hp.2.1.at hx;have bL:(eO B k).length<=200:=by obtain⟨x,a,hx,ha,_⟩:=lI he;rw[(qZ he hx ha).2.1];exact(lX ha).2
 have CA:=eC (λW(h:Bl w W)=>aAm (some o) _ va ba vc bc ⟨R,S,B⟩ t n (eO B k).length W (hp.later h) hm zO (bt W h) b1);unfold kE at CA;simp only at CA;have b8:=aF8 T (bb.imp And.left λh=>h.imp And.left And.left);have ab:=OK (pa:=R) (vs:=S) (f:=f) hx;simp only at ab;rw[bi]at ab;have aq:=eC be;subst bx;simp only at c0 c1;generalize ar:oE ⟨R,S,B⟩ (f+1) k=RES at ab;change Hid _ at ar;have bA:k<B.length:=zO;have HE:=eC he;have bp:=eC hp.2.1;have a7:=eC (λ(q:Nat)(x:Nd)(h:B[q]?=some x)=>show(B[q]?.getD (0,0))=x by rw[h];rfl);have HB:=eC bv;have hK:(mJ (eO B k)).length=(eO B k).length:=by simp[mJ]
 generalize uK S n (eO B k).length (some o)=LW at ab CA;generalize oD S n (some o)=kd at*;generalize S.length=q1 at*;generalize B.length=q2 at*;have aa:Bl w ((w.alloc (aK #[qI R,aA va q1 vc,aA (some (b,ai)) q2 bc,.map (some r)] 274)).alloc (aK #[qI t,qI n] 54)):=(fL w _).alloc zS _;change Hid _ at aa;change Hid _ at al;clear hv;obtain⟨rfl,rfl⟩|⟨rfl,rfl⟩|⟨rfl,rfl⟩:=bb
 all_goals
  by_cases hkd:kd=-1
  .have au:RES=-1:=by rw[ab,eI (.inl hkd)]
   have e0:(kd==-1)=true:=by simpa using hkd
   change Hid _ at au;clear ab hkd;clear ar;go_enter func177,ntmps177;go_wp2_with(first
   |(go_at_call 227;refine(CK _ aa).mono ?_;rintro e1 w1⟨⟨pk,ck,rfl,af,_⟩,U⟩;rw[hK];obtain⟨J,aL⟩:=xP U;have a5:w+1<(w1:Nat):=(by have:=U.size;simp at this;omega);have a2:=aq w1 ((U.block r zT).trans (aa.block r a4));have B1:=eC (aa.trans (U.mono zT));have aj:=eC af;clear af U)
   |((first|go_at_call 434|go_at_call 435|go_at_call 436);refine(al _ B1).mono ?_;rintro e3 N⟨rfl,Y⟩;obtain⟨M,a1⟩:=xP Y;have a6:w+1<(N:Nat):=(by have:=Y.size;omega);have B3:=mG B1 Y;have ak:=eC (aj.later Y);clear Y;have z0:qC N w 0 (qI R):=(M _ _ zO).trans ((J _ _ zT).trans (rF w _ _ _ _));have z1:qC N w 1 (aA va q1 vc):=(M _ _ zO).trans ((J _ _ zT).trans (rF w _ _ _ _));have z2:qC N w 2 (aA (some (b,ai)) q2 bc):=(M _ _ zO).trans ((J _ _ zT).trans (rF w _ _ _ _));have z4:qC N ((w:Nat)+1) 0 (qI t):=(M _ _ zO).trans ((J _ _ zS).trans (GE w _ _ _ _));have z5:qC N ((w:Nat)+1) 1 (qI n):=(M _ _ zO).trans ((J _ _ zS).trans (GE w _ _ _ _)))
   |(go_at_call 228;refine(CA _ B3).mono ?_;rintro e2 w2⟨⟨pw,cw,rfl,ag,_⟩,X⟩;obtain⟨ae,a0⟩:=xP X;have bj:w+1<(w2:Nat):=(by have:=X.size;omega);have B2:=mG B3 X;have ax:=eC (ak.later X);have az:=eC ag;clear ag X))
   go_ret;exact⟨by rw[au];rfl,B2⟩
  have e0:(kd==-1)=false:=by simpa using hkd
  by_cases ah:LW.length=(eO B k).length
  case neg=>
   have au:=eC (show RES=-1 by rw[ab,eI (.inr ah)]);have e1:((LW.length:Int) !=((eO B k).length:Int))=true:=zT;clear ab hkd ah;clear ar;go_enter func177,ntmps177;go_wp2_with(first
   |(go_at_call 227;refine(CK _ aa).mono ?_;rintro e1 w1⟨⟨pk,ck,rfl,af,_⟩,U⟩;rw[hK];obtain⟨J,aL⟩:=xP U;have a5:w+1<(w1:Nat):=(by have:=U.size;simp at this;omega);have a2:=aq w1 ((U.block r zT).trans (aa.block r a4));have B1:=eC (aa.trans (U.mono zT));have aj:=eC af;clear af U)
   |((first|go_at_call 434|go_at_call 435|go_at_call 436);refine(al _ B1).mono ?_;rintro e3 N⟨rfl,Y⟩;obtain⟨M,a1⟩:=xP Y;have a6:w+1<(N:Nat):=(by have:=Y.size;omega);have B3:=mG B1 Y;have ak:=eC (aj.later Y);clear Y;have z0:qC N w 0 (qI R):=(M _ _ zO).trans ((J _ _ zT).trans (rF w _ _ _ _));have z1:qC N w 1 (aA va q1 vc):=(M _ _ zO).trans ((J _ _ zT).trans (rF w _ _ _ _));have z2:qC N w 2 (aA (some (b,ai)) q2 bc):=(M _ _ zO).trans ((J _ _ zT).trans (rF w _ _ _ _));have z4:qC N ((w:Nat)+1) 0 (qI t):=(M _ _ zO).trans ((J _ _ zS).trans (GE w _ _ _ _));have z5:qC N ((w:Nat)+1) 1 (qI n):=(M _ _ zO).trans ((J _ _ zS).trans (GE w _ _ _ _)))
   |(go_at_call 228;refine(CA _ B3).mono ?_;rintro e2 w2⟨⟨pw,cw,rfl,ag,_⟩,X⟩;obtain⟨ae,a0⟩:=xP X;have bj:w+1<(w2:Nat):=(by have:=X.size;omega);have B2:=mG B3 X;have ax:=eC (ak.later X);have az:=eC ag;clear ag X))
   go_ret;exact⟨by rw[au];rfl,B2⟩
  rw[eE (by rintro(h|h);exact hkd h;exact h ah)]at ab;have ay:=eC ah;change Hid _ at ab;clear hkd ah;go_enter func177,ntmps177;go_wp2_with(first
   |(go_at_call 227;refine(CK _ aa).mono ?_;rintro e1 w1⟨⟨pk,ck,rfl,af,_⟩,U⟩;rw[hK];obtain⟨J,aL⟩:=xP U;have a5:w+1<(w1:Nat):=(by have:=U.size;simp at this;omega);have a2:=aq w1 ((U.block r zT).trans (aa.block r a4));have B1:=eC (aa.trans (U.mono zT));have aj:=eC af;clear af U)
   |((first|go_at_call 434|go_at_call 435|go_at_call 436);refine(al _ B1).mono ?_;rintro e3 N⟨rfl,Y⟩;obtain⟨M,a1⟩:=xP Y;have a6:w+1<(N:Nat):=(by have:=Y.size;omega);have B3:=mG B1 Y;have ak:=eC (aj.later Y);clear Y;have z0:qC N w 0 (qI R):=(M _ _ zO).trans ((J _ _ zT).trans (rF w _ _ _ _));have z1:qC N w 1 (aA va q1 vc):=(M _ _ zO).trans ((J _ _ zT).trans (rF w _ _ _ _));have z2:qC N w 2 (aA (some (b,ai)) q2 bc):=(M _ _ zO).trans ((J _ _ zT).trans (rF w _ _ _ _));have z4:qC N ((w:Nat)+1) 0 (qI t):=(M _ _ zO).trans ((J _ _ zS).trans (GE w _ _ _ _));have z5:qC N ((w:Nat)+1) 1 (qI n):=(M _ _ zO).trans ((J _ _ zS).trans (GE w _ _ _ _)))
   |(go_at_call 228;refine(CA _ B3).mono ?_;rintro e2 w2⟨⟨pw,cw,rfl,ag,_⟩,X⟩;rw[ay];obtain⟨ae,a0⟩:=xP X;have bj:w+1<(w2:Nat):=(by have:=X.size;omega);have B2:=mG B3 X;have ax:=eC (ak.later X);have az:=eC ag;clear ag X));obtain⟨m,bf⟩:=eR ((eO B k).length);have bg:(eO B k).length=LW.length:=ay.symm;have bo:=eC (show m=LW.length from zO);have b7:m<=200:=zO;have ap:=ab.out;have bl:True:=trivial;have ah:=ay.out;rw[bf];have bs:=eC (λ(j:Nat)(q:Nat)(u:Int)(h1:(eO B k)[j]?=some q)(h2:LW[j]?=some u)=>I7 (g:=oE ⟨R,S,B⟩ f) (bd:=B) (t:=t) h1 h2);have br:=eC (show lD (oE ⟨R,S,B⟩ f) B t m ((eO B k).drop m) (LW.drop m)=true by rw[<-bf];exact LA bg);have bn:=eC (λ(j:Nat)(h:j<m)=>show∃q u,(eO B k)[j]?=some q/\(mJ (eO B k))[j]?=some (q:Int)/\LW[j]?=some u/\q<q2/\∃x,B[q]?=some x by
   have h1:j<(eO B k).length:=zO
   have h2:j<LW.length:=by have:=bo.out;omega
   obtain⟨_,e',g1,g2⟩:=oT HE _ (List.getElem_mem h1)
   have g3:=jW g1
   obtain⟨x,_,g4,_⟩:=lI g1
   exact⟨(eO B k)[j],LW[j],lJ h1,by simp[mJ,h1],lJ h2,zO,x,g4⟩);have bm:=eC (λ(q:Nat)(h:q∈eO B k)(W:aS)(h2:Bl w2 W)=>IH q W h (fC B2 h2));have bq:=eC (λ(q:Nat)(x:Nd)(h:B[q]?=some x)(W:aS)(h2:Bl w2 W)=>show W.cell? (b,ai+q*2)=some (qI x.1) by
   obtain⟨b',b9,bz,_,g0,_⟩:=bp.at h
   cases bz
   exact((fC B2 h2).cell (p:=(b,ai+q*2)) HB).trans g0);have x0:w2.cell? (w,0)=some (qI R):=by rw[ae _ _ zO,M _ _ zO,J _ _ zT];exact rF w _ _ _ _
  have x1:w2.cell? (w,1)=some (aA va q1 vc):=by rw[ae _ _ zO,M _ _ zO,J _ _ zT];exact rF w _ _ _ _
  have x2:w2.cell? (w,2)=some (aA (some (b,ai)) q2 bc):=by rw[ae _ _ zO,M _ _ zO,J _ _ zT];exact rF w _ _ _ _
  have x3:w2.cell? (w,3)=some (.map (some r)):=by rw[ae _ _ zO,M _ _ zO,J _ _ zT];exact rF w _ _ _ _
  have x4:w2.cell? ((w:Nat)+1,0)=some (qI t):=by rw[ae _ _ zO,M _ _ zO,J _ _ zS];exact GE w _ _ _ _
  have HX:=eC (λ(W:aS)(h2:Bl w2 W)=>(⟨(h2.cell (p:=(w,0)) (by show(w:Nat)<_;omega)).trans x0,(h2.cell (p:=(w,1)) (by show(w:Nat)<_;omega)).trans x1,(h2.cell (p:=(w,2)) (by show(w:Nat)<_;omega)).trans x2,(h2.cell (p:=(w,3)) (by show(w:Nat)<_;omega)).trans x3,(h2.cell (p:=((w:Nat)+1,0)) (by show(w:Nat)+1<_;omega)).trans x4⟩:_/\_/\_/\_/\_));generalize a8:lD (oE ⟨R,S,B⟩ f) B t 0 (eO B k) LW=OKV at ap;change Hid _ at ap a8;clear bi ar bg J ae M aL a0 a1 a6 ak B3 al ah z0 z1 z2 z4 z5 x0 x1 x2 x3 x4 a5 a2 c0 c1 hx be a3 CK CA hK bA bL aq B1 aj aa hp IH hr bl;generalize hG:oE ⟨R,S,B⟩ f=G at*;clear hG;go_loopw [54] (λi wr=>∃j:Nat,j<=m/\i=qI j/\lD G B t j ((eO B k).drop j) (LW.drop j)=OKV/\Bl w2 wr) (λi _=>m-(aW i).toNat)
  case atStart=>exact⟨0,zO,rfl,a8,iL _ _⟩
  case round=>
   obtain⟨j,hj,rfl,hJ,ao⟩:=hrel;have ac:=eC ao;change Hid _ at hJ;by_cases a3:j<m
   .obtain⟨q,u,g1,g2,g3,g4,x,g5⟩:=bn j a3;obtain⟨bk,ok,bV,b5,b3⟩:=mD (ax.later ao) g2;obtain⟨bw,ow,b0,b6,bu⟩:=mD (az.later ao) g3;subst bV;subst b0;have am:=eC (bs j q u g1 g3);have bh:q∈eO B k:=iG g1;have HC:=eC (λW(h:Bl wr W)=>bm q bh W (fC ac h));have HD:=eC (λW(h:Bl wr W)=>bq q x g5 W (fC ac h));have Z:=eC (λW(h:Bl wr W)=>HX W (fC ac h));have i0:(0:Int)<=(j:Int):=zO;have i1:(j:Int)<(m:Int):=zO;have s0:=λW h=>(Z W h).1;have s1:=λW h=>(Z W h).2.1;have s2:=λW h=>(Z W h).2.2.1;have s3:=λW h=>(Z W h).2.2.2.1;have s4:=rU bu;have GX:=g5;clear ao g1 g2 g3 g5 bh;by_cases hgu:G q=u
    .have e0:(G q !=u)=false:=by simp[hgu]
     by_cases ht3:t=23\/t=24
     .by_cases hj0:j=0
      .have HN:=eC (show lD G B t (j+1) ((eO B k).drop (j+1)) (LW.drop (j+1))=OKV by rw[<-hJ,am,eE (by simp[hgu]),eE zO]);have d0:decide ((0:Int)<(j:Int))=false:=zT;have b4:decide (0<j)=false:=zT;clear hgu hj0;generalize G q=Gq at*;obtain rfl|rfl:=ht3
       all_goals
        go_wp2;have av:=jX wr;go_region_held3(λw'=>Bl wr w') (first|(with_reducible assumption)|go_grown) ((go_at_call 177;refine(HC _ zG).mono ?_;rintro e4 O⟨rfl,y⟩;obtain⟨D,aw⟩:=oO zG y;clear y));have y4:=(Z O D).2.2.2.2;have y2:=(Z O D).2.2.1;have y5:=HD O D;go_wp2;go_roundw
        case rel=>exact⟨j+1,zO,by go_num,HN,fC ac D⟩
        case measure=>simp[aW];omega
      .have d0:decide ((0:Int)<(j:Int))=true:=zT;by_cases hx20:x.1=20
       .have HN:=eC (show lD G B t (j+1) ((eO B k).drop (j+1)) (LW.drop (j+1))=OKV by rw[<-hJ,am,eE (by simp[hgu]),eE (by rw[a7 q x GX];omega)]);have e1:(x.1 !=20)=false:=by simp[hx20]
        clear hgu hx20;generalize G q=Gq at*;obtain rfl|rfl:=ht3
        all_goals
         go_wp2;have av:=jX wr;go_region_held3(λw'=>Bl wr w') (first|(with_reducible assumption)|go_grown) ((go_at_call 177;refine(HC _ zG).mono ?_;rintro e4 O⟨rfl,y⟩;obtain⟨D,aw⟩:=oO zG y;clear y));have y4:=(Z O D).2.2.2.2;have y2:=(Z O D).2.2.1;have y5:=HD O D;go_wp2;go_roundw
         case rel=>exact⟨j+1,zO,by go_num,HN,fC ac D⟩
         case measure=>simp[aW];omega
       .have HN:=eC (show OKV=false by rw[<-hJ,am,eE (by simp[hgu]),eI (by rw[a7 q x GX];omega)]);have e1:(x.1 !=20)=true:=by simpa using hx20
        clear hgu hx20;generalize G q=Gq at*;obtain rfl|rfl:=ht3
        all_goals go_wp2;have av:=jX wr;go_region_held3(λw'=>Bl wr w') (first|(with_reducible assumption)|go_grown) ((go_at_call 177;refine(HC _ zG).mono ?_;rintro e4 O⟨rfl,y⟩;obtain⟨D,aw⟩:=oO zG y;clear y));have y4:=(Z O D).2.2.2.2;have y2:=(Z O D).2.2.1;have y5:=HD O D;go_wp2;go_ret;exact⟨by rw[ap,HN];rfl,B2.trans ((fC ac D).mono B2.size)⟩
     .have HN:=eC (show lD G B t (j+1) ((eO B k).drop (j+1)) (LW.drop (j+1))=OKV by rw[<-hJ,am,eE (by simp[hgu]),eE zO]);have e2:(t==23)=false:=zT;have e3:(t==24)=false:=zT;clear hgu ht3;generalize G q=Gq at*;go_wp2;have av:=jX wr;go_region_held3(λw'=>Bl wr w') (first|(with_reducible assumption)|go_grown) ((go_at_call 177;refine(HC _ zG).mono ?_;rintro e4 O⟨rfl,y⟩;obtain⟨D,aw⟩:=oO zG y;clear y));have y4:=(Z O D).2.2.2.2;have y2:=(Z O D).2.2.1;have y5:=HD O D;go_wp2;go_roundw
      case rel=>exact⟨j+1,zO,by go_num,HN,fC ac D⟩
      case measure=>simp[aW];omega
    .have HN:=eC (show OKV=false by rw[<-hJ,am,eI hgu]);have e0:(G q !=u)=true:=by simpa using hgu
     clear hgu;generalize G q=Gq at*;go_wp2;have av:=jX wr;go_region_held3(λw'=>Bl wr w') (first|(with_reducible assumption)|go_grown) ((go_at_call 177;refine(HC _ zG).mono ?_;rintro e4 O⟨rfl,y⟩;obtain⟨D,aw⟩:=oO zG y;clear y));have y4:=(Z O D).2.2.2.2;have y2:=(Z O D).2.2.1;have y5:=HD O D;go_wp2;go_ret;exact⟨by rw[ap,HN];rfl,B2.trans ((fC ac D).mono B2.size)⟩
   .obtain rfl:m=j:=zO;have HF:=eC (show OKV=true by rw[<-hJ];exact br);go_wp2;go_ret;exact⟨by rw[ap,HF];rfl,fC B2 ao⟩
theorem TA(a:Option Addr)(n c:Nat)(is:Int)(i:List Int)(g e:Option Addr)(h f:Nat)(p:Pg)(t d:Int)(w:aS):
  qK 434 #[aH #[aA a n c,qI is],kE g e h f p,aH #[qI t,qI d]] w (Rt (qI (oD p.vs d (some (.plain i is)))) w):=
 U4 a n c is g e h f p t d w
theorem aEk(x j:Option Addr)(y m r:Nat)(i:Int)(g:List Int)(d:List Nd)(k e f:Nat)(w:aS)(K:iE w x j y m ⟨i,g,d⟩)(hm:g.length<=1000000)(J:d.length<=100000)(B:mU w r)(L:r<w)(he:iD d k=some e)(t:Int)(n:Int)(u:List Int)(is:Int)(C:vH t=some (.plain u is))(O:d[k]?=some (t,n))
  (F:∀(q:Nat) (W:aS),q∈eO d k->Bl w W->qK 177 #[aH #[qI i,aA x g.length y,aA j d.length m,.map (some r)],qI q] W (Rt (qI (oE ⟨i,g,d⟩ f q)) W)):
  qK 177 #[aH #[qI i,aA x g.length y,aA j d.length m,.map (some r)],qI k] w (Rt (qI (oE ⟨i,g,d⟩ (f+1) k)) w):=by obtain⟨v,A,G⟩:=B.look t;rw[C]at A;have M:=A;obtain⟨D,E,N,R⟩:=A;exact aDJ 352 434 #[aA D u.length E,qI is] (.plain u is) (.inl ⟨rfl,rfl⟩) x j y m r i g d k e f w K hm J B L he t n C O v M N G (λh=>by obtain⟨s,h⟩:=h;cases h) (λW h=>by have H:=TA D u.length E is u x j y m ⟨i,g,d⟩ t n W;unfold kE at H;exact H) F
theorem aAp(s j:Option Addr)(u m r:Nat)(i:Int)(g:List Int)(d:List Nd)(k e f:Nat)(w:aS)(A:iE w s j u m ⟨i,g,d⟩)(hm:g.length<=1000000)(F:d.length<=100000)(B:mU w r)(G:r<w)(he:iD d k=some e)(t:Int)(n:Nat)(x:Bool)(C:vH t=some (.scalar x))(J:d[k]?=some (t,(n:Int)))
  (D:∀(q:Nat) (W:aS),q∈eO d k->Bl w W->qK 177 #[aH #[qI i,aA s g.length u,aA j d.length m,.map (some r)],qI q] W (Rt (qI (oE ⟨i,g,d⟩ f q)) W)):
  qK 177 #[aH #[qI i,aA s g.length u,aA j d.length m,.map (some r)],qI k] w (Rt (qI (oE ⟨i,g,d⟩ (f+1) k)) w):=by obtain⟨v,y,E⟩:=B.look t;rw[C]at y;exact aDJ 354 435 #[aG x] (.scalar x) (.inr (.inl ⟨rfl,rfl⟩)) s j u m r i g d k e f w A hm F B G he t n C J v y y E (λ_=>zO) (λW h=>by have H:=UB x s j u m ⟨i,g,d⟩ t n W (A.later h) hm;unfold kE at H;exact H) D
theorem aFa(u j:Option Addr)(x m r:Nat)(i:Int)(g:List Int)(d:List Nd)(k e f:Nat)(w:aS)(A:iE w u j x m ⟨i,g,d⟩)(hm:g.length<=1000000)(J:d.length<=100000)(B:mU w r)(K:r<w)(he:iD d k=some e)(t:Int)(n:Nat)(s:List Int)(is:Int)(C:vH t=some (.array s is))(N:d[k]?=some (t,(n:Int)))
  (F:∀(q:Nat) (W:aS),q∈eO d k->Bl w W->qK 177 #[aH #[qI i,aA u g.length x,aA j d.length m,.map (some r)],qI q] W (Rt (qI (oE ⟨i,g,d⟩ f q)) W)):
  qK 177 #[aH #[qI i,aA u g.length x,aA j d.length m,.map (some r)],qI k] w (Rt (qI (oE ⟨i,g,d⟩ (f+1) k)) w):=by obtain⟨v,y,G⟩:=B.look t;rw[C]at y;have L:=y;obtain⟨D,E,M,O⟩:=y;exact aDJ 356 436 #[aA D s.length E,qI is] (.array s is) (.inr (.inr ⟨rfl,rfl⟩)) u j x m r i g d k e f w A hm J B K he t n C N v L M G (λ_=>zO) (λW h=>by have H:=UX D s.length E is s u j x m ⟨i,g,d⟩ t n W (A.later h) hm;unfold kE at H;exact H) F
theorem aAU{s:Bool}(h:vH t=some (.scalar s)):t≠1:=by rintro rfl;cases h
theorem aFg{k:List Int}{is:Int}(h:vH t=some (.array k is)):t≠1:=by rintro rfl;cases h
theorem aJ0(A u:Option Addr)(B x r:Nat)(j:Int)(i:List Int)(h:List Nd)(hm:i.length<=1000000)(F:h.length<=100000):∀(d k e f:Nat)(w:aS),iE w A u B x ⟨j,i,h⟩->mU w r->r<w->iD h k=some e->h.length-k<=d->d<=f->
  qK 177 #[aH #[qI j,aA A i.length B,aA u h.length x,.map (some r)],qI k] w (Rt (qI (oE ⟨j,i,h⟩ f k)) w):=by
 intro d;induction d with
 |zero=>intro k e f w C D y he hd hf;have:=jW he;omega
 |succ d ih=>
  intro k e f w C D y he hd hf;obtain⟨f,rfl⟩:∃g,f=g+1:=⟨f-1,zO⟩;have O:=jW he;obtain⟨⟨t,n⟩,a,G,K,_⟩:=lI he;have E:∀(q:Nat)(W:aS),q∈eO h k->Bl w W->qK 177 #[aH #[qI j,aA A i.length B,aA u h.length x,.map (some r)],qI q] W (Rt (qI (oE ⟨j,i,h⟩ f q)) W):=by intro q W hq J;obtain⟨N,L,M,_⟩:=oT he q hq;exact ih q L f W (C.later J) (D.later y J) (gV y J.size) M zO zO
  match hru:vH t with
  |none=>exact aHl A u B x r j i h k e f w C hm F D y he t n G hru E
  |some (.plain kk is)=>exact aEk A u B x r j i h k e f w C hm F D y he t n kk is hru G E
  |some (.scalar s)=>obtain⟨m,rfl⟩:=qJ (QJ K (aAU hru));exact aAp A u B x r j i h k e f w C hm F D y he t m s hru G E
  |some (.array kk is)=>obtain⟨m,rfl⟩:=qJ (QJ K (aFg hru));exact aFa A u B x r j i h k e f w C hm F D y he t m kk is hru G E
def aIp(d:aS)(e:Ending)(w':aS):Prop:=∃r,e=aO (.map (some r))/\mU w' r/\r<(w':Nat)/\aV (d:Nat) d w'
theorem aBU(w:aS):qK 176 #[] w (aIp w):=(aAO w).mono λe w'⟨⟨r,f,h,d⟩,g⟩=>⟨r,f,d,(by obtain⟨M,hm,_⟩:=d;exact hm.lt),g⟩
theorem ZW(S M:Option Addr)(U N:Nat)(p:Pg)(k:Nat)(w:aS)(hp:iE w S M U N p)(hm:p.vs.length<=1000000)(x:p.bd.length<=100000):
  qK 108 #[kE S M U N p,qI k] w (Rt (qI (UM p k)) w):=by
 obtain⟨D,J,B⟩:=p;have X:=(iL _ w).alloc (eX _) (aK #[qI D,aA S J.length U,aA M B.length N] 25);have Z:=eC (λW(h:Bl w W)=>nQ M N B k W (hp.later h).2.1 x);simp only at hm x;cases he:iD B k with
 |none=>
  have y:UM ⟨D,J,B⟩ k=-1:=by unfold UM;simp only[he]
  rw[y];rw[uY he]at Z;unfold kE;simp only;generalize J.length=q1 at*;generalize B.length=q2 at*;go_enter func108,ntmps108;go_wp2_with(go_at_call 173;refine(Z _ X).mono ?_;rintro e Y⟨rfl,O⟩);go_ret;exact⟨rfl,X.trans (O.mono zS)⟩
 |some ee=>
  have y:UM ⟨D,J,B⟩ k=oE ⟨D,J,B⟩ B.length k:=by unfold UM;simp only[he]
  rw[y];rw[mK he]at Z;unfold kE;simp only;have CO:=eC (λW(h:Bl w W)(r:Nat)(f:mU W r)(j:r<W)=>aJ0 S M U N r D J B hm x B.length k ee B.length W (hp.later h) f j he zO (eX _));generalize oE ⟨D,J,B⟩ B.length k=R at*;generalize J.length=q1 at*;generalize B.length=q2 at*;have u:=eC (λ(o:Nat)(i:Nat)(v:aT)(h:(#[qI D,aA S q1 U,aA M q2 N]:Array aT)[i]?=some v)=>show(w.alloc (aK #[qI D,aA S q1 U,aA M q2 N] 25)).cell? (w,i)=some v by unfold bH;rw[fG];exact h);change Hid _ at X;go_enter func108,ntmps108;go_wp2_with(go_at_call 173;refine(Z _ X).mono ?_;rintro e Y⟨rfl,O⟩);have al:w<(Y:Nat):=by have:=O.size;simp at this;omega
  have B1:=eC (X.trans (O.mono zS));have s0:=rU ((O.cell (p:=(w,0)) zS).trans (u 0 0 _ rfl));have s1:=rU ((O.cell (p:=(w,1)) zS).trans (u 0 1 _ rfl));have s2:=rU ((O.cell (p:=(w,2)) zS).trans (u 0 2 _ rfl));have ac:=eC (λW(h:Bl Y W)r f j=>CO W (fC B1 h) r f j);have ai:=jX Y;go_region_held3(λw'=>Bl Y w') (first|(with_reducible assumption)|go_grown) (first|(go_at_call 176;refine(aBU _).mono ?_;rintro e3 w3⟨r,rfl,hr,ab,ae⟩;obtain⟨ag,aj⟩:=oO zG ae;have aa:=eC ag;change Hid _ at hr ab)|(go_at_call 177;refine(ac _ aa r hr ab).mono ?_;rintro e4 w4⟨rfl,af⟩;obtain⟨ah,ak⟩:=oO aa af))
  all_goals go_wp2
  all_goals go_ret
  all_goals exact⟨rfl,fC B1 ah⟩
theorem GN{l:List Nd}(h:nL l=0):∃x,l[0]?=some x:=by
 unfold nL at h;cases l with
 |nil=>simp at h
 |cons x r=>exact⟨x,rfl⟩
def oH(w:aS)(r:Nat)(d:List aT):Prop:=r<(w:Nat)/\eG w r 0 d
theorem boxed(w:aS)(d:List aT)(T:aX):oH (w.alloc (aK d.toArray T)) w d:=⟨zS,eG.new w d T⟩
theorem oH.later{w:aS}{e:List aT}(h:oH w r e)(d:Bl w w'):oH w' r e:=⟨gV h.1 d.size,h.2.below d h.1⟩
theorem oH.at{w:aS}{r i:Nat}{d:List aT}{a:aT}(h:oH w r d)(e:d[i]?=some a):w.cell? (r,i)=some a:=by have:=h.2 i a e;rwa[kQ]at this
theorem oH.c3{w:aS}{a b c:aT}(h:oH w r [a,b,c]):qC w r 0 a/\qC w r 1 b/\qC w r 2 c:=⟨h.at rfl,h.at rfl,h.at rfl⟩
theorem qO(X S:Option Addr)(Y U:Nat)(p:Pg)(w:aS)(y:iE w X S Y U p)(hm:p.vs.length<=1000000)(ag:p.bd.length<=100000):
  qK 37 #[kE X S Y U p] w (Rt (qI (gH p:Nat)) w):=by
 have CA:=eC (λV(h:Bl w V)=>V0 S U p.bd V (y.later h).2.1 ag);have Z:=eC (λV(h:Bl w V)=>T6 X S Y U p V (y.later h) hm);have u:=eC (λV(h:Bl w V)=>show qK 108 #[kE X S Y U p,qI 0] V (Rt (qI (UM p 0)) V)from ZW X S Y U p 0 V (y.later h) hm ag);have HN:=eC (λx(h:p.bd[0]?=some x)=>y.2.1.at h);have M:=eC ((iL _ w).alloc (eX _) (aK [qI p.pa,aA X p.vs.length Y,aA S p.bd.length U].toArray 25));have W:=eC (boxed w [qI p.pa,aA X p.vs.length Y,aA S p.bd.length U] 25);have D:Hid (gH p=if nL p.bd≠0 then nL p.bd else if pA p≠0 then pA p else if(p.bd[0]?.getD (0,0)).1≠20\/UM p 0≠2 then 15 else 0):=eC rfl;have HS:=eC (GN (l:=p.bd));have HE:=eC (show nL p.bd=0->p.bd.length≠0 from λh=>by obtain⟨x,hx⟩:=GN h;have:=gX.1 hx;obtain⟨h,_⟩:=this;omega);unfold kE at Z u|-;generalize gH p=R at D|-;generalize nL p.bd=a at CA D HS HE;generalize pA p=v at Z D;generalize UM p 0=o at u D;generalize p.vs.length=q1 at*;generalize p.bd.length=q2 at*;generalize p.pa=pa at*;by_cases h1:a=0
 case neg=>
  have e1:decide ((a:Int)=0)=false:=zT;have ac:((a:Int) !=0)=true:=zT;obtain rfl:R=a:=by rw[D,eI h1]
  go_enter func37,ntmps37;go_wp2_with(first|(go_at_call 106;refine(CA _ M).mono ?_;rintro e w1⟨rfl,B⟩));go_ret;exact⟨rfl,fC M B⟩
 subst h1;obtain⟨x,hx⟩:=HS rfl;obtain⟨b,aa,ah,af,f,_⟩:=HN x hx;have hq:=HE rfl;rw[hx]at D;simp only[Option.getD_some]at D;obtain⟨t,n⟩:=x;simp only at D f;rw[eE zS]at D;subst ah;by_cases h2:v=0
 case neg=>
  have ac:((v:Int) !=0)=true:=zT;obtain rfl:R=v:=by rw[D,eI h2]
  go_enter func37,ntmps37;go_wp2_with(first|(go_at_call 106;refine(CA _ M).mono ?_;rintro e w1⟨rfl,B⟩;obtain⟨c0,c1,c2⟩:=(W.later B).c3;have J:=mG M B)|(go_at_call 107;refine(Z _ J).mono ?_;rintro e w3⟨rfl,N⟩));go_ret;exact⟨rfl,fC J N⟩
 subst h2;rw[eE zS]at D;have ab:=eC (show qC w b aa (qI t)from f);have HQ:=eC (show(0:Int)<(q2:Int)from zO);by_cases h3:t=20
 case neg=>
  have ac:(t !=20)=true:=zT;obtain rfl:R=15:=by rw[D,eI (.inl h3)]
  go_enter func37,ntmps37;go_wp2_with(first|(go_at_call 106;refine(CA _ M).mono ?_;rintro e w1⟨rfl,B⟩;obtain⟨c0,c1,c2⟩:=(W.later B).c3;have j:=eC (W.later B);have J:=mG M B)|(go_at_call 107;refine(Z _ J).mono ?_;rintro e w3⟨rfl,N⟩;obtain⟨d0,d1,d2⟩:=(j.later N).c3;have O:=mG J N;have f:=(O.cell (p:=(b,aa)) af).trans ab;have hq:=HQ.out));go_ret;exact⟨rfl,O⟩
 subst h3;by_cases h4:o=2
 case neg=>
  have ac:(o !=2)=true:=zT;obtain rfl:R=15:=by rw[D,eI (.inr h4)]
  go_enter func37,ntmps37;go_wp2_with(first|(go_at_call 106;refine(CA _ M).mono ?_;rintro e w1⟨rfl,B⟩;obtain⟨c0,c1,c2⟩:=(W.later B).c3;have j:=eC (W.later B);have J:=mG M B)|(go_at_call 107;refine(Z _ J).mono ?_;rintro e w3⟨rfl,N⟩;obtain⟨d0,d1,d2⟩:=(j.later N).c3;have O:=mG J N;have f:=(O.cell (p:=(b,aa)) af).trans ab;have hq:=HQ.out)|(go_at_call 108;refine(u _ O).mono ?_;rintro e w5⟨rfl,ae⟩));go_ret;exact⟨rfl,fC O ae⟩
 subst h4;obtain rfl:R=0:=by rw[D,eE zS]
 go_enter func37,ntmps37;go_wp2_with(first|(go_at_call 106;refine(CA _ M).mono ?_;rintro e w1⟨rfl,B⟩;obtain⟨c0,c1,c2⟩:=(W.later B).c3;have j:=eC (W.later B);have J:=mG M B)|(go_at_call 107;refine(Z _ J).mono ?_;rintro e w3⟨rfl,N⟩;obtain⟨d0,d1,d2⟩:=(j.later N).c3;have O:=mG J N;have f:=(O.cell (p:=(b,aa)) af).trans ab;have hq:=HQ.out)|(go_at_call 108;refine(u _ O).mono ?_;rintro e w5⟨rfl,ae⟩));go_ret;exact⟨rfl,fC O ae⟩
theorem iS{P:bB}{α:Type}{K:lL α}{S E:aX}{aa:Nat}(J:gY P S E K.k aa){w:aS}{D:Act}{KK:Act->aS->Prop}{EE:Prop}(ae:o.guard=none)(s x:Operand)
  (ho:o.op=.call {callee:=.builtin .append,args:=#[s,x],argTypes:=#[S,S]})(n:Nat)(v:aT)(L:List α)(hs:D.eval s=v)(ab:eD K E n w v L)
  (N:Nat)(y:α)(B:List aT)(R:K.R w y B)(hx:D.eval x=aA (some (N,0)) 1 1)(O:eG w N 0 B)(af:L.length+1<=10000000)(hb:n<=w)
  (ag:¬K.tags E)
  (h:∀M w',eD K E n w' M (L++[y])->w.grownBy w' v.ownBlock->aV n w w'->KK (D.put o.dst M) w'):if Region.wanted o (yielded ops D.tmps)=true then Oper.wp P o D w KK Q else EE:=by
 obtain⟨i,z,hi,hz,aj,ac,ak⟩:=J.info;have hR:∀w' x B,w.grownBy w' v.ownBlock->K.R w x B->K.R w' x B:=λw' x B O h=>qT ab ag O h;obtain⟨al,h1,h2⟩:=ab;have am:=K.len R;have ai:=J.small;have hw:Region.wanted o (yielded ops D.tmps)=true:=by simp[Region.wanted,ae]
 rw[eI hw];obtain⟨M,w',ah,r1,U,_⟩:=run_append_own (P:=P) w n S o.type E i z K.k aa J.under hi hz aj ac ak J.pos v L.length al.flatten h2 (N,0) 1 1 B zO (λj u hj=>by rw[kJ,kQ];simpa using O j u hj) (K.one R) (by unfold aZ;omega) (by have:=Nat.mul_le_mul af ai;omega) hb;unfold Oper.wp;simp[execOp,ho,resolve,invoke,builtin,hs,hx,ah,bR];exact h M w' (qR h1 R r1 λx B=>hR w' x B U) U ((iL n w).grown U hb (λk hk=>(BK h2 k hk).1))
structure tD(M:Nat->Prop)(B:Nat)(W W':aS):Prop where
 os:W'.os=W.os
 tape:W'.tape=W.tape
 output:W'.output=W.output
 size:(W:Nat)<=(W':Nat)
 own:∀k,M k->k<(W:Nat)->W'.heap[k]?=W.heap[k]?
 noc:∀(k:Nat)(o:Obj),B<=k->W.heap[k]?=some o->o.isCells=false->W'.heap[k]?=some o
theorem tD.refl(M:Nat->Prop)(B:Nat)(W:aS):tD M B W W:=⟨rfl,rfl,rfl,eX _,λ_ _ _=>rfl,λ_ _ _ h _=>h⟩
theorem tD.trans{M:Nat->Prop}{B:Nat}{U V W:aS}(h:tD M B U V)(k:tD M B V W):tD M B U W:=
 ⟨k.os.trans h.os,k.tape.trans h.tape,k.output.trans h.output,fA h.size k.size,λi d f=>(k.own i d (gV f h.size)).trans (h.own i d f),λi o d g e=>k.noc i o d (h.noc i o d g e) e⟩
theorem tD.mono{M f:Nat->Prop}{e:Nat}{U V:aS}(h:tD M B U V)(hm:∀k,f k->M k)(g:B<=e):tD f e U V:=
 ⟨h.os,h.tape,h.output,h.size,λi d=>h.own i (hm i d),λi o d=>h.noc i o (fA g d)⟩
theorem tD.of{M:Nat->Prop}(h:Bl W d):tD M B W d:=
 ⟨h.os,h.tape,h.output,h.size,λi _ f=>h.block i f,λi o _ e _=>(h.block i (fB.1 e).1).trans e⟩
theorem tD.chg{M N:Nat->Prop}{g:aS}(h:eZ N W g)(hm:∀k,N k->¬M k)(n:∀k,N k->B<=k->∃o,W.heap[k]?=some o/\o.isCells=true):tD M B W g:=
 ⟨h.os,h.tape,h.output,h.size,λi d q=>h.block i q (λe=>hm i e d),λi o d f r=>(h.block i (fB.1 f).1 (λe=>by
  obtain⟨s,j,m⟩:=n i e d
  rw[f]at j;cases j;rw[r]at m;cases m)).trans f⟩
theorem tD.put{M:Nat->Prop}{o:Obj}(e:Obj)(i:W.heap[l]?=some o)(hm:¬M l)(h:l<B):tD M B W (W.putObj l e):=by have g:=grownBy_putObj' W l e;exact⟨g.os,g.tape,g.output,g.size,λk d _=>jY (by rintro rfl;exact hm d),λk o d f _=>(jY zO).trans f⟩
def May(A:(Nat->Prop)->Nat->Prop)(B:Nat)(M:Nat->Prop)(W:aS)(k:Nat):Prop:=A M k\/(B<=k/\∃o,W.heap[k]?=some o/\o.isCells=false)
def AY{α:Type}(A:(Nat->Prop)->Nat->Prop)(B:Nat)(J:List α->(Nat->Prop)->aS->Prop):Prop:=
 ∀f M e W d,J f M W->eZ (May A B M W) W d->(∀k,e k->M k\/(W.heap.size<=k/\k<d.heap.size))->J f e d
theorem AY.below{α:Type}{A:(Nat->Prop)->Nat->Prop}{J:List α->(Nat->Prop)->aS->Prop}(h:AY A B J){e:List α}{M:Nat->Prop}(hj:J e M W)(hb:Bl W d):J e M d:=h e M M W d hj (eZ.of hb) (λk hk=>.inl hk)
theorem AY.grow{α:Type}{A:(Nat->Prop)->Nat->Prop}{J:List α->(Nat->Prop)->aS->Prop}(h:AY A B J){e:List α}{M:Nat->Prop}(hj:J e M W)(hb:Bl W d):J e (λk=>M k\/(W<=k/\k<d)) d:=h e M _ W d hj (eZ.of hb) (λk hk=>hk)
theorem AY.less{α:Type}{A:(Nat->Prop)->Nat->Prop}{J:List α->(Nat->Prop)->aS->Prop}(h:AY A B J){d:List α}{M e:Nat->Prop}(hj:J d M W)(hm:∀k,e k->M k):J d e W:=h d M _ W W hj (eZ.refl _ _) (λk hk=>.inl (hm k hk))
theorem AY.put{α:Type}{A:(Nat->Prop)->Nat->Prop}{J:List α->(Nat->Prop)->aS->Prop}(h:AY A B J){d:List α}{M:Nat->Prop}{o:Obj}(e:Obj)(hj:J d M W)(hl:W.heap[l]?=some o)(hc:o.isCells=false)(hb:B<=l):J d M (W.putObj l e):=by have g:=grownBy_putObj' W l e;exact h d M M W _ hj ⟨g.os,g.tape,g.output,g.size,λk _ hn=>jY (by rintro rfl;exact hn (.inr ⟨hb,o,hl,hc⟩))⟩ (λk hk=>.inl hk)
theorem AY.and{α:Type}{A:(Nat->Prop)->Nat->Prop}{J d:List α->(Nat->Prop)->aS->Prop}(h:AY A B J)(j:AY A B d):AY A B (λs M W=>J s M W/\d s M W):=λs M e W f i g hm=>⟨h s M e W f i.1 g hm,j s M e W f i.2 g hm⟩
def aJ9{α:Type}(P:bB)(gf:Nat)(lb:Array aT)(Enc:α->Array aT->aS->Prop)(j:List α)(A:(Nat->Prop)->Nat->Prop)(h:Nat->Prop)(w:aS):Prop:=
 ∀(l:Nat)(J i:List α->(Nat->Prop)->aS->Prop)(W:aS),aV w w W->l<(W:Nat)->AY A (W:Nat) J->AY A (W:Nat) i->
  (∀f x vs M g,J f M g->(∀k,h k->M k)->Enc x vs g->f++[x]<+:j->YieldAt Fence.wide 0 P l vs g λe d=>
   (e=aO (aG true)/\J (f++[x]) M d/\tD M (l+1) g d)\/(e=aO (aG false)/\i (f++[x]) M d/\tD M (l+1) g d))->
  J [] h W->CallsIn Fence.wide 1 P gf (#[aD (.yield l) #[] #[]]++lb) W λe d=>(∃v,e=aO v)/\(J j h d\/∃f,f<+:j/\i f h d)
def Y8{α:Type}(B:Nat)(M:Nat->Prop)(I:List α->(Nat->Prop)->aS->Prop)(Ix:Code->List α->(Nat->Prop)->aS->Prop)(d:List α)(W:aS):Exit->Act->aS->Prop
 |.normal,_,W'=>tD M B W W'/\I d M W'
 |.ret,_,W'=>tD M B W W'/\Ix .ret d M W'
 |.exit id,_,W'=>tD M B W W'/\Ix (.exit id) d M W'
 |_,_,_=>False
theorem jN{P:bB}{f:FuncId}{g:Array aT}{d e:Code}{w:aS}(h:RoundIn Fence.wide n P l f g d e w R):RoundIn Fence.wide m P l f g d e w R:=
 ⟨h.1,λc i _=>h.2 c i (room_wide _)⟩
theorem YieldAt.any{P:bB}{d:Array aT}(h:YieldAt Fence.wide n P l d W R):YieldAt Fence.wide m P l d W R:=by obtain⟨fn,j,e,f,g,i⟩:=h;exact⟨fn,j,e,f,g,jN i⟩
theorem YieldAt.round{l':Nat}{P:bB}{d:Array aT}(h:YieldAt Fence.wide n P l d W R):YieldAt (Fence.wide.inRound l') m P l d W R:=by obtain⟨fn,j,e,f,g,i⟩:=h;exact⟨fn,j,e,f,g,jN (m:=m) i⟩
theorem aFc{α:Type}{P:bB}{g:Operand}{ps:Array Tmp}{assign body:Code}{a:Act}{w:aS}{gf:Nat}{lb:Array aT}{A:(Nat->Prop)->Nat->Prop}{M0:Nat->Prop}
  (hg:a.eval g=aD (.func gf) #[] lb)(eg:∀ap w,(callFunc gf ap).run P w=.ok (.enter gf ap) w)
  {Enc:α->Array aT->aS->Prop}{xs:List α}(bk:aJ9 P gf lb Enc xs A M0 w)(ak:∀k,M0 k->k<w.heap.size)(hA:∀M k,A M k->k<w.heap.size\/M k)(bg:∀x B W,Enc x B W->B.size=ps.size)
  (au:∀x B W W',Enc x B W->fD w.heap.size W W'->Enc x B W')
  (I:List α->(Nat->Prop)->aS->Prop)(Ix:Code->List α->(Nat->Prop)->aS->Prop)(hI:AY A w.heap.size I)(ah:∀c,AY A w.heap.size (Ix c))(h0:I [] M0 w)
  (aq:aS->α->Array aT->Act)(Wx:aS->α->Array aT->aS)(a0:∀W x B,Bl W (Wx W x B))
  (a1:∀(l:Nat) (x:α) (B:Array aT) (W:aS) (K:Act->aS->Prop),Enc x B W->K (aq W x B) (Wx W x B)->
   assign.wpIn (Fence.wide.inRound l) n P (Exit.then K (λ_ _ _=>False)) {tmps:=(ps.zip B).foldl (λt (p,v)=>t.setIfInBounds p v) a.tmps,defers:=[]} W)
  (a2:∀(l:Nat) (J:List α) (x:α) (B:Array aT) (M:Nat->Prop) (W N:aS),I J M N->(∀k,M k->k<W.heap.size)->(∀k,M0 k->M k)->Enc x B N->J++[x]<+:xs->w.heap.size+2<=W.heap.size->
   (∀k,W.heap.size<=k->N.heap[k]?=(Wx W x B).heap[k]?)->(N:Nat)=(Wx W x B).heap.size->body.wpIn (Fence.wide.inRound l) n P (Y8 w.heap.size M I Ix (J++[x]) N) (aq W x B) N)
  (a6:∀(D:Nat) (W:aS),w.heap.size<=D->I xs M0 W->W.heap[D]?=some (aM (some []))->Q .normal {a with defers:={target:=.collected D,args:=#[]}::a.defers} W)
  (bl:∀(D:Nat) (c:Code) (J:List α) (W:aS),w.heap.size<=D->J<+:xs->Ix c J M0 W->W.heap[D]?=some (aM (some []))->c.wpIn Fence.wide (n+2) P Q {a with defers:={target:=.collected D,args:=#[]}::a.defers} W):
  (Code.rangeFunc g ps assign body).wpIn Fence.wide (n+2) P Q a w:=by
 refine wpIn_rangeFunc λfn ba=>?_;obtain⟨O,Y⟩:∃O:LoopState->Option Code->Loop,O=λst pe=>{state:=st,pending:=pe,fn,tmps:=a.tmps,params:=ps,assign,body,defers:=w.heap.size}:=⟨_,rfl⟩;obtain⟨V,hV⟩:=eR ((w.alloc (aM (some []))).alloc (aN (O .ready none)));have bn:(V:Nat)=w.heap.size+1+1:=by rw[<-hV,fO,fO]
 have bj:V.heap[w.heap.size+1]?=some (aN (O .ready none)):=by have:=E9 (w.alloc (aM (some []))) (aN (O .ready none));rw[fO,hV]at this;exact this
 have a5:V.heap[w.heap.size]?=some (aM (some [])):=by rw[<-hV];exact(iI _ _ _ zS).trans (E9 w _)
 have ar:Bl w V:=by rw[<-hV];exact(fL w _).alloc zS _
 have aL:=hI.below h0 ar;refine⟨w.heap.size+1,[{target:=.collected w.heap.size,args:=#[]}],V,{target:=.fn (.func gf) lb,args:=#[aD (.yield (w.heap.size+1)) #[] #[]]},V,gf,
  #[aD (.yield (w.heap.size+1)) #[] #[]]++lb,V,?_,?_,(λ_ _=>trivial),?_,(λh=>by cases h),?_⟩
 .rw[<-hV,Y];exact run_enterLoop_outer _ _ _ _ _
 .simp only[resolve,hg];simp[go_sem]
 .simp[invoke,go_sem,eg]
 have ax:∀(M:Nat->Prop)(W:aS),¬M (w.heap.size+1)->¬May A V M W (w.heap.size+1):=λM W hm h=>by
  obtain h|⟨h,_⟩:=h
  .obtain h|h:=hA _ _ h
   .omega
   .exact hm h
  .omega
 have aw:∀(M:Nat->Prop)(W:aS),¬M w.heap.size->¬May A V M W w.heap.size:=λM W hm h=>by
  obtain h|⟨h,_⟩:=h
  .obtain h|h:=hA _ _ h
   .omega
   .exact hm h
  .omega
 have ay:∀(M:Nat->Prop)(W:aS)(k:Nat),May A V M W k->May A w.heap.size M W k:=λM W k h=>by
  obtain h|⟨h,h'⟩:=h
  .exact .inl h
  .exact .inr ⟨zO,h'⟩
 have a4:=bk (w.heap.size+1)
   (λJ M W=>I J M W/\W.heap[w.heap.size+1]?=some (aN (O .ready none))/\W.heap[w.heap.size]?=some (aM (some []))/\¬M (w.heap.size+1)/\¬M w.heap.size/\∀k,M k->k<W.heap.size)
   (λJ M W=>∃c,Ix c J M W/\W.heap[w.heap.size+1]?=some (aN (O .done (some c)))/\W.heap[w.heap.size]?=some (aM (some []))/\¬M (w.heap.size+1)/\¬M w.heap.size)
   V ar zO
   (λJ M M' W W' h R hm=>by
    obtain⟨h1,h2,h3,h4,h5,h6⟩:=h
    have l1:=(fB.1 h2).1
    have l2:=(fB.1 h3).1
    refine⟨hI J M M' W W' h1 (R.mono λk _=>ay M W k) hm,(R.block _ l1 (ax M W h4)).trans h2,(R.block _ l2 (aw M W h5)).trans h3,λh=>?_,λh=>?_,λk hk=>?_⟩
    .obtain h|h:=hm _ h
     .exact h4 h
     .omega
    .obtain h|h:=hm _ h
     .exact h5 h
     .omega
    .obtain h|h:=hm _ hk
     .exact gV (h6 k h) R.size
     .exact h.2)
   (λJ M M' W W' h R hm=>by
    obtain⟨c,h1,h2,h3,h4,h5⟩:=h
    have l1:=(fB.1 h2).1
    have l2:=(fB.1 h3).1
    refine⟨c,ah c J M M' W W' h1 (R.mono λk _=>ay M W k) hm,(R.block _ l1 (ax M W h4)).trans h2,(R.block _ l2 (aw M W h5)).trans h3,λh=>?_,λh=>?_⟩
    .obtain h|h:=hm _ h
     .exact h4 h
     .omega
    .obtain h|h:=hm _ h
     .exact h5 h
     .omega)
   ?_ ⟨aL,bj,a5,λh=>by have:=ak _ h;omega,λh=>by have:=ak _ h;omega,λk h=>by have:=ak k h;omega⟩
 .refine(hH.2 ((hH (n:=1)).1 a4)).mono ?_;rintro e N⟨⟨v,rfl⟩,(⟨hi,hl,hd,_⟩|⟨J,bh,c,hi,hl,hd,_⟩)⟩
  .exact⟨none,_,by have:=run_endLoop (P:=P) hl (by rw[Y];simp);rw[Y]at this;exact this,a6 _ _ (eX _) (hI.put _ hi hl rfl zO) ((jY zO).trans hd)⟩
  .exact⟨some c,_,by have:=run_endLoop (P:=P) hl (by rw[Y];simp);rw[Y]at this;exact this,bl _ c J _ (eX _) bh ((ah c).put _ hi hl rfl zO) ((jY zO).trans hd)⟩
 .rintro J x B M W⟨hi,hl,hd,ag,ao,az⟩be al bf;refine YieldAt.any (n:=n) ?_;have av:=(fB.1 hl).1;have hy:=run_yield (P:=P) (args:=B) hl (by rw[Y];exact bg x B W al);rw[Y]at hy;refine⟨fn,_,assign,body,hy,roundIn_of_wpIn ba (a1 _ x B W _ al ?_)⟩;have ab:=a0 W x B;have ai:=(ab.block _ av).trans hl;have a7:=(ab.block _ zO).trans hd;have bd:=gV av ab.size;refine⟨_,run_beginRound ai (by rw[Y]),?_⟩;obtain⟨N,aa⟩:=eR ((Wx W x B).putObj (w.heap.size+1) (aN {O .ready none with state:=.busy}));have bc:N.heap[w.heap.size+1]?=some (aN {O .ready none with state:=.busy}):=by rw[<-aa];exact G1 bd
  have G7:N.heap[w.heap.size]?=some (aM (some [])):=by rw[<-aa];exact(jY zO).trans a7
  have bm:(N:Nat)=(Wx W x B).heap.size:=by rw[<-aa];exact World.putObj_size
  have hG:fD w.heap.size (Wx W x B) N:=by rw[<-aa];exact fD.put _ zO ai rfl
  have bb:I J M N:=by rw[<-aa];exact hI.put _ (hI.below hi ab) ai rfl zO
  have a8:=au x B _ _ (au x B W _ al (fD.of ab)) hG;have bi:tD M (w.heap.size+1+1) W N:=by rw[<-aa];exact(tD.of ab).trans (tD.put _ ai ag zO)
  rw[aa];have aj:∀(S:Option Code)(U:aS),tD M w.heap.size N U->
    (Instr.endRound (w.heap.size+1) S).run P U=.ok (aG S.isNone) (U.putObj (w.heap.size+1) (aN (O (if S.isNone then .ready else .done) S)))/\
    U.heap[w.heap.size+1]?=some (aN {O .ready none with state:=.busy})/\
    (U.putObj (w.heap.size+1) (aN (O (if S.isNone then .ready else .done) S))).heap[w.heap.size+1]?=some (aN (O (if S.isNone then .ready else .done) S))/\
    (U.putObj (w.heap.size+1) (aN (O (if S.isNone then .ready else .done) S))).heap[w.heap.size]?=some (aM (some []))/\
    tD M (w.heap.size+1+1) W (U.putObj (w.heap.size+1) (aN (O (if S.isNone then .ready else .done) S))):=λS U am=>by
   have X:=am.noc _ _ zO bc rfl
   have:=run_endRound (P:=P) S X
   rw[Y]at this|-
   exact⟨this,by rw[Y]at X;exact X,G1 (fB.1 X).1,(jY zO).trans (am.noc _ _ (eX _) G7 rfl),bi.trans ((am.mono (λ_ h=>h) zO).trans (tD.put _ X ag zO))⟩
  refine wpIn_mono (a2 _ J x B M W N bb az be a8 bf zO (λk hk=>by rw[<-aa];exact jY zO) bm) ?_;rintro e a3 U hp;cases e with
  |normal=>obtain⟨R,ae⟩:=hp;obtain⟨hr,X,af,ac,hR⟩:=aj none U R;exact⟨_,_,hr,.inl ⟨rfl,⟨hI.put _ ae X rfl zO,af,ac,ag,ao,λk hk=>by have:=az k hk;have:=hR.size;omega⟩,hR⟩⟩
  |ret=>obtain⟨R,ae⟩:=hp;obtain⟨hr,X,af,ac,hR⟩:=aj (some .ret) U R;exact⟨_,_,hr,.inr ⟨rfl,⟨.ret,(ah _).put _ ae X rfl zO,af,ac,ag,ao⟩,hR⟩⟩
  |exit id=>obtain⟨R,ae⟩:=hp;obtain⟨hr,X,af,ac,hR⟩:=aj (some (.exit id)) U R;exact⟨_,_,hr,.inr ⟨rfl,⟨.exit id,(ah _).put _ ae X rfl zO,af,ac,ag,ao⟩,hR⟩⟩
  |goto t=>exact hp.elim
  |panic ch=>exact hp.elim
  |outgrown=>exact hp.elim
section
attribute [local go_sem] Oper.semAt_some
inductive yF(B:Nat):List Deferred->aS->Prop
 |nil (W:aS):yF B [] W
 |cons (D:Nat) (ds:List Deferred) (W:aS) (h:W.heap[D]?=some (aM (some []))) (hD:B<=D) (hr:yF B ds W) (hn:∀d∈ds,d.target≠.collected D):yF B ({target:=.collected D,args:=#[]}::ds) W
theorem yF.on:∀{e:List Deferred},yF B e W->(∀D o,B<=D->W.heap[D]?=some o->o.isCells=false->(∃d∈e,d.target=.collected D)->f.heap[D]?=some o)->yF B e f
 |[],_,_=>.nil _
 |_::_,.cons D e _ h hD hr hn,hk=>.cons D e _ (hk D _ hD h rfl ⟨_,List.mem_cons_self ..,rfl⟩) hD (hr.on λD o g i j k=>hk D o g i j (by obtain⟨d,m,n⟩:=k;exact⟨d,List.mem_cons_of_mem _ m,n⟩)) hn
theorem yF.lt:∀{e:List Deferred},yF B e W->∀d∈e,∀D,d.target=.collected D->D<W
 |_::_,.cons D e _ h hD hr hn,d,hd,D',hD'=>by
  obtain rfl|hd:=List.mem_cons.1 hd
  .cases hD';exact(Array.getElem?_eq_some_iff.1 h).1
  .exact hr.lt d hd D' hD'
theorem vS{F:Fence}{P:bB}{fn:Func}{g:Array aT}(K:aS->Prop)(hK:∀W D,K W->B<=D->W.heap[D]?=some (aM (some []))->K (W.putObj D (aM none)))
  (f:∀W,K W->LeavesInM F n P fn g R [] .returning W):∀(e:List Deferred)(W:aS),yF B e W->K W->LeavesInM F n P fn g R e .returning W
 |[],W,_,h=>f W h
 |_::_,W,.cons D e _ h hD hr hn,hk=>⟨zS,.inl ⟨D,_,rfl,run_takeDeferred h,vS K hK f e _ (hr.on λm o q i r⟨d,j,k⟩=>(World.putObj_heap_other (by rintro rfl;exact hn d j k)).trans i) (hK W D hk hD h)⟩⟩
theorem aCH(D:Option Addr)(m c:Nat)(q:Int)(J:Option Addr)(B co:Nat)(w:aS):qK 328 #[aA D m c,qI q,aA J B co] w λe w'=>e=aO (aD (.func 353) #[] #[qP ((w:Nat)+1) 0,qP ((w:Nat)+2) 0,qP w 0])/\((w.alloc (aK #[aA D m c] 23)).alloc (aK #[qI q] 3)).alloc (aK #[aA J B co] 22)=w':=by go_enter func328,ntmps328;go_wp2;go_ret;exact⟨rfl,rfl⟩
def aIG(d:Nat)(x:Nat×List Int)(e:Array aT)(W:aS):Prop:=∃a c,e=#[aC aP x.1,aA a x.2.length c]/\eS kI W a x.2/\∀ad,a=some ad->x.2≠[]->d<=ad.block
theorem zE{α β:Type}(g:α->β):∀L:List α,(L.map λx=>[g x]).flatten=L.map g
 |[]=>rfl
 |x::r=>by rw[bZ,List.flatten_cons,zE g r];rfl
theorem wU{w:aS}{p:Addr}(h:w.cell? p=some v):∃o,w.heap[p.block]?=some o/\o.isCells=true:=by
 unfold bH at h;split at h
 .next o ho=>exact⟨_,ho,rfl⟩
 .cases h
theorem fD.ints(g:fD B W d)(h:eS kI W a L):eS kI d a L:=by
 obtain h|⟨b,off,rfl,hlt,h⟩:=h
 .exact .inl h
 .refine .inr ⟨b,off,rfl,gV hlt g.size,λi x m=>?_⟩;obtain⟨r,q,k⟩:=h i x m;refine⟨r,q,λj v n=>?_⟩;have:=k j v n;obtain⟨o,e,f⟩:=wU this;rw[<-this];exact lA (w:=W) (a:=(b,off+i*kI.k+j)) ((g.same b o e (.inr f)).trans e.symm)
theorem MZ(k:Option Addr)(c:Nat)(L:List Int)(w:aS)(h:eS kI w k L)(hm:L.length<=1000):
  qK 263 #[aA k L.length c] w λe w'=>∃v,e=aO v/\eD kI 3 w w' v L/\Bl w w':=by
 obtain rfl|⟨b,off,rfl,hlt,h⟩:=h
 .cases k with
  |none=>exact(slices_Clone_int_nil 0 c w).mono λe w'⟨f,d⟩=>by subst d;exact⟨_,f,eD.nil _ _ _ _,iL _ _⟩
  |some a=>exact(slices_Clone_int_zero a c w).mono λe w'⟨v,f,d,_,g⟩=>⟨v,f,⟨[],Enc.nil _ _,d⟩,g⟩
 .refine(slices_Clone_int b off L.length c L w (eX _) zO (λj m=>?_)).mono λe w'⟨v,f,d,_,g⟩=>⟨v,f,?_,g⟩
  .obtain⟨u,r,n⟩:=h j L[j] (lJ m);have s:u=[qI L[j]]:=r;subst s;have:=eG.one.1 n;rw[show j*kI.k=j from Nat.mul_one j]at this;rw[this];simp[m]
  .rw[List.take_length]at d;refine⟨L.map λx=>[qI x],?_,?_⟩
   .refine⟨zS,λi x q=>⟨[qI x],by simp[q],rfl⟩⟩
   .rw[zE];exact d
end
end Go.Proofs.YtgmjilingndloaaGreatDoor
