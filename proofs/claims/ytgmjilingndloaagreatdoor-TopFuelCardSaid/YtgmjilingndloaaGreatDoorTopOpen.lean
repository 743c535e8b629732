/- A program, and lists of tests, as parameters. No conditions. -/
import Derived.Test.YtgmjilingndloaaGreatDoorZ17
import Derived.Deep.SlicePairs
import Derived.ProofKit
import Derived.Lib.SmallJoins
namespace Go.Proofs.YtgmjilingndloaaGreatDoor
set_option linter.unusedVariables false
set_option maxRecDepth 100000
open Go Go.RowKit Go.ChangeShapes Go.WideShapes Go.Deep Go.Joins
theorem r_i64{n:Int}(h:(Lit.int .i64 n).wf=true):kS n:=by simpa[Lit.wf,IntKind.min,IntKind.max,IntKind.signed,IntKind.bits,kS]using h
theorem at_fun{α:Type}{R:World->Addr->α->Prop}{w:World}{x:Addr}{len k:Nat}{F:Nat->α}(hF:∀i,i<len->∃v,w.cell? (x.add (i*k))=some v):
  (List.range len).map F=[]\/∃b off,x=⟨b,off,none⟩/\b<w.heap.size/\∀i y,((List.range len).map F)[i]?=some y->i<len/\y=F i:=by
 by_cases h0:len=0
 .exact .inl (by subst h0;rfl)
 .right;obtain⟨b,off,spot⟩:=x;obtain⟨v,h00⟩:=hF 0 (by omega);rw[Nat.zero_mul]at h00;have hs:spot=none:=World.cell?_spot h00;subst hs;refine⟨b,off,rfl,World.block_lt_of_cell? w _ h00,λi y hi=>?_⟩;have hil:=(List.getElem?_eq_some_iff.1 hi).1;rw[List.length_map,List.length_range]at hil;rw[List.getElem?_map,List.getElem?_range hil]at hi;simp only[Option.map_some,Option.some.injEq]at hi;exact⟨hil,hi.symm⟩
section
variable {H : Type} {enc : TypeId × Value → H} {w : World} {base : Nat} {spare : Nat → Bool} {held : Bool}
theorem open_nums{fuel:Nat}{v:Value}{x:DataW H×List MemPlace}(h:DataW.trod enc Tryz.prog w base spare held fuel 22 [v]=some x):
  ∃(a:Option Addr)(c:Nat)(l:List Int),v=.slice a l.length c/\eS kI w a l/\l.length<=c/\c<=maxLen/\∀x∈l,kS x:=by
 obtain⟨hcs,_⟩|⟨a,len,cap,m,n,V,D,Pl,hcs,_,hl,hm,hmm,_,hi⟩:=open_slice1 Tryz.underlying22 (by kernel_rfl) h
 .simp only[List.cons.injEq,and_true]at hcs;exact⟨none,0,[],hcs,.inl rfl,by decide,by decide,λx hx=>by cases hx⟩
 .simp only[List.cons.injEq,and_true]at hcs;have hlm:len<=m:=by rw[hmm];split<;>omega
  have hM:∀i,∃k:Int,i<len->w.cell? (a.add i)=some (.int .i64 k)/\kS k:=by
   intro i;by_cases hlt:i<len
   .obtain⟨h1,h2⟩:=hi i (by omega);obtain⟨k,e0,_,w0⟩:=DataW.trod_int Tryz.underlying3 h2;simp only[List.cons.injEq,and_true]at e0;rw[e0]at h1;exact⟨k,λ_=>⟨h1,r_i64 w0⟩⟩
   .exact⟨0,λh=>absurd h hlt⟩
  obtain⟨F,hF⟩:=Classical.axiomOfChoice hM;have hlen:((List.range len).map F).length=len:=by simp
  refine⟨some a,cap,(List.range len).map F,by rw[hlen];exact hcs,?_,by rw[hlen];exact hl,hm,λy hy=>?_⟩
  .obtain h|⟨b,off,rfl,hb,h⟩:=at_fun (R:=λ_ _ _=>True) (k:=1) (F:=F) (λi hi=>⟨_,by rw[Nat.mul_one];exact(hF i hi).1⟩)
   .exact .inl h
   .refine .inr ⟨b,off,rfl,hb,λi y hy=>?_⟩;obtain⟨hi,rfl⟩:=h i y hy;refine⟨_,rfl,λj v hj=>?_⟩;obtain rfl:j=0:=by have:=(List.getElem?_eq_some_iff.1 hj).1;simpa using this
    simp at hj;subst hj;have:=(hF i hi).1;rw[kJ]at this;rw[show off+i*kI.k+0=off+i by show off+i*1+0=off+i;omega];exact this
  .obtain⟨j,hj,rfl⟩:=List.mem_map.1 hy;exact(hF j (List.mem_range.1 hj)).2
theorem open_nodes{fuel:Nat}{v:Value}{x:DataW H×List MemPlace}(h:DataW.trod enc Tryz.prog w base spare held fuel 23 [v]=some x):
  ∃(a:Option Addr)(c:Nat)(l:List Nd),v=.slice a l.length c/\eP w a l/\l.length<=c/\c<=maxLen/\∀x∈l,kS x.2:=by
 obtain⟨hcs,_⟩|⟨a,len,cap,m,n,V0,V1,D0,D1,P0,P1,hcs,_,hl,hm,hmm,_,hi⟩:=open_slice_pairs Tryz.underlying23 Tryz.underlying54 (by kernel_rfl) rfl rfl (by kernel_rfl) (by kernel_rfl) h
 .simp only[List.cons.injEq,and_true]at hcs;exact⟨none,0,[],hcs,.inl rfl,by decide,by decide,λx hx=>by cases hx⟩
 .simp only[List.cons.injEq,and_true]at hcs;have hlm:len<=m:=by rw[hmm];split<;>omega
  have hM:∀i,∃k:Nd,i<len->w.cell? (a.add (i*2))=some (.int .i64 k.1)/\w.cell? (a.add (i*2+1))=some (.int .i64 k.2)/\kS k.2:=by
   intro i;by_cases hlt:i<len
   .obtain⟨h1,h2,h3,h4⟩:=hi i (by omega);obtain⟨k,e0,_,w0⟩:=DataW.trod_int Tryz.underlying3 h3;obtain⟨k',e1,_,w1⟩:=DataW.trod_int Tryz.underlying3 h4;simp only[List.cons.injEq,and_true]at e0 e1;rw[e0]at h1;rw[e1]at h2;exact⟨(k,k'),λ_=>⟨h1,h2,r_i64 w1⟩⟩
   .exact⟨(0,0),λh=>absurd h hlt⟩
  obtain⟨F,hF⟩:=Classical.axiomOfChoice hM;have hlen:((List.range len).map F).length=len:=by simp
  refine⟨some a,cap,(List.range len).map F,by rw[hlen];exact hcs,?_,by rw[hlen];exact hl,hm,λy hy=>?_⟩
  .obtain h|⟨b,off,rfl,hb,h⟩:=at_fun (R:=λ_ _ _=>True) (k:=2) (F:=F) (λi hi=>⟨_,(hF i hi).1⟩)
   .exact .inl h
   .refine .inr ⟨b,off,rfl,hb,λi y hy=>?_⟩;obtain⟨hi,rfl⟩:=h i y hy;have h1:=(hF i hi).1;have h2:=(hF i hi).2.1;rw[kJ]at h1 h2;exact⟨h1,by rw[Nat.add_assoc];exact h2⟩
  .obtain⟨j,hj,rfl⟩:=List.mem_map.1 hy;exact(hF j (List.mem_range.1 hj)).2.2
theorem open_rows{fuel:Nat}{v:Value}{x:DataW H×List MemPlace}(h:DataW.trod enc Tryz.prog w base spare held fuel 26 [v]=some x):
  ∃(a:Option Addr)(c:Nat)(L:List (List Int)),v=.slice a L.length c/\gG w a L/\L.length<=maxLen/\∀l∈L,∀x∈l,kS x:=by
 obtain⟨hcs,_⟩|⟨a,len,cap,m,n,V,D,Pl,hcs,_,hl,hm,hmm,_,hi⟩:=open_slice1 Tryz.underlying26 (by kernel_rfl) h
 .simp only[List.cons.injEq,and_true]at hcs;exact⟨none,0,[],hcs,.inl rfl,by decide,λx hx=>by cases hx⟩
 .simp only[List.cons.injEq,and_true]at hcs;have hlm:len<=m:=by rw[hmm];split<;>omega
  have hM:∀i,∃q:Option Addr×Nat×List Int,i<len->w.cell? (a.add i)=some (.slice q.1 q.2.2.length q.2.1)/\oB w q.1 q.2.2/\∀y∈q.2.2,kS y:=by
   intro i;by_cases hlt:i<len
   .obtain⟨h1,h2⟩:=hi i (by omega);obtain⟨a',c',l,e0,hI,_,_,h64⟩:=open_nums h2;rw[e0]at h1;exact⟨(a',c',l),λ_=>⟨h1,PH hI,h64⟩⟩
   .exact⟨(none,0,[]),λh=>absurd h hlt⟩
  obtain⟨F,hF⟩:=Classical.axiomOfChoice hM;have hlen:((List.range len).map λi=>(F i).2.2).length=len:=by simp
  refine⟨some a,cap,(List.range len).map λi=>(F i).2.2,by rw[hlen];exact hcs,?_,by rw[hlen];omega,λy hy=>?_⟩
  .obtain h|⟨b,off,rfl,hb,h⟩:=at_fun (R:=λ_ _ _=>True) (k:=1) (F:=λi=>(F i).2.2) (λi hi=>⟨_,by rw[Nat.mul_one];exact(hF i hi).1⟩)
   .exact .inl h
   .refine .inr ⟨b,off,rfl,hb,λi y hy=>?_⟩;obtain⟨hi,rfl⟩:=h i y hy;have:=(hF i hi).1;rw[kJ]at this;exact⟨_,_,this,(hF i hi).2.1⟩
  .obtain⟨j,hj,rfl⟩:=List.mem_map.1 hy;exact(hF j (List.mem_range.1 hj)).2.2
end
section
variable {H : Type} {enc : TypeId × Value → H}
theorem open_pg{W:World}{v:Value}{d:DataW H}{p:List MemPlace}{b0:Nat}{r:Reach}(hv:Value.okWide Tryz.prog W r b0 25 v)(h:DataW.Trod enc Tryz.prog W 0 (λ_=>true) true 25 v d p):
  ∃(q:Pg)(va ba:Option Addr)(vc bc:Nat),v=kE va ba vc bc q/\(iE W va ba vc bc q/\P64 q):=by obtain⟨c0,c1,c2,y0,y1,y2,m,rfl,hd,hp,u0,u1,u2⟩:=open_agg3 Tryz.underlying25 (by kernel_rfl) (show Tryz.prog.cellsOf 25=3 by kernel_rfl) hv h;obtain⟨x0,e0,_,w0⟩:=DataW.trod_int Tryz.underlying3 u0;simp only[List.cons.injEq,and_true]at e0;subst e0;obtain⟨va,vc,vs,rfl,h1,h2,h3,_⟩:=open_nums u1;obtain⟨ba,bc,bd,rfl,h4,h5,h6,h7⟩:=open_nodes u2;exact⟨⟨x0,vs,bd⟩,va,ba,vc,bc,rfl,⟨h1,h4,h2,h3,h5,h6⟩,h7⟩
theorem open_tests{W:World}{v:Value}{d:DataW H}{p:List MemPlace}{b0:Nat}{r:Reach}(hv:Value.okWide Tryz.prog W r b0 26 v)(h:DataW.Trod enc Tryz.prog W 0 (λ_=>true) true 26 v d p):
  ∃(T:List (List Int))(ta:Option Addr)(tc:Nat),v=.slice ta T.length tc/\(gG W ta T/\T.length<=maxLen/\∀l∈T,∀x∈l,kS x):=by obtain⟨a,len,cap,rfl⟩:=okWide_slice Tryz.underlying26 hv;obtain⟨fuel,hf⟩:=h;obtain⟨a',c,L,e,h1⟩:=open_rows (v:=.slice a len cap) hf;exact⟨L,a',c,e,h1⟩
end
end Go.Proofs.YtgmjilingndloaaGreatDoor
