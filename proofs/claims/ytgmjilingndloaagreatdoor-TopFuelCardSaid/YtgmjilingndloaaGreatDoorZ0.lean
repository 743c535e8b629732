/- Part 0 of the proof of TopFuel. No conditions. -/
import Derived.Deep.QuietTactic
import Derived.Handy
import Derived.Lib.Hide
import Derived.Lib.SlicesCompact
import Derived.LoopIn
import Derived.LoopNIn
import Derived.OrdersHeld
import Derived.OwnWalkIn
import Derived.RangeFuncBound
import Derived.RangeFuncNested
import Derived.Shelf.Abstract
import Derived.TacticsInMore
import Derived.Test.YtgmjilingndloaaGreatDoorRows
open Array renaming getElem?_eq_none->dG,replicate->bQ
open Go renaming Program->bB,TypeId->aX,Value->aT,World->aS,cell_of_row->aU,undef->aY
open Go.Ending renaming returned->aO
open Go.IntKind renaming i64->aP
open Go.Obj renaming cells->aK,deferred->aM,loop->aN
open Go.Region renaming wanted->bT
open Go.RowKit renaming Below->aV
open List renaming getElem?_cons_succ->cH,getElem?_cons_zero->dD,getElem?_eq_none_iff->dN,mem_map->cG,range->dH,replicate->bJ
open Nat renaming le_of_lt->cY,le_refl->bF,lt_or_ge->cM
open Option renaming map_some->cI,some->dL
namespace Go.Proofs.YtgmjilingndloaaGreatDoor
set_option linter.unusedVariables false
set_option linter.unusedSimpArgs false
set_option maxRecDepth 100000
set_option maxHeartbeats 20000000
open Go Go.RowKit Go.Proofs.Tryz
variable{F G:Int}{k e i j n m id B:Nat}{v:aT}{d args:List Int}{f:FuncId}{u:aS}{r:Array Bool}{N M:Oper}
instance:Coe Int aT:=⟨.int aP⟩
instance:Coe aS Nat:=⟨λw=>w.heap.size⟩
instance:Coe ByteArray aT:=⟨.string⟩
instance:Coe Bool aT:=⟨.bool⟩
abbrev Bl(a b:aS):Prop:=aV a.heap.size a b
abbrev Rt(v:aT)(w:aS)(e:Ending)(w':aS):Prop:=e=aO v/\aV w.heap.size w w'
theorem IZ(fn:Fn)(first d:Array aT)(w:aS):(Instr.makeFunc fn first d).run Tryz.prog w=.ok (.func fn first d) w:=rfl
theorem tK{w:aS}{b:Nat}{d:Array aT}{t:aX}(h:w.heap[b]?=some (aK d t (0,0)))(j:Nat):w.frozen? ⟨b,j,none⟩=false:=Go.frozen_of_row w b j d t h
theorem eR{α:Sort _}(a:α):∃b,a=b:=⟨a,rfl⟩
theorem jX(w:aS):aV w.heap.size w w.drew:=⟨rfl,rfl,rfl,bF _,λ_ _=>rfl⟩
theorem aFm(w:aS):aV n w w.drew:=⟨rfl,rfl,rfl,bF _,λ_ _=>rfl⟩
theorem fL(w:aS)(o:Obj):aV w.heap.size w (w.alloc o):=(Below.refl _ w).alloc (bF _) o
section
variable {w V : aS} {o : Obj}
theorem aGW(y:w.alloc o=V):V.heap[w.heap.size]?=some o:=by rw[<-y];exact heap_alloc_new w o
theorem DX(y:w.alloc o=V):aV w.heap.size w V:=by rw[<-y];exact fL w o
theorem PC(y:w.alloc o=V):V.heap.size=w.heap.size+1:=by rw[<-y];exact World.size_alloc _ _
theorem aG0(y:w.alloc o=V):w.heap.size<V.heap.size:=by rw[PC y];omega
end
section
variable {a b c : aS}
theorem fC(h:aV a.heap.size a b)(k:aV b.heap.size b c):aV a.heap.size a c:=h.trans (k.mono h.size)
theorem mG(h:aV a.heap.size a b)(k:aV b.heap.size b c):Hid (aV a.heap.size a c):=Lib.hid (fC h k)
theorem pLt{p:Addr}(h:aV a.heap.size a b)(q:a.cell? p=some v):b.cell? p=some v:=(h.cell (World.block_lt_of_cell? a _ q)).trans q
theorem rU{p:Addr}(q:a.cell? p=some v):∀U,aV a.heap.size a U->U.cell? p=some v:=λ_ h=>pLt h q
theorem UL{P:bB}{d:Array aT}{Q:Ending->aS->Prop}(h:aV a.heap.size a b)(k:Calls P f d b λe w'=>e=aO v/\aV b.heap.size b w')(g:∀w',Hid (aV a.heap.size a w')->Q (aO v) w'):Calls P f d b Q:=
 k.mono λ_ _⟨i,j⟩=>by subst i;exact g _ (mG h j)
theorem aIi{P:bB}{d:Array aT}{Q:Ending->aS->Prop}(k:Calls P f d b λe w'=>e=aO v/\aV b.heap.size b w')(g:∀w',Hid (aV b.heap.size b w')->Q (aO v) w'):Calls P f d b Q:=
 k.mono λ_ _⟨h,i⟩=>by subst h;exact g _ i
end
section
variable {w : aS} {b : Nat} {x0 x1 x2 x3 x4 x5 x6 x7 x8 x9 xa xb : aT} {l : List aT} {t : aX} {z : Nat × Nat}
theorem nS(h:w.heap[b]?=some (aK ⟨x0::l⟩ t z)):w.cell? ⟨b,0,none⟩=some x0:=aU w _ _ _ _ _ h
theorem rI(h:w.heap[b]?=some (aK ⟨x0::x1::l⟩ t z)):w.cell? ⟨b,1,none⟩=some x1:=aU w _ _ _ _ _ h
theorem uI(h:w.heap[b]?=some (aK ⟨x0::x1::x2::l⟩ t z)):w.cell? ⟨b,2,none⟩=some x2:=aU w _ _ _ _ _ h
theorem uG(h:w.heap[b]?=some (aK ⟨x0::x1::x2::x3::l⟩ t z)):w.cell? ⟨b,3,none⟩=some x3:=aU w _ _ _ _ _ h
theorem E0(h:w.heap[b]?=some (aK ⟨x0::x1::x2::x3::x4::l⟩ t z)):w.cell? ⟨b,4,none⟩=some x4:=aU w _ _ _ _ _ h
theorem F7(h:w.heap[b]?=some (aK ⟨x0::x1::x2::x3::x4::x5::l⟩ t z)):w.cell? ⟨b,5,none⟩=some x5:=aU w _ _ _ _ _ h
theorem L4(h:w.heap[b]?=some (aK ⟨x0::x1::x2::x3::x4::x5::x6::l⟩ t z)):w.cell? ⟨b,6,none⟩=some x6:=aU w _ _ _ _ _ h
theorem LI(h:w.heap[b]?=some (aK ⟨x0::x1::x2::x3::x4::x5::x6::x7::l⟩ t z)):w.cell? ⟨b,7,none⟩=some x7:=aU w _ _ _ _ _ h
theorem pE8(h:w.heap[b]?=some (aK ⟨x0::x1::x2::x3::x4::x5::x6::x7::x8::l⟩ t z)):w.cell? ⟨b,8,none⟩=some x8:=aU w _ _ _ _ _ h
theorem pE9(h:w.heap[b]?=some (aK ⟨x0::x1::x2::x3::x4::x5::x6::x7::x8::x9::l⟩ t z)):w.cell? ⟨b,9,none⟩=some x9:=aU w _ _ _ _ _ h
theorem aDU(h:w.heap[b]?=some (aK ⟨x0::x1::x2::x3::x4::x5::x6::x7::x8::x9::xa::l⟩ t z)):w.cell? ⟨b,10,none⟩=some xa:=aU w _ _ _ _ _ h
theorem aBw(h:w.heap[b]?=some (aK ⟨x0::x1::x2::x3::x4::x5::x6::x7::x8::x9::xa::xb::l⟩ t z)):w.cell? ⟨b,11,none⟩=some xb:=aU w _ _ _ _ _ h
theorem pQ2(h:w.heap[b]?=some (aK ⟨x0::x1::l⟩ t z)):w.cell? ⟨b,0,none⟩=some x0/\w.cell? ⟨b,1,none⟩=some x1:=⟨nS h,rI h⟩
theorem pX(h:w.heap[b]?=some (aK ⟨x0::x1::x2::l⟩ t z)):w.cell? ⟨b,0,none⟩=some x0/\w.cell? ⟨b,1,none⟩=some x1/\w.cell? ⟨b,2,none⟩=some x2:=⟨nS h,rI h,uI h⟩
theorem pQ4(h:w.heap[b]?=some (aK ⟨x0::x1::x2::x3::l⟩ t z)):w.cell? ⟨b,0,none⟩=some x0/\w.cell? ⟨b,1,none⟩=some x1/\w.cell? ⟨b,2,none⟩=some x2/\w.cell? ⟨b,3,none⟩=some x3:=⟨nS h,rI h,uI h,uG h⟩
theorem pQ5(h:w.heap[b]?=some (aK ⟨x0::x1::x2::x3::x4::l⟩ t z)):w.cell? ⟨b,0,none⟩=some x0/\w.cell? ⟨b,1,none⟩=some x1/\w.cell? ⟨b,2,none⟩=some x2/\w.cell? ⟨b,3,none⟩=some x3/\w.cell? ⟨b,4,none⟩=some x4:=⟨nS h,rI h,uI h,uG h,E0 h⟩
theorem pQ6(h:w.heap[b]?=some (aK ⟨x0::x1::x2::x3::x4::x5::l⟩ t z)):w.cell? ⟨b,0,none⟩=some x0/\w.cell? ⟨b,1,none⟩=some x1/\w.cell? ⟨b,2,none⟩=some x2/\w.cell? ⟨b,3,none⟩=some x3/\w.cell? ⟨b,4,none⟩=some x4/\w.cell? ⟨b,5,none⟩=some x5:=⟨nS h,rI h,uI h,uG h,E0 h,F7 h⟩
theorem pQ7(h:w.heap[b]?=some (aK ⟨x0::x1::x2::x3::x4::x5::x6::l⟩ t z)):w.cell? ⟨b,0,none⟩=some x0/\w.cell? ⟨b,1,none⟩=some x1/\w.cell? ⟨b,2,none⟩=some x2/\w.cell? ⟨b,3,none⟩=some x3/\w.cell? ⟨b,4,none⟩=some x4/\w.cell? ⟨b,5,none⟩=some x5/\w.cell? ⟨b,6,none⟩=some x6:=⟨nS h,rI h,uI h,uG h,E0 h,F7 h,L4 h⟩
theorem pQ8(h:w.heap[b]?=some (aK ⟨x0::x1::x2::x3::x4::x5::x6::x7::l⟩ t z)):w.cell? ⟨b,0,none⟩=some x0/\w.cell? ⟨b,1,none⟩=some x1/\w.cell? ⟨b,2,none⟩=some x2/\w.cell? ⟨b,3,none⟩=some x3/\w.cell? ⟨b,4,none⟩=some x4/\w.cell? ⟨b,5,none⟩=some x5/\w.cell? ⟨b,6,none⟩=some x6/\w.cell? ⟨b,7,none⟩=some x7:=⟨nS h,rI h,uI h,uG h,E0 h,F7 h,L4 h,LI h⟩
theorem pQ9(h:w.heap[b]?=some (aK ⟨x0::x1::x2::x3::x4::x5::x6::x7::x8::l⟩ t z)):w.cell? ⟨b,0,none⟩=some x0/\w.cell? ⟨b,1,none⟩=some x1/\w.cell? ⟨b,2,none⟩=some x2/\w.cell? ⟨b,3,none⟩=some x3/\w.cell? ⟨b,4,none⟩=some x4/\w.cell? ⟨b,5,none⟩=some x5/\w.cell? ⟨b,6,none⟩=some x6/\w.cell? ⟨b,7,none⟩=some x7/\w.cell? ⟨b,8,none⟩=some x8:=⟨nS h,rI h,uI h,uG h,E0 h,F7 h,L4 h,LI h,pE8 h⟩
theorem aI4(h:w.heap[b]?=some (aK ⟨x0::x1::x2::x3::x4::x5::x6::x7::x8::x9::xa::l⟩ t z)):w.cell? ⟨b,0,none⟩=some x0/\w.cell? ⟨b,1,none⟩=some x1/\w.cell? ⟨b,2,none⟩=some x2/\w.cell? ⟨b,3,none⟩=some x3/\w.cell? ⟨b,4,none⟩=some x4/\w.cell? ⟨b,5,none⟩=some x5/\w.cell? ⟨b,6,none⟩=some x6/\w.cell? ⟨b,7,none⟩=some x7/\w.cell? ⟨b,8,none⟩=some x8/\w.cell? ⟨b,9,none⟩=some x9/\w.cell? ⟨b,10,none⟩=some xa:=⟨nS h,rI h,uI h,uG h,E0 h,F7 h,L4 h,LI h,pE8 h,pE9 h,aDU h⟩
theorem aKw(h:w.heap[b]?=some (aK ⟨x0::x1::x2::x3::x4::x5::x6::x7::x8::x9::xa::xb::l⟩ t z)):w.cell? ⟨b,0,none⟩=some x0/\w.cell? ⟨b,1,none⟩=some x1/\w.cell? ⟨b,2,none⟩=some x2/\w.cell? ⟨b,3,none⟩=some x3/\w.cell? ⟨b,4,none⟩=some x4/\w.cell? ⟨b,5,none⟩=some x5/\w.cell? ⟨b,6,none⟩=some x6/\w.cell? ⟨b,7,none⟩=some x7/\w.cell? ⟨b,8,none⟩=some x8/\w.cell? ⟨b,9,none⟩=some x9/\w.cell? ⟨b,10,none⟩=some xa/\w.cell? ⟨b,11,none⟩=some xb:=⟨nS h,rI h,uI h,uG h,E0 h,F7 h,L4 h,LI h,pE8 h,pE9 h,aDU h,aBw h⟩
end
abbrev eC:=@Go.Lib.hid
abbrev kG:=@Go.cell_of_row
abbrev fB:=@Array.getElem?_eq_some_iff
abbrev eX:=@Nat.le_refl
abbrev g8:=@Go.frozen_of_row
abbrev iL:=@Go.RowKit.Below.refl
abbrev iB:=@Go.heap_setCell_same
abbrev xq7:=@List.setIfInBounds_toArray
abbrev iR:=@List.length_append
abbrev lJ:=@List.getElem?_eq_getElem
abbrev fG:=@Go.heap_alloc_new
abbrev eE:=@if_neg
abbrev fO:=@Go.World.size_alloc
abbrev gX:=@List.getElem?_eq_some_iff
abbrev aB4:=@List.getElem_cons_zero
abbrev aFK:=@List.set_cons_succ
abbrev aEi:=@List.getElem_cons_succ
abbrev aIA:=@List.set_cons_zero
abbrev aJ2:=@List.getElem_toArray
abbrev iW:=@List.length_cons
abbrev fA:=@Nat.le_trans
abbrev gV:=@Nat.lt_of_lt_of_le
abbrev iG:=@List.mem_of_getElem?
abbrev eI:=@if_pos
abbrev jY:=@Go.World.putObj_heap_other
abbrev iA:=@Go.IntKind.wrap_i64
abbrev iI:=@Go.RowKit.Below.heap_alloc
abbrev lA:=@Go.World.cell?_of_block
abbrev hH:=@Go.callsIn_wide
abbrev jH:=@List.append_assoc
abbrev jR:=@List.length_take
abbrev gO:=@Go.bodyPost_ret
abbrev rP:=@List.length_nil
abbrev rO:=@List.cons_append
abbrev nH:=@List.take_of_length_le
abbrev oF:=@Go.World.block_lt_of_cell?
abbrev uS:=@List.nil_append
abbrev iU:=@Go.results_none
abbrev q9:=@Go.World.cell?_setCell_other
abbrev VA:=@Array.replicate_zero
abbrev XO:=@Array.replicate_succ
abbrev qJ:=@Int.eq_ofNat_of_zero_le
abbrev WO:=@List.append_toArray
abbrev kQ:=@Nat.zero_add
abbrev PO:=@List.size_toArray
abbrev tL:=@List.drop_eq_getElem_cons
abbrev XZ:=@List.push_toArray
abbrev kU:=@Nat.zero_le
abbrev oY:=@List.getElem?_map
abbrev rD:=@List.mem_singleton
abbrev pU:=@Go.RowKit.Below.heap_setCell
abbrev vT:=@List.getD_eq_getElem?_getD
abbrev rN:=@List.length_map
abbrev aKO:=@Go.AllReady.cons
abbrev aBg:=@Go.World.size_setCell
abbrev BU:=@Option.some.injEq
abbrev CQ:=@List.getElem?_append_right
abbrev xI:=@Go.callsIn_of_wp_marks
abbrev xH:=@List.take_append_drop
abbrev sB:=@List.length_drop
abbrev sU:=@Go.IntKind.wrap_u64
abbrev BP:=@List.mem_cons_of_mem
abbrev AS:=@List.getElem?_eq_none
abbrev FU:=@List.getElem?_append_left
abbrev aKF:=@Go.AllReady.nil
abbrev DZ:=@List.mem_cons_self
abbrev xC:=@Int.toNat_natCast
abbrev DA:=@List.length_replicate
abbrev xD:=@List.mem_cons
abbrev wM:=@List.mem_append
abbrev G1:=@Go.World.putObj_heap_same
abbrev l8:=@Go.Proofs.enters_of
abbrev oI:=@Go.Boxed.new
abbrev aKo:=@Go.wpAny_ready
abbrev E9:=@Go.World.alloc_heap_new
abbrev TN:=@List.take_succ_eq_append_getElem
abbrev EP:=@Go.results_cell_row
abbrev uW:=@decide_eq_true
abbrev sA:=@Nat.le_succ
abbrev AX:=@decide_eq_true_eq
abbrev EL:=@List.append_nil
abbrev uU:=@Nat.le_of_eq
abbrev E6:=@Go.run_takeDeferred
abbrev BV:=@Bool.and_eq_true
abbrev BK:=@Go.World.ownsRow.lt
abbrev F4:=@List.take_add_one
abbrev LV:=@List.length_singleton
abbrev BQ:=@decide_eq_false
abbrev L3:=@List.flatten_cons
abbrev LZ:=@ByteArray.size_extract
abbrev pV:=@Go.Boxed.lt
abbrev yZ:=@Nat.add_zero
abbrev JE:=@Go.Calls.quiet_of_same
abbrev DO:=@List.map_append
abbrev xA:=@Go.Boxed.cell
abbrev IR:=@List.all_eq_true
abbrev aIJ:=@List.getElem?_cons_zero
abbrev P7:=@Go.leaves_cons
abbrev SZ:=@Array.getElem?_eq_getElem
abbrev OP:=@Option.map_eq_some_iff
abbrev D5:=@List.drop_eq_nil_of_le
abbrev GU:=@Go.World.cell?_setCell_same
theorem pN{α:Type}:(∀(l:List α),l.toArray.size=l.length)/\(∀(n:Nat)(a:α),bQ (n+1) a=(bQ n a).push a)/\(∀(a:α),bQ 0 a=#[])/\(∀(l:List α)a,l.toArray.push a=(l++[a]).toArray)/\(∀(l m:List α),l.toArray++m.toArray=(l++m).toArray)/\(∀l:List α,[]++l=l)/\(∀a(l m:List α),(a::l)++m=a::(l++m))/\(∀(a:α)l,(a::l).length=l.length+1)/\([]:List α).length=0:=
 ⟨by simp,by intro n a;exact Array.replicate_succ ..,by simp,by simp,by simp,by simp,by simp,by simp,rfl⟩
instance(b o:Nat):CoeDep (Nat×Nat) (b,o) Addr:=⟨⟨b,o,none⟩⟩
instance(w:aS)(o:Nat):CoeDep (aS×Nat) (w,o) Addr:=⟨⟨w.heap.size,o,none⟩⟩
instance(b o:Nat):CoeDep (Nat×Nat) (b,o) aT:=⟨.pointer (some ⟨b,o,none⟩)⟩
instance(w:aS)(o:Nat):CoeDep (aS×Nat) (w,o) aT:=⟨.pointer (some ⟨w.heap.size,o,none⟩)⟩
structure AP where
 b:Nat
 o:Nat
structure M5 where
def qP:M5:=⟨⟩
instance:CoeFun M5 λ_=>Nat->Nat->AP:=⟨λ_=>AP.mk⟩
instance(b o:Nat):CoeDep AP (AP.mk b o) Addr:=⟨⟨b,o,none⟩⟩
instance(b o:Nat):CoeDep AP (AP.mk b o) aT:=⟨.pointer (some ⟨b,o,none⟩)⟩
structure M1 where
structure M2 where
structure M3 where
def qI:M1:=⟨⟩
def qN:M2:=⟨⟩
def qK:M3:=⟨⟩
instance:CoeFun M1 λ_=>Int->aT:=⟨λ_=>.int aP⟩
instance:Coe M2 aT:=⟨λ_=>.slice none 0 0⟩
instance:CoeFun M3 λ_=>FuncId->Array aT->aS->(Ending->aS->Prop)->Prop:=⟨λ_=>Calls Tryz.prog⟩
structure M4 where
def qS:M4:=⟨⟩
instance:CoeFun M4 λ_=>aS->Addr->aT->aS:=⟨λ_=>World.setCell⟩
abbrev qC(w:aS)(b o:Nat)(v:aT):Prop:=w.cell? ⟨b,o,none⟩=some v
abbrev qF(w:aS)(b o:Nat):Prop:=w.frozen? ⟨b,o,none⟩=false
abbrev qB(w:aS)(b:Nat)(c:Array aT)(t:aX):Prop:=w.heap[b]?=some (aK c t (0,0))
section
variable {p : Prop}
theorem zO(h:p:=by omega):p:=h
theorem zK(h:p:=by kernel_rfl):p:=h
theorem zD(h:p:=by decide):p:=h
theorem zS(h:p:=by simp):p:=h
theorem zR(h:p:=by rfl):p:=h
theorem zT(h:p:=by simp;omega):p:=h
theorem zA(h:p:=by assumption):p:=h
theorem zG(h:p:=by first|assumption|go_grown):p:=h
theorem zH(h:p:=by go_grown):p:=h
theorem zW(h:p:=by with_reducible assumption):p:=h
end
theorem lB(w:aS)(o:Obj):∃V,w.alloc o=V/\aV w.heap.size w V/\V.heap[w.heap.size]?=some o/\V.heap.size=w.heap.size+1:=⟨_,rfl,DX rfl,aGW rfl,PC rfl⟩
theorem UY{α:Type}:(∀(l:List α)i a,l.toArray.setIfInBounds i a=(l.set i a).toArray)/\(∀(a b:α)l,(a::l).set 0 b=b::l)/\(∀(a b:α)l i,(a::l).set (i+1) b=a::l.set i b):=
 ⟨λ_ _ _=>List.setIfInBounds_toArray ..,λ_ _ _=>List.set_cons_zero ..,λ_ _ _ _=>List.set_cons_succ ..⟩
theorem pSj{P:bB}{c B:Code}{a:Act}{w:aS}{Q:Exit->Act->aS->Prop}(h:c.wp P (Exit.jump 0 (λ_ _=>False) Q) a w)(hf:findLabel c 0=some B:=by rfl):(Code.scope c).wp P Q a w:=
 wp_scope_jumps 0 (λ_ _=>False) (λ_ _=>0) hf h λ_ _ h=>h.elim
abbrev Nd:=Int×Int
def nN(x:Nd):Int×Int:=
 if x.1=2 then(1,0)else if x.1=3 then(11,0)else if x.1=4\/x.1=21 then(11,1)else if x.1=22 then(11,2)
 else if x.1=5\/x.1=6\/x.1=25 then(0,1)else if x.1=24 then(0,2)else if x.1=20 then(200,x.2)else if x.1=23 then(0,3)
 else if x.1=26 then(0,0)else if 7<=x.1/\x.1<=19 then(0,2)else(-1,-1)
def xG(x:Nd):Int:=if x.1=1 then 0 else if x.2<0\/(nN x).1<x.2 then-1 else(nN x).2
def KQ(x:Nd):Option Nat:=if xG x<0 then none else some (xG x).toNat
theorem aFY(x:Nd):(nN x).1<x.2\/x.2<0\/(-1<=(nN x).2/\(nN x).2<=200):=by
 unfold nN;repeat' split
 all_goals(dsimp only;omega)
theorem VQ(x:Nd):-1<=xG x/\xG x<=200:=by
 have:=aFY x;unfold xG;split
 .omega
 .split
  .omega
  .omega
theorem lX{x:Nd}{a:Nat}(h:KQ x=some a):xG x=a/\a<=200:=by
 unfold KQ at h;have:=VQ x;split at h
 .cases h
 .simp only[BU]at h;omega
def lC:List Nd->Nat->Option Nat
 |_,0=>some 0
 |[],_+1=>none
 |x::xs,k+1=>match KQ x with
  |none=>none
  |some a=>(lC xs (k+a)).map (·+1)
theorem LF:∀(l:List Nd)(k c:Nat),lC l k=some c->c<=l.length/\k<=c
 |_,0,c,h=>by simp only[lC,dL.injEq]at h;omega
 |[],k+1,c,h=>by simp[lC]at h
 |x::xs,k+1,c,h=>by
  simp only[lC]at h
  cases ha:KQ x with
  |none=>rw[ha]at h;cases h
  |some a=>
   rw[ha]at h
   simp only[Option.map_eq_some_iff]at h
   obtain⟨d,hd,rfl⟩:=h
   have:=LF xs (k+a) d hd
   simp only[iW]
   omega
theorem F8:∀(l:List Nd)(a b c:Nat),lC l (a+b)=some c->∃d,lC l a=some d/\d<=c/\lC (l.drop d) b=some (c-d)
 |l,0,b,c,h=>⟨0,by cases l<;>rfl,Nat.zero_le _,by simpa using h⟩
 |[],a+1,b,c,h=>by rw[Nat.add_right_comm]at h;simp[lC]at h
 |x::xs,a+1,b,c,h=>by
  rw[Nat.add_right_comm]at h
  simp only[lC]at h|-
  cases ha:KQ x with
  |none=>rw[ha]at h;cases h
  |some k=>
   rw[ha]at h
   simp only[Option.map_eq_some_iff]at h
   obtain⟨d,hd,rfl⟩:=h
   rw[show a+b+k=a+k+b by omega]at hd
   obtain⟨e,f,i,g⟩:=F8 xs (a+k) b d hd
   refine⟨e+1,by simp[f],zO,?_⟩
   rw[List.drop_succ_cons,g]
   congr 1
   omega
def iD(l:List Nd)(k:Nat):Option Nat:=(lC (l.drop k) 1).map (k+·)
def rZ(l:List Nd)(k:Int):Int:=if k<0 then-1 else match iD l k.toNat with
 |none=>-1
 |some e=>(e:Int)
theorem yY(l:List Nd)(k:Nat):rZ l (k:Int)=match iD l k with
 |none=>-1
 |some e=>(e:Int):=by unfold rZ;rw[eE zO];rfl
theorem mK{l:List Nd}(h:iD l k=some e):rZ l (k:Int)=(e:Int):=by rw[yY,h]
theorem uY{l:List Nd}(h:iD l k=none):rZ l (k:Int)=-1:=by rw[yY,h]
theorem jW{l:List Nd}(h:iD l k=some e):k<e/\e<=l.length:=by unfold iD at h;simp only[OP]at h;obtain⟨c,d,rfl⟩:=h;have:=LF _ _ _ d;rw[sB]at this;omega
def nC(l:List Nd):Nat->Nat->List Nat
 |0,_=>[]
 |a+1,k=>k::(match iD l k with
  |some e=>nC l a e
  |none=>[])
theorem OT(l:List Nd):∀(a k c:Nat),lC (l.drop k) a=some c->(nC l a k).length=a/\∀q∈nC l a k,k<=q/\∃e,iD l q=some e/\e<=k+c
 |0,k,c,h=>⟨rfl,λq hq=>by simp[nC]at hq⟩
 |a+1,k,c,h=>by
  rw[Nat.add_comm a 1]at h
  obtain⟨d,g,n,f⟩:=F8 _ 1 a c h
  have he:iD l k=some (k+d):=by unfold iD;rw[g];rfl
  rw[List.drop_drop]at f
  obtain⟨i,j⟩:=OT l a (k+d) (c-d) f
  simp only[nC,he]
  refine⟨by simp[i],λq hq=>?_⟩
  obtain rfl|hq:=xD.1 hq
  .exact⟨eX _,_,he,zO⟩
  .obtain⟨r,e,m,s⟩:=j q hq
   exact⟨zO,e,m,zO⟩
def eO(l:List Nd)(k:Nat):List Nat:=match l[k]?with
 |none=>[]
 |some x=>match KQ x with
  |none=>[]
  |some a=>nC l a (k+1)
theorem lI{l:List Nd}(h:iD l k=some e):∃x a,l[k]?=some x/\KQ x=some a/\lC (l.drop (k+1)) a=some (e-(k+1))/\k+1<=e:=by
 unfold iD at h;simp only[OP]at h;obtain⟨c,f,rfl⟩:=h;have g:k<l.length:=by have:=LF _ _ _ f;rw[sB]at this;omega
 rw[tL g]at f;simp only[lC]at f;cases ha:KQ l[k]with
 |none=>rw[ha]at f;cases f
 |some a=>rw[ha]at f;simp only[OP,kQ]at f;obtain⟨d,hd,rfl⟩:=f;exact⟨l[k],a,lJ g,ha,by rw[hd];congr 1;omega,zO⟩
theorem qZ{l:List Nd}{x:Nd}{a:Nat}(h:iD l k=some e)(j:l[k]?=some x)(i:KQ x=some a):
  eO l k=nC l a (k+1)/\(eO l k).length=a/\∀q∈eO l k,k<q/\∃d,iD l q=some d/\d<=e:=by
 obtain⟨y,b,f,g,m,A⟩:=lI h;rw[j]at f;cases f;rw[i]at g;cases g;have n:eO l k=nC l a (k+1):=by simp only[eO,j,i]
 obtain⟨r,s⟩:=OT l a (k+1) _ m;rw[n];refine⟨rfl,r,λq hq=>?_⟩;obtain⟨B,d,u,C⟩:=s q hq;exact⟨zO,d,u,zO⟩
theorem oT{l:List Nd}(h:iD l k=some e):∀q∈eO l k,k<q/\∃d,iD l q=some d/\d<=e:=by obtain⟨x,a,f,g,_⟩:=lI h;exact(qZ h f g).2.2
def uT(l:List Nd):Nat->Nat->Nat
 |0,_=>0
 |f+1,k=>match iD l k with
  |none=>0
  |some _=>(eO l k).foldl (λn q=>max n (uT l f q)) 0+1
theorem PJ(l:List Nd):∀(f k:Nat),uT l f k<=f
 |0,k=>bF _
 |f+1,k=>by
  simp only[uT]
  split
  .omega
  .have:∀(L:List Nat)(n:Nat),n<=f->L.foldl (λn q=>max n (uT l f q)) n<=f:=by
    intro L
    induction L with
    |nil=>intro n d;exact d
    |cons q L ih=>
     intro n d
     exact ih _ (Nat.max_le.2 ⟨d,PJ l f q⟩)
   have:=this (eO l k) 0 (kU _)
   omega
def tV(l:List Nd)(k:Nat):List Nd:=match iD l k with
 |none=>[]
 |some e=>(l.take e).drop k
def tZ(l:List Nd)(k:Nat)(r:List Nd):List Nd:=match iD l k with
 |none=>l
 |some e=>l.take k++r++l.drop e
def nL(l:List Nd):Nat:=
 if l.length=0 then 10 else if 200<l.length then 4 else if l.any (λx=>decide (xG x<0))then 11
 else if rZ l 0≠(l.length:Int)then 12 else if 30<uT l l.length 0 then 13 else 0
def jF(t:Int):Nat:=if 2<=t/\t<=9 then(t-1).toNat else 0
structure Pg where
 pa:Int
 vs:List Int
 bd:List Nd
def qE(d:Int):Nat->List Int->Bool
 |_,[]=>true
 |i,t::r=>if t≠0/\((i:Int)<d\/t≠1/\jF t=0)then false else qE d (i+1) r
def pA(p:Pg):Nat:=if p.pa<0\/(p.vs.length:Int)<p.pa\/12<p.vs.length then 14 else if qE p.pa 0 p.vs then 0 else 14
inductive Ru where
 |plain (k:List Int) (is:Int)
 |scalar (s:Bool)
 |array (k:List Int) (is:Int)
def vH(t:Int):Option Ru:=
 if t=1 then some (.plain [] 0)else if t=2 then some (.plain [] 1)else if t=3 then some (.scalar false)else if t=21 then some (.scalar true)
 else if t=4 then some (.array [0] 0)else if t=22 then some (.array [0,0] 2)else if t=5 then some (.plain [0] 0)else if t=6 then some (.plain [1] 1)
 else if t=18\/t=19 then some (.plain [1,1] 1)else if t=23 then some (.plain [1,2,2] 2)else if t=24 then some (.plain [1,2] 2)
 else if t=25 then some (.plain [0] 2)else if t=26 then some (.plain [] 2)else if 7<=t/\t<=11 then some (.plain [0,0] 0)
 else if 12<=t/\t<=17 then some (.plain [0,0] 1)else none
def oD(d:List Int)(n:Int):Option Ru->Int
 |none=>2
 |some (.plain _ is)=>is
 |some (.scalar s)=>if(d.length:Int)<=n then-1 else match d[n.toNat]?with
  |none=>-1
  |some t=>if t≠0/\t≠1 then-1 else if s then 2 else t
 |some (.array _ is)=>if(d.length:Int)<=n then-1 else match d[n.toNat]?with
  |none=>-1
  |some t=>if jF t=0 then-1 else is
def uK(d:List Int)(n:Int)(m:Nat):Option Ru->List Int
 |none=>bJ m 2
 |some (.plain k _)=>k
 |some (.array k _)=>k
 |some (.scalar s)=>if s=true/\n<(d.length:Int)then(d.drop n.toNat).take 1 else []
def lD(g:Nat->Int)(e:List Nd)(d:Int):Nat->List Nat->List Int->Bool
 |i,k::ks,w::ws=>if g k≠w then false else if(d=23\/d=24)/\0<i/\(e[k]?.getD (0,0)).1≠20 then false else lD g e d (i+1) ks ws
 |_,_,_=>true
def oE(p:Pg):Nat->Nat->Int
 |0,_=>-1
 |f+1,k=>
  let x:=p.bd[k]?.getD (0,0)
  let ks:=eO p.bd k
  let r:=vH x.1
  let is:=oD p.vs x.2 r
  let want:=uK p.vs x.2 ks.length r
  if is=-1\/want.length≠ks.length then-1
  else if lD (oE p f) p.bd x.1 0 ks want then is else-1
def UM(p:Pg)(k:Nat):Int:=match iD p.bd k with
 |none=>-1
 |some _=>oE p p.bd.length k
def gH(p:Pg):Nat:=
 if nL p.bd≠0 then nL p.bd else if pA p≠0 then pA p
 else if(p.bd[0]?.getD (0,0)).1≠20\/UM p 0≠2 then 15 else 0
def lV(p:Pg)(d:Nat)(f:Int):Nat:=
 if pA p≠0\/p.bd.length=0\/rZ p.bd 0≠(p.bd.length:Int)then 23
 else if(p.bd[0]?.getD (0,0)).1≠20\/UM p 0≠2 then 23
 else if(d:Int)≠p.pa then 18 else if f<0\/10000<f then 19 else 0
structure Fr where
 pos:Nat
 kid:Nat
 vals:List Int
structure Ms where
 vs:List Int
 ar:List (List Int)
 sk:List Fr
 st:Nat
 ev:List (Int×Int×Int)
 out:Int×Int
 over:Bool
def yD(b:Bool):Int:=if b then 1 else 0
def fF(p:Pg)(k:Nat):Nd:=p.bd[k]?.getD (0,0)
def j9(s:Ms)(k v:Int):Ms:={s with out:=(k,v),over:=true}
def jQ(F:Int)(s:Ms)(k:Nat):Ms:=if(s.st:Int)=F then j9 s 4 0 else{s with st:=s.st+1,sk:=⟨k,0,[]⟩::s.sk}
def hd(l:List Int):Int:=l.headD 0
def G7(l:List Int):Int:=l.tail.headD 0
def rT(p:Pg)(f:Fr):Option Nat:=
 let ks:=eO p.bd f.pos
 let tag:=(fF p f.pos).1
 if f.kid=1/\(tag=18/\hd f.vals=0\/tag=19/\hd f.vals=1\/tag=24/\hd f.vals=0)then none
 else if tag=23/\1<f.kid then none
 else if tag=23/\f.kid=1 then ks[(2-hd f.vals).toNat]?
 else ks[f.kid]?
def iX(s:Ms)(v:Int):Ms:=match s.sk with
 |[]=>s
 |f::r=>{s with sk:={f with vals:=f.vals++[v]}::r}
def uO(d a b:Int):Int:=
 if d=7 then aP.wrap (a+b)else if d=8 then aP.wrap (a-b)else if d=9 then aP.wrap (a*b)
 else if d=10 then aP.wrap (a.tdiv b)else if d=11 then a.tmod b
 else if d=12 then yD (a==b)else if d=13 then yD (a !=b)else if d=14 then yD (decide (a<b))else if d=15 then yD (decide (a<=b))
 else if d=16 then yD (decide (b<a))else yD (decide (b<=a))
def DV(s:Ms)(v:Nat)(x:Int):Ms:={s with vs:=s.vs.set v x,ev:=s.ev++[((v:Int),-1,x)]}
def mT(s:Ms)(v:Nat):List Int:=s.ar[v]?.getD []
def ES(s:Ms)(v:Nat)(i x:Int):Ms:={s with ar:=s.ar.set v ((mT s v).set i.toNat x),ev:=s.ev++[((v:Int),i,x)]}
def tF(s:Ms)(v:Nat)(i:Int):Bool:=decide (0<=i)&&decide (i<((mT s v).length:Int))
def nD(p:Pg)(F:Int)(s:Ms)(f:Fr):Ms:=
 let x:=fF p f.pos
 let v:=x.2.toNat
 if x.1=1\/x.1=2 then iX s x.2
 else if x.1=3 then iX s (s.vs[v]?.getD 0)
 else if x.1=4 then(if tF s v (hd f.vals)then iX s ((mT s v)[(hd f.vals).toNat]?.getD 0)else j9 s 2 0)
 else if x.1=5 then iX s (aP.wrap (-(hd f.vals)))
 else if x.1=6 then iX s (aP.wrap (1-hd f.vals))
 else if x.1=18\/x.1=19 then iX s (f.vals.getLastD 0)
 else if x.1=21 then DV s v (hd f.vals)
 else if x.1=22 then(if tF s v (hd f.vals)then ES s v (hd f.vals) (G7 f.vals)else j9 s 2 0)
 else if x.1=24 then(if hd f.vals=1 then jQ F s f.pos else s)
 else if x.1=25 then j9 s 0 (hd f.vals)
 else if x.1=20\/x.1=23\/x.1=26 then s
 else if G7 f.vals=0/\(x.1=10\/x.1=11)then j9 s 1 0
 else iX s (uO x.1 (hd f.vals) (G7 f.vals))
def nY(p:Pg)(F:Int)(s:Ms):Ms:=match s.sk with
 |[]=>j9 s 3 0
 |f::r=>match rT p f with
  |some k=>jQ F {s with sk:={f with kid:=f.kid+1}::r} k
  |none=>nD p F {s with sk:=r} f
def l7(p:Pg)(F:Int):Nat->Ms->Ms
 |0,s=>s
 |n+1,s=>if s.over then s else l7 p F n (nY p F s)
def tH(d:List Int)(i:Nat):Int:=d[i]?.getD 0
def mH(p:Pg)(d:List Int):Ms:={vs:=(dH p.vs.length).map (tH d),ar:=p.vs.map λt=>bJ (jF t) 0,sk:=[],st:=0,ev:=[],out:=(0,0),over:=false}
def lT(p:Pg)(d:List Int)(F:Int):Ms:=jQ F (mH p d) 0
structure Rn where
 out:Int×Int
 st:Nat
 ev:List (Int×Int×Int)
def LM(p:Pg)(d:List Int)(F:Int):Rn:=
 let s:=l7 p F (2*F.toNat+3) (lT p d F)
 ⟨s.out,s.st,s.ev⟩
def IG(F:Int)(s:Ms):Nat:=2*(F.toNat-s.st)+s.sk.length+(if s.over then 0 else 1)
theorem aDK(F:Int)(s:Ms)(v:Int):IG F (iX s v)=IG F s:=by
 unfold iX;cases h:s.sk with
 |nil=>rfl
 |cons f r=>simp[IG,h]
theorem aE1(s:Ms)(v:Int):(iX s v).st=s.st/\(iX s v).over=s.over/\(iX s v).out=s.out:=by unfold iX;cases h:s.sk<;>exact⟨rfl,rfl,rfl⟩
theorem E3{s:Ms}(k:Nat)(d:s.over=false)(e:(s.st:Int)<=F):IG F (jQ F s k)<IG F s/\((jQ F s k).st:Int)<=F:=by
 unfold jQ;split
 .exact⟨by simp[IG,j9,d],e⟩
 .refine⟨?_,by simp only;omega⟩;simp only[IG,d,iW];omega
theorem TT{s:Ms}(k v:Int)(d:s.over=false):IG F (j9 s k v)<IG F s:=by simp[IG,j9,d]
theorem YC{P:Ms->Ms->Prop}{c:Prop} [Decidable c]{a b a' d:Ms}(e:c->P a a')(f:¬c->P b d):P (if c then a else b) (if c then a' else d):=by
 by_cases h:c
 .rw[eI h,eI h];exact e h
 .rw[eE h,eE h];exact f h
theorem C6{P:Ms->Ms->Prop}{p:Pg}{s:Ms}{f:Fr}(d:∀v,P (iX s v) (iX s v))(e:∀k v,P (j9 s k v) (j9 s k v))(he:P (jQ F s f.pos) (jQ G s f.pos))(g:P s s)
  (j:∀v x,P (DV s v x) (DV s v x))(h:∀v i x,P (ES s v i x) (ES s v i x)):P (nD p F s f) (nD p G s f):=by unfold nD;refine YC (λ_=>d _) λ_=>YC (λ_=>d _) λ_=>YC (λ_=>YC (λ_=>d _) λ_=>e _ _) λ_=>YC (λ_=>d _) λ_=>YC (λ_=>d _) λ_=>YC (λ_=>d _) λ_=>YC (λ_=>j _ _) λ_=>YC (λ_=>YC (λ_=>h _ _ _) λ_=>e _ _) λ_=>YC (λ_=>YC (λ_=>he) λ_=>g) λ_=>YC (λ_=>e _ _) λ_=>YC (λ_=>g) λ_=>YC (λ_=>e _ _) λ_=>d _
theorem aFT{p:Pg}{s:Ms}{f:Fr}(e:s.over=false)(d:(s.st:Int)<=F):IG F (nD p F s f)<=IG F s/\((nD p F s f).st:Int)<=F:=
 C6 (P:=λt _=>IG F t<=IG F s/\(t.st:Int)<=F) (λv=>⟨uU (aDK F s v),by rw[(aE1 s v).1];exact d⟩) (λk v=>⟨cY (TT (F:=F) k v e),d⟩)
  (have h:=E3 (F:=F) f.pos e d;⟨cY h.1,h.2⟩) ⟨eX _,d⟩ (λv x=>⟨eX _,d⟩) (λv i x=>⟨eX _,d⟩) (G:=F)
theorem JV{p:Pg}{s:Ms}(d:s.over=false)(e:(s.st:Int)<=F):IG F (nY p F s)<IG F s/\((nY p F s).st:Int)<=F:=by
 unfold nY;cases hk:s.sk with
 |nil=>exact⟨TT _ _ d,e⟩
 |cons f r=>
  simp only;cases hn:rT p f with
  |some k=>have:=E3 (F:=F) (s:={s with sk:={f with kid:=f.kid+1}::r}) k d e;refine⟨Nat.lt_of_lt_of_eq this.1 ?_,this.2⟩;simp[IG,hk]
  |none=>have:=aFT (p:=p) (F:=F) (s:={s with sk:=r}) (f:=f) d e;refine⟨Nat.lt_of_le_of_lt this.1 ?_,this.2⟩;simp[IG,hk]
theorem wQ(p:Pg)(F:Int):∀(n:Nat)(s:Ms),(s.st:Int)<=F->IG F s<=n->(l7 p F n s).over=true
 |0,s,hs,hm=>by
  unfold IG at hm
  cases ho:s.over with
  |true=>exact ho
  |false=>rw[ho]at hm;simp at hm
 |n+1,s,hs,hm=>by
  simp only[l7]
  cases ho:s.over with
  |true=>simpa using ho
  |false=>
   have:=JV (p:=p) ho hs
   simpa using wQ p F n _ this.2 zO
theorem DB(p:Pg)(F:Int)(n:Nat){s:Ms}(h:s.over=true):l7 p F n s=s:=by
 cases n with
 |zero=>rfl
 |succ n=>simp[l7,h]
theorem C7(p:Pg)(F:Int):∀(n m:Nat)(s:Ms),(l7 p F n s).over=true->l7 p F (n+m) s=l7 p F n s
 |0,m,s,h=>by rw[Nat.zero_add];exact DB p F m h
 |n+1,m,s,h=>by
  rw[Nat.add_right_comm]
  simp only[l7]at h|-
  cases ho:s.over with
  |true=>rfl
  |false=>
   rw[ho]at h
   simpa using C7 p F n m _ h
theorem KC{p:Pg}(hF:0<=F):IG F (lT p args F)<=2*F.toNat+1/\((lT p args F).st:Int)<=F:=by
 have:=E3 (F:=F) (s:=mH p args) 0 rfl hF;refine⟨?_,this.2⟩;have d:IG F (mH p args)=2*F.toNat+1:=by simp[IG,mH]
 unfold lT;omega
theorem aGv{p:Pg}(hF:0<=F)(h:(l7 p F n (lT p args F)).over=true):
  LM p args F=⟨(l7 p F n (lT p args F)).out,(l7 p F n (lT p args F)).st,(l7 p F n (lT p args F)).ev⟩:=by have i:=KC (p:=p) (args:=args) hF;have g:=wQ p F (2*F.toNat+3) _ i.2 zO;have f:=C7 p F _ n _ g;have d:=C7 p F _ (2*F.toNat+3) _ h;rw[Nat.add_comm]at d;have e:l7 p F (2*F.toNat+3) (lT p args F)=l7 p F n (lT p args F):=f.symm.trans d;unfold LM;simp only[e]
def T9(s:Ms):Prop:=s.over=true/\s.out.1=4
theorem xR{s:Ms}(k:Nat)(e:(s.st:Int)<=F)(d:F<=G):T9 (jQ F s k)\/jQ G s k=jQ F s k:=by
 unfold jQ;by_cases h:(s.st:Int)=F
 .rw[eI h];exact .inl ⟨rfl,rfl⟩
 .rw[eE h,eE zO];exact .inr rfl
theorem aAd{p:Pg}{s:Ms}{f:Fr}(e:(s.st:Int)<=F)(d:F<=G):T9 (nD p F s f)\/nD p G s f=nD p F s f:=
 C6 (P:=λt u=>T9 t\/u=t) (λ_=>.inr rfl) (λ_ _=>.inr rfl) (xR _ e d) (.inr rfl) (λ_ _=>.inr rfl) (λ_ _ _=>.inr rfl)
theorem VM{p:Pg}{s:Ms}(e:(s.st:Int)<=F)(d:F<=G):T9 (nY p F s)\/nY p G s=nY p F s:=by
 unfold nY;cases hk:s.sk with
 |nil=>exact .inr rfl
 |cons f r=>
  simp only;cases hn:rT p f with
  |some k=>exact xR k e d
  |none=>exact aAd e d
theorem I2{p:Pg}{F G:Int}(e:F<=G):∀(n:Nat)(s:Ms),(s.st:Int)<=F->(l7 p F n s).over=true->(l7 p F n s).out.1≠4->l7 p G n s=l7 p F n s
 |0,s,hs,h,h4=>rfl
 |n+1,s,hs,h,h4=>by
  simp only[l7]at h h4|-
  cases ho:s.over with
  |true=>rfl
  |false=>
   rw[ho]at h h4
   simp only[Bool.false_eq_true,if_false]at h h4|-
   have hm:=JV (p:=p) ho hs
   obtain⟨d,f⟩|d:=VM (p:=p) hs e
   .rw[DB p F n d]at h4
    exact absurd f h4
   .rw[d]
    exact I2 e n _ hm.2 h h4
theorem aBy{p:Pg}(hF:0<=F)(i:F<=G)(k:(LM p d F).out.1≠4):LM p d G=LM p d F:=by
 have j:=KC (p:=p) (args:=d) hF;have h:=wQ p F (2*F.toNat+3) _ j.2 zO;have g:(l7 p F (2*F.toNat+3) (lT p d F)).out.1≠4:=k;have n:T9 (lT p d F)\/lT p d G=lT p d F:=xR (s:=mH p d) 0 hF i;obtain⟨f,m⟩|f:=n
 .rw[DB p F _ f]at g;exact absurd m g
 .have e:=I2 (p:=p) i _ _ j.2 h g;rw[<-f]at e;have q:(l7 p G (2*F.toNat+3) (lT p d G)).over=true:=by rw[e,f];exact h
  rw[aGv (p:=p) (args:=d) (F:=G) zO q,e,f];rfl
def kS(x:Int):Prop:=-9223372036854775808<=x/\x<=9223372036854775807
theorem uN(x:Int):kS (aP.wrap x):=by rw[iA];unfold kS;omega
def nE(d:List Int):Nat:=d.countP (λw=>decide (w≠2))
def E5(d:List Int):Prop:=∀(i:Nat)(w:Int),d[i]?=some w->((w=2↔nE d<=i)/\(w=0\/w=1\/w=2))
theorem EH:E5 []:=λi w h=>by simp at h
theorem zC{a:Int}(h:a=0\/a=1):E5 [a]:=by intro i w d;obtain rfl|rfl:=h<;>obtain _|i:=i<;>simp[nE]at d⊢<;>omega
theorem DH{a:Int}(h:a=0\/a=1):E5 [a,a]:=by intro i w d;obtain rfl|rfl:=h<;>obtain _|_|i:=i<;>simp[nE]at d⊢<;>omega
theorem WW:E5 [1,2]:=by intro i w d;obtain _|_|i:=i<;>simp[nE]at d⊢<;>omega
theorem aGh:E5 [1,2,2]:=by intro i w d;obtain _|_|_|i:=i<;>simp[nE]at d⊢<;>omega
theorem XX(m:Nat):E5 (bJ m 2):=by
 intro i w g;obtain⟨h,d⟩:=gX.1 g;rw[List.getElem_replicate]at d;subst d;have e:nE (bJ m 2)=0:=by unfold nE;rw[List.countP_eq_zero];intro a f;simp[List.eq_of_mem_replicate f]
 rw[e];exact⟨⟨λ_=>kU _,λ_=>rfl⟩,.inr (.inr rfl)⟩
theorem UA{n:Int}(s:Bool)(h:oD d n (some (.scalar s))≠-1)(f:0<=n):E5 (uK d n m (some (.scalar s))):=by
 simp only[uK];split
 .rename_i g;obtain⟨k,rfl⟩:=qJ f;have e:k<d.length:=zO;simp only[oD]at h;rw[eE zO]at h;simp only[xC]at h|-;rw[lJ e]at h;simp only at h;rw[tL e];refine zC ?_;split at h
  .exact absurd rfl h
  .omega
 .exact EH
theorem YF{P:Option Ru->Prop}{c:Prop} [Decidable c]{a b:Option Ru}(d:c->P a)(e:¬c->P b):P (if c then a else b):=by
 by_cases h:c
 .rw[eI h];exact d h
 .rw[eE h];exact e h
def oU(d:List Int)(n:Int)(m:Nat)(r:Option Ru):Prop:=oD d n r≠-1->(0<=n\/r=some (.plain [] 0))->E5 (uK d n m r)
theorem aCC(d:List Int)(n:Int)(m:Nat)(t:Int):oU d n m (vH t):=by have i:∀s,oU d n m (some (.scalar s)):=λs h j=>UA s h (j.resolve_right zS);have e:∀k is,E5 k->oU d n m (some (.plain k is)):=λk is f _ _=>f;have g:∀k is,E5 k->oU d n m (some (.array k is)):=λk is f _ _=>f;have q:oU d n m none:=λ_ _=>XX _;unfold vH;refine YF (P:=oU d n m) (λ_=>e _ _ EH) λ_=>?_;refine YF (P:=oU d n m) (λ_=>e _ _ EH) λ_=>?_;refine YF (P:=oU d n m) (λ_=>i _) λ_=>?_;refine YF (P:=oU d n m) (λ_=>i _) λ_=>?_;refine YF (P:=oU d n m) (λ_=>g _ _ (zC (.inl rfl))) λ_=>?_;refine YF (P:=oU d n m) (λ_=>g _ _ (DH (.inl rfl))) λ_=>?_;refine YF (P:=oU d n m) (λ_=>e _ _ (zC (.inl rfl))) λ_=>?_;refine YF (P:=oU d n m) (λ_=>e _ _ (zC (.inr rfl))) λ_=>?_;refine YF (P:=oU d n m) (λ_=>e _ _ (DH (.inr rfl))) λ_=>?_;refine YF (P:=oU d n m) (λ_=>e _ _ aGh) λ_=>?_;refine YF (P:=oU d n m) (λ_=>e _ _ WW) λ_=>?_;refine YF (P:=oU d n m) (λ_=>e _ _ (zC (.inl rfl))) λ_=>?_;refine YF (P:=oU d n m) (λ_=>e _ _ EH) λ_=>?_;refine YF (P:=oU d n m) (λ_=>e _ _ (DH (.inl rfl))) λ_=>?_;exact YF (P:=oU d n m) (λ_=>e _ _ (DH (.inl rfl))) λ_=>q
theorem aEy{n:Int}{t:Int}(h:oD d n (vH t)≠-1)(e:0<=n\/vH t=some (.plain [] 0)):E5 (uK d n m (vH t)):=aCC d n m t h e
theorem N6{g:Nat->Int}{f:List Nd}{n:Int}:∀{i:Nat}{d:List Nat}{e:List Int},lD g f n i d e=true->∀(j q:Nat)(w:Int),d[j]?=some q->e[j]?=some w->g q=w
 |i,[],e,h,j,q,w,h1,h2=>by simp at h1
 |i,k::d,[],h,j,q,w,h1,h2=>by simp at h2
 |i,k::d,v::e,h,j,q,w,h1,h2=>by
  simp only[lD]at h
  split at h
  .cases h
  .rename_i m
   split at h
   .cases h
   .cases j with
    |zero=>
     simp only[dD,dL.injEq]at h1 h2
     subst h1 h2
     exact Decidable.of_not_not m
    |succ j=>
     rw[cH]at h1 h2
     exact N6 h j q w h1 h2
structure Wt(p:Pg)(k:Nat)(c:Int):Prop where
 en:∃e,iD p.bd k=some e
 of:∃f,oE p f k=c
 ne:c≠-1
def oA(p:Pg)(k:Nat):List Int:=uK p.vs (fF p k).2 (eO p.bd k).length (vH (fF p k).1)
theorem Wt.node{p:Pg}{c:Int}(h:Wt p k c):∃a,p.bd[k]?=some (fF p k)/\KQ (fF p k)=some a/\(eO p.bd k).length=a/\oD p.vs (fF p k).2 (vH (fF p k).1)=c/\(oA p k).length=a/\E5 (oA p k)
  /\∀(i q:Nat)(w:Int),(eO p.bd k)[i]?=some q->(oA p k)[i]?=some w->Wt p q w:=by
 obtain⟨⟨e,he⟩,⟨f,hf⟩,d⟩:=h;obtain⟨x,a,m,g,_,_⟩:=lI he;have j:fF p k=x:=by unfold fF;rw[m];rfl
 obtain⟨_,n,D⟩:=qZ he m g;cases f with
 |zero=>exact absurd (hf.symm) d
 |succ f=>
  simp only[oE]at hf;rw[show p.bd[k]?.getD (0,0)=fF p k from rfl]at hf;have hw:uK p.vs (fF p k).2 (eO p.bd k).length (vH (fF p k).1)=oA p k:=rfl;rw[hw]at hf;split at hf
  .exact absurd hf.symm d
  .rename_i u;split at hf
   .rename_i y;have C:oD p.vs (fF p k).2 (vH (fF p k).1)≠-1:=by rw[hf];exact d
    have E:0<=(fF p k).2\/vH (fF p k).1=some (.plain [] 0):=by
     rw[j];have:=(lX g).1;unfold xG at this;split at this
     .rename_i A;rw[A];exact .inr rfl
     .split at this
      .omega
      .rename_i F;left;omega
    have r:E5 (oA p k):=aEy C E;refine⟨a,by rw[j];exact m,by rw[j];exact g,n,hf,by rw[<-n];exact Decidable.of_not_not (λh=>u (.inr h)),r,λi q w hq hw=>?_⟩;obtain⟨_,s,B,_⟩:=D q (iG hq);refine⟨⟨s,B⟩,⟨f,N6 y i q w hq hw⟩,?_⟩;have:=(r i w hw).2;omega
   .exact absurd hf.symm d
def kOk(c v:Int):Prop:=c=1->v=0\/v=1
structure T7(p:Pg)(f:Fr)(fin:Nat):Prop where
 le:fin<=(oA p f.pos).length
 len:f.vals.length=min fin (nE (oA p f.pos))
 typ:∀(i:Nat)(v w:Int),f.vals[i]?=some v->(oA p f.pos)[i]?=some w->kOk w v
 r64:∀v∈f.vals,kS v
def WX(p:Pg):List Fr->Int->Prop
 |[],c=>c=2
 |f::r,c=>∃d,Wt p f.pos d/\1<=f.kid/\T7 p f (f.kid-1)/\(oA p f.pos)[f.kid-1]?=some c/\WX p r d
def Top(p:Pg):List Fr->Prop
 |[]=>True
 |f::r=>∃d,Wt p f.pos d/\T7 p f f.kid/\WX p r d
structure vW(p:Pg)(s:Ms):Prop where
 vsl:s.vs.length=p.vs.length
 vst:∀(i:Nat)(v:Int),p.vs[i]?=some 1->s.vs[i]?=some v->v=0\/v=1
 arl:s.ar.length=p.vs.length
 art:∀(i:Nat)(t:Int)(r:List Int),p.vs[i]?=some t->s.ar[i]?=some r->r.length=jF t
 v64:∀v∈s.vs,kS v
 a64:∀r∈s.ar,∀v∈r,kS v
 e64:∀e∈s.ev,kS e.1/\kS e.2.1/\kS e.2.2
 o64:kS s.out.1/\kS s.out.2
 top:s.over=false->Top p s.sk
theorem T7.vals2{p:Pg}{f:Fr}(h:T7 p f e)(g:2<=e)(i:2<=nE (oA p f.pos)):∃a b t,f.vals=a::b::t:=by
 have d:=h.len;match hv:f.vals with
 |[]=>rw[hv]at d;simp at d;omega
 |[a]=>rw[hv]at d;simp at d;omega
 |a::b::t=>exact⟨a,b,t,rfl⟩
theorem T7.vals1{p:Pg}{f:Fr}{d:Nat}(h:T7 p f d)(g:1<=d)(i:1<=nE (oA p f.pos)):∃a t,f.vals=a::t:=by
 have e:=h.len;match hv:f.vals with
 |[]=>rw[hv]at e;simp at e;omega
 |a::t=>exact⟨a,t,rfl⟩
theorem TH(p:Pg)(k:Nat):T7 p ⟨k,0,[]⟩ 0:=⟨kU _,zS,λi v w h=>by simp at h,λv h=>by simp at h⟩
theorem Z6{p:Pg}{c:Int}{r:List Fr}(h:Wt p k c)(d:WX p r c):Top p (⟨k,0,[]⟩::r):=⟨c,h,TH p k,d⟩
theorem FN{p:Pg}{r:List Fr}(h:WX p r 2):Top p r:=by
 cases r with
 |nil=>trivial
 |cons f r=>obtain⟨k,e,m,d,g,i⟩:=h;obtain⟨a,_,_,_,_,n,j,_⟩:=e.node;have s:=(j _ _ g).1.1 rfl;have q:=(gX.1 g).1;refine⟨k,e,⟨zO,?_,d.typ,d.r64⟩,i⟩;rw[d.len];omega
theorem aAI{p:Pg}{r:List Fr}{c v:Int}(h:WX p r c)(m:c≠2)(B:kOk c v)(s:kS v):∃f n,r=f::n/\Top p ({f with vals:=f.vals++[v]}::n):=by
 cases r with
 |nil=>exact absurd h m
 |cons f r=>
  obtain⟨C,k,D,e,j,q⟩:=h;obtain⟨a,_,_,_,_,E,A,_⟩:=k.node;have G:¬nE (oA p f.pos)<=f.kid-1:=λh=>m ((A _ _ j).1.2 h);have F:=(gX.1 j).1;refine⟨f,r,rfl,C,k,⟨by simp only;omega,?_,?_,?_⟩,q⟩
  .simp only[iR,LV];rw[e.len];omega
  .intro i u w d hw;simp only at d hw;by_cases hil:i<f.vals.length
   .rw[FU hil]at d;exact e.typ i u w d hw
   .rw[CQ zO]at d;have x:i-f.vals.length=0:=by have:=(gX.1 d).1;simp at this;omega
    rw[x]at d;simp only[aIJ,BU]at d;subst d;have y:i=f.kid-1:=by have:=e.len;omega
    rw[y,j]at hw;cases hw;exact B
  .intro u g;simp only[wM,rD]at g;obtain g|rfl:=g
   .exact e.r64 u g
   .exact s
theorem aAu{x:Nd}{a:Nat}(h:KQ x=some a):1<=x.1/\x.1<=26:=by
 have d:=(lX h).1;unfold xG at d;split at d
 .omega
 .split at d
  .omega
  .unfold nN at d;repeat' split at d
   all_goals first
    |omega
    |(simp only at d;omega)
theorem QJ{x:Nd}{a:Nat}(h:KQ x=some a)(e:x.1≠1):0<=x.2:=by
 have d:=(lX h).1;unfold xG at d;rw[eE e]at d;split at d
 .omega
 .omega
theorem aE6{x:Nd}{a:Nat}(h:KQ x=some a)(e:x.1=2):x.2=0\/x.2=1:=by
 have d:=(lX h).1;unfold xG nN at d;rw[eE zO,eI e]at d;split at d
 .omega
 .simp only at*;omega
theorem aHC{n:Int}(e:0<=n)(h:¬(d.length:Int)<=n):∃t,d[n.toNat]?=some t:=by obtain⟨k,rfl⟩:=qJ e;exact⟨d[k]'(zO),zS⟩
structure Nk(vs:List Int)(x:Nd)(W:List Int)(c:Int):Prop where
 tag:1<=x.1/\x.1<=26
 tells:x.1<=19->c=0\/c=1
 does:20<=x.1->c=2
 var:x.1=3\/x.1=4\/x.1=21\/x.1=22->0<=x.2/\x.2<(vs.length:Int)
 load:x.1=3->vs[x.2.toNat]?=some c
 store:x.1=21->∃t,vs[x.2.toNat]?=some t/\W=[t]/\(t=0\/t=1)
 bool:x.1=2->x.2=0\/x.2=1
 number:x.1=1\/x.1=4\/x.1=5\/7<=x.1/\x.1<=11->c=0
 w4:x.1=4\/x.1=5\/x.1=25->W=[0]
 w6:x.1=6->W=[1]
 w18:x.1=18\/x.1=19->W=[1,1]
 w22:x.1=22\/7<=x.1/\x.1<=17->W=[0,0]
 w23:x.1=23->W=[1,2,2]
 w24:x.1=24->W=[1,2]
theorem Wt.nk{p:Pg}{c:Int}(h:Wt p k c):Nk p.vs (fF p k) (oA p k) c:=by
 obtain⟨a,R,q,N,d,hw,O,_⟩:=h.node;have j:=h.ne;have M:=aAu q;have r:=QJ q;have D:=aE6 q;have i:oA p k=uK p.vs (fF p k).2 (eO p.bd k).length (vH (fF p k).1):=rfl;have K:∀s,vH (fF p k).1=some (.scalar s)->(fF p k).1≠1->(0<=(fF p k).2/\(fF p k).2<(p.vs.length:Int))/\∃u,p.vs[(fF p k).2.toNat]?=some u/\(u=0\/u=1)/\(c=if s then 2 else u)/\(s=true->oA p k=[u]):=by
  intro s e m;rw[e]at d i;simp only[oD]at d;split at d
  .exact absurd d.symm j
  .rename_i y;obtain⟨u,g⟩:=aHC (r m) y;rw[g]at d;simp only at d;split at d
   .exact absurd d.symm j
   .refine⟨⟨r m,zO⟩,u,g,zO,d.symm,λL=>?_⟩;rw[i];simp only[uK];rw[eI ⟨L,zO⟩];obtain⟨F,he⟩:=gX.1 g;rw[tL F,he];rfl
 have C:∀f is,vH (fF p k).1=some (.array f is)->(fF p k).1≠1->(0<=(fF p k).2/\(fF p k).2<(p.vs.length:Int))/\c=is/\oA p k=f:=by
  intro f is e m;rw[e]at d i;simp only[oD]at d;split at d
  .exact absurd d.symm j
  .rename_i y;refine⟨⟨r m,zO⟩,?_,i⟩;split at d
   .exact absurd d.symm j
   .split at d
    .exact absurd d.symm j
    .exact d.symm
 have J:∀f is,vH (fF p k).1=some (.plain f is)->c=is/\oA p k=f:=by intro f is e;rw[e]at d i;exact⟨d.symm,i⟩
 have G:vH (fF p k).1=none->c=2:=by intro e;rw[e]at d;exact d.symm
 generalize oA p k=W at*;generalize fF p k=x at*;obtain⟨t,n⟩:=x;have E:t=1\/t=2\/t=3\/t=4\/t=5\/t=6\/t=7\/t=8\/t=9\/t=10\/t=11\/t=12\/t=13\/t=14\/t=15\/t=16\/t=17\/t=18\/t=19\/t=20\/t=21\/t=22\/t=23\/t=24\/t=25\/t=26:=by simp only at M;omega
 obtain rfl|rfl|rfl|rfl|rfl|rfl|rfl|rfl|rfl|rfl|rfl|rfl|rfl|rfl|rfl|rfl|rfl|rfl|rfl|rfl|rfl|rfl|rfl|rfl|rfl|rfl:=E
 all_goals
  first
  |(obtain⟨d,hw⟩:=J _ _ rfl)
  |(obtain⟨B,u,g,A,d,hw⟩:=K _ rfl (by simp only[ne_eq];decide);simp at d)
  |(obtain⟨B,d,hw⟩:=C _ _ rfl (by simp only[ne_eq];decide))
  |(have d:=G rfl)
  constructor<;>first|(intro h;first|exact hw|(exfalso;revert h;decide)|exact d|exact .inl d|exact .inr d|exact B|exact D h|(rw[d];exact A)|(rw[d];exact g)|exact⟨u,g,hw rfl,A⟩)|(simp;done)
structure aFN(p:Pg)(s:Ms)(f:Fr)(r:List Fr):Prop where
 pos:f.pos<p.bd.length
 one:f.kid=1->(fF p f.pos).1=18\/(fF p f.pos).1=19\/(fF p f.pos).1=24\/(fF p f.pos).1=23->∃a t,f.vals=a::t
 cond:f.kid=1->(fF p f.pos).1=23->(hd f.vals=0\/hd f.vals=1)/\(eO p.bd f.pos).length=3
 tag:1<=(fF p f.pos).1/\(fF p f.pos).1<=26
 var:(fF p f.pos).1=3\/(fF p f.pos).1=4\/(fF p f.pos).1=21\/(fF p f.pos).1=22->0<=(fF p f.pos).2/\(fF p f.pos).2<(p.vs.length:Int)
 tells:(fF p f.pos).1<=19->r≠[]
 some1:rT p f=none->(fF p f.pos).1=4\/(fF p f.pos).1=5\/(fF p f.pos).1=6\/(fF p f.pos).1=18\/(fF p f.pos).1=19\/(fF p f.pos).1=21\/(fF p f.pos).1=24\/(fF p f.pos).1=25->∃a t,f.vals=a::t
 some2:rT p f=none->(fF p f.pos).1=22\/7<=(fF p f.pos).1/\(fF p f.pos).1<=17->∃a b t,f.vals=a::b::t
theorem uM{p:Pg}{f:Fr}(h:rT p f=none)(d:(fF p f.pos).1≠18/\(fF p f.pos).1≠19/\(fF p f.pos).1≠24/\(fF p f.pos).1≠23):(eO p.bd f.pos).length<=f.kid:=by unfold rT at h;simp only at h;rw[eE zO,eE zO,eE zO]at h;exact dN.1 h
theorem IU{p:Pg}{f:Fr}(h:rT p f=none)(d:2<=(eO p.bd f.pos).length)(e:(fF p f.pos).1≠23):1<=f.kid:=by
 unfold rT at h;simp only at h;split at h
 .omega
 .rw[eE zO,eE zO]at h;have:=dN.1 h;omega
theorem aJa{w:Int}(h:w≠2):nE [w]=1:=by simp[nE,h]
theorem D9{p:Pg}{s:Ms}{f:Fr}{r:List Fr}(h:Top p (f::r)):aFN p s f r:=by
 obtain⟨c,hw,hf,n⟩:=h;have g:=hw.nk;obtain⟨a,u,y,m,A,e,D,_⟩:=hw.node;have C:=hf.len;have B:=hf.le;refine⟨(gX.1 u).1,?_,?_,g.tag,g.var,?_,?_,?_⟩
 .intro k d;refine hf.vals1 zO ?_;obtain d|d|d|d:=d
  .rw[g.w18 (.inl d)];decide
  .rw[g.w18 (.inr d)];decide
  .rw[g.w24 d];decide
  .rw[g.w23 d];decide
 .intro k d;have hW:=g.w23 d;obtain⟨v,t,j⟩:=hf.vals1 zO (by rw[hW];decide);have:=hf.typ 0 v 1 (by rw[j];rfl) (by rw[hW];rfl) rfl;refine⟨by rw[j];exact this,?_⟩;rw[m,<-e,hW];rfl
 .intro d q;subst q;have:=g.tells d;have x:c=2:=n;omega
 .intro i d;obtain d|d|d|d|d|d|d|d:=d
  .have:=uM i zO;have hW:=g.w4 (.inl d);rw[hW]at e;simp at e;exact hf.vals1 zO (by rw[hW];decide)
  .have:=uM i zO;have hW:=g.w4 (.inr (.inl d));rw[hW]at e;simp at e;exact hf.vals1 zO (by rw[hW];decide)
  .have:=uM i zO;have hW:=g.w6 d;rw[hW]at e;simp at e;exact hf.vals1 zO (by rw[hW];decide)
  .have hW:=g.w18 (.inl d);rw[hW]at e;simp at e;exact hf.vals1 (IU i zO zO) (by rw[hW];decide)
  .have hW:=g.w18 (.inr d);rw[hW]at e;simp at e;exact hf.vals1 (IU i zO zO) (by rw[hW];decide)
  .have:=uM i zO;obtain⟨t,_,hW,E⟩:=g.store d;rw[hW]at e;simp at e;exact hf.vals1 zO (by rw[hW,aJa zO];omega)
  .have hW:=g.w24 d;rw[hW]at e;simp at e;exact hf.vals1 (IU i zO zO) (by rw[hW];decide)
  .have:=uM i zO;have hW:=g.w4 (.inr (.inr d));rw[hW]at e;simp at e;exact hf.vals1 zO (by rw[hW];decide)
 .intro i d;have:=uM i zO;have hW:=g.w22 d;rw[hW]at e;simp at e;exact hf.vals2 zO (by rw[hW];decide)
structure MOk(p:Pg)(s:Ms):Prop where
 vsl:s.vs.length=p.vs.length
 vst:∀(i:Nat)(v:Int),p.vs[i]?=some 1->s.vs[i]?=some v->v=0\/v=1
 arl:s.ar.length=p.vs.length
 art:∀(i:Nat)(t:Int)(r:List Int),p.vs[i]?=some t->s.ar[i]?=some r->r.length=jF t
 v64:∀v∈s.vs,kS v
 a64:∀r∈s.ar,∀v∈r,kS v
 e64:∀e∈s.ev,kS e.1/\kS e.2.1/\kS e.2.2
 o64:kS s.out.1/\kS s.out.2
theorem vW.ok{p:Pg}{s:Ms}(h:vW p s):MOk p s:=⟨h.vsl,h.vst,h.arl,h.art,h.v64,h.a64,h.e64,h.o64⟩
theorem MOk.inv{p:Pg}{s d:Ms}(h:MOk p s)(f:d.vs=s.vs)(e:d.ar=s.ar)(he:d.ev=s.ev)(g:d.out=s.out)(i:d.over=false->Top p d.sk):vW p d:=
 ⟨by rw[f];exact h.vsl,by rw[f];exact h.vst,by rw[e];exact h.arl,by rw[e];exact h.art,by rw[f];exact h.v64,by rw[e];exact h.a64,by rw[he];exact h.e64,by rw[g];exact h.o64,i⟩
theorem MOk.stop{p:Pg}{s:Ms}(h:MOk p s){k v:Int}(d:kS k)(e:kS v):vW p (j9 s k v):=
 ⟨h.vsl,h.vst,h.arl,h.art,h.v64,h.a64,h.e64,⟨d,e⟩,λh=>by cases h⟩
theorem MOk.tell{p:Pg}{s:Ms}{c v:Int}(h:MOk p s)(g:WX p s.sk c)(e:c≠2)(j:kOk c v)(d:kS v):vW p (iX s v):=by obtain⟨f,r,he,i⟩:=aAI g e j d;unfold iX;rw[he];exact h.inv rfl rfl rfl rfl λ_=>i
theorem MOk.enter{p:Pg}{s:Ms}(h:MOk p s)(d:Top p (⟨k,0,[]⟩::s.sk)):vW p (jQ F s k):=by
 unfold jQ;split
 .exact h.stop ⟨zO,zO⟩ ⟨zO,zO⟩
 .exact h.inv rfl rfl rfl rfl λ_=>d
theorem ZH(b:Bool):yD b=0\/yD b=1:=by cases b<;>simp[yD]
theorem aH5{v:Int}(h:v=0\/v=1):kS v:=by unfold kS;omega
theorem aFi(b:Bool):kS (yD b):=aH5 (ZH b)
theorem aFE{t a b:Int}(h:12<=t):uO t a b=0\/uO t a b=1:=by
 unfold uO;rw[eE zO,eE zO,eE zO,eE zO,eE zO];repeat' split
 all_goals exact ZH _
theorem aD3{a b:Int}(h:kS a):kS (a.tmod b):=by
 unfold kS at*;have d:(a.tmod b).natAbs<=a.natAbs:=by rw[Int.natAbs_tmod];exact Nat.mod_le _ _
 have e:0<=a->0<=a.tmod b:=λh=>Int.tmod_nonneg b h;have f:a<0->a.tmod b<=0:=by intro h;have:=Int.tmod_nonneg (a:=-a) b zO;rw[Int.neg_tmod]at this;omega
 omega
theorem aDp{t a b:Int}(h:kS a):kS (uO t a b):=by
 unfold uO;repeat' split
 all_goals first
  |exact uN _
  |exact aD3 h
  |exact aFi _
theorem XP{f:Fr}(h:∀v∈f.vals,kS v):kS (hd f.vals)/\kS (G7 f.vals):=by
 have d:kS 0:=by unfold kS;omega
 match hv:f.vals with
 |[]=>exact⟨d,d⟩
 |[a]=>rw[hv]at h;exact⟨h a zS,d⟩
 |a::b::t=>rw[hv]at h;exact⟨h a zS,h b zS⟩
theorem PZ{f:Fr}{a:Int}{t:List Int}(h:f.vals=a::t):∃i:Nat,f.vals[i]?=some (f.vals.getLastD 0):=by refine⟨f.vals.length-1,?_⟩;rw[h];simp only[List.getLastD,iW,Nat.add_sub_cancel];rw[lJ zS];congr 1;exact(List.getLast_eq_getElem (l:=a::t) zS).symm
theorem H4{α:Type}{l:List α}{d:α}{P:α->Prop}(h:∀v∈l,P v)(hd:P d):P (l[i]?.getD d):=by
 cases hl:l[i]?with
 |none=>exact hd
 |some v=>exact h v (iG hl)
def P64(p:Pg):Prop:=∀x∈p.bd,kS x.2
theorem X5{p:Pg}{c:Prop} [Decidable c]{a b:Ms}(d:c->vW p a)(e:¬c->vW p b):vW p (if c then a else b):=by
 by_cases h:c
 .rw[eI h];exact d h
 .rw[eE h];exact e h
theorem aG8{p:Pg}{s:Ms}{f:Fr}{r:List Fr}(W:P64 p)(hm:MOk p s)(hs:s.sk=r)(ho:s.over=false)(E:Top p (f::r))(K:rT p f=none)(ag:p.vs.length<=12):vW p (nD p F s f):=by
 have L:=D9 (s:=s) E;obtain⟨c,hw,hf,n⟩:=E;have j:=hw.nk;have ac:=hw.ne;have y:=XP hf.r64;have B:kS 0:=by unfold kS;omega
 have ab:kS (fF p f.pos).2:=by obtain⟨a,N,_⟩:=hw.node;exact W _ (iG N)
 have R:∀v,∀x∈mT s v,kS x:=by
  intro v;unfold mT;cases d:s.ar[v]?with
  |none=>intro x N;cases N
  |some q=>exact hm.a64 q (iG d)
 rw[<-hs]at n;have D:∀k v,kS k->kS v->vW p (j9 s k v):=λk v g G=>hm.stop g G;have S:20<=(fF p f.pos).1->vW p s:=λh=>hm.inv rfl rfl rfl rfl λ_=>FN (by rw[j.does h]at n;exact n);have A:∀v,(fF p f.pos).1<=19->kOk c v->kS v->vW p (iX s v):=λv h g G=>hm.tell n (by have:=j.tells h;omega) g G;have O:∀v:Nat,v<p.vs.length->kS (v:Int):=λv h=>by unfold kS;omega
 have U:∀i:Int,0<=i/\i<(p.vs.length:Int)->i.toNat<p.vs.length:=λi h=>by omega
 unfold nD;refine X5 (λg=>?_) λ_=>?_
 .skip;refine A _ zO (λu=>?_) ab;obtain g|g:=g
  .have:=j.number (.inl g);omega
  .exact j.bool g
 refine X5 (λg=>?_) λ_=>?_
 .skip;refine A _ zO (λu=>?_) (H4 hm.v64 B);have C:=j.load g;rw[u]at C;cases d:s.vs[(fF p f.pos).2.toNat]?with
  |none=>exact .inl rfl
  |some v=>exact hm.vst _ v C d
 refine X5 (λg=>?_) λ_=>?_
 .skip;refine X5 (λ_=>?_) λ_=>?_
  .exact A _ zO (λu=>by have:=j.number (.inr (.inl g));omega) (H4 (R _) B)
  .exact D _ _ (by unfold kS;omega) B
 refine X5 (λg=>?_) λ_=>?_
 .skip;exact A _ zO (λu=>by have:=j.number (.inr (.inr (.inl g)));omega) (uN _)
 refine X5 (λg=>?_) λ_=>?_
 .skip;obtain⟨a,t,d⟩:=L.some1 K (.inr (.inr (.inl g)));have E:=hf.typ 0 a 1 (by rw[d];rfl) (by rw[j.w6 g];rfl) rfl;refine A _ zO (λu=>?_) (uN _);have:hd f.vals=a:=by rw[d];rfl
  rw[this];obtain rfl|rfl:=E
  .exact .inr zD
  .exact .inl zD
 refine X5 (λg=>?_) λ_=>?_
 .skip;have hW:=j.w18 g;obtain⟨a,t,d⟩:=L.some1 K zO;obtain⟨i,m⟩:=PZ d;refine A _ zO (λu=>?_) (hf.r64 _ (iG m));have ae:=(gX.1 m).1;have C:=hf.len;rw[hW]at C;have Y:(oA p f.pos)[i]?=some 1:=by
   rw[hW];have:i<2:=by have:nE [1,1]=2:=rfl;omega
   match i,this with
   |0,_=>rfl
   |1,_=>rfl
  exact hf.typ i _ 1 m Y rfl
 refine X5 (λg=>?_) λ_=>?_
 .skip;obtain⟨t,Z,hW,ai⟩:=j.store g;obtain⟨a,q,d⟩:=L.some1 K zO;have M:=j.var zO;have aa:=hf.typ 0 a t (by rw[d];rfl) (by rw[hW];rfl);have X:hd f.vals=a:=by rw[d];rfl
  refine⟨by simpa[DV]using hm.vsl,?_,hm.arl,hm.art,?_,hm.a64,?_,hm.o64,λ_=>FN (by rw[j.does zO]at n;exact n)⟩
  .intro i v m d;simp only[DV]at d;rw[List.getElem?_set]at d;split at d
   .rename_i J;split at d
    .simp only[BU]at d;rw[<-d,X];rw[<-J,Z]at m;cases m;exact aa rfl
    .cases d
   .exact hm.vst i v m d
  .intro v d;obtain d|rfl:=List.mem_or_eq_of_mem_set d
   .exact hm.v64 v d
   .exact y.1
  .intro e he;simp only[DV,wM,rD]at he;obtain he|rfl:=he
   .exact hm.e64 e he
   .exact⟨O _ (U _ M),(show kS (-1) by unfold kS;omega),y.1⟩
 refine X5 (λg=>?_) λ_=>?_
 .skip;refine X5 (λaf=>?_) λ_=>?_
  .skip;have M:=j.var zO;refine⟨hm.vsl,hm.vst,by simpa[ES]using hm.arl,?_,hm.v64,?_,?_,hm.o64,λ_=>FN (by rw[j.does zO]at n;exact n)⟩
   .intro i t q m hq;simp only[ES]at hq;rw[List.getElem?_set]at hq;split at hq
    .rename_i J;split at hq
     .rename_i ah;simp only[BU]at hq;rw[<-hq,List.length_set];unfold mT;cases hq2:s.ar[(fF p f.pos).2.toNat]?with
      |none=>have:=dN.1 hq2;omega
      |some z=>rw[<-J]at m;exact hm.art _ t z m hq2
     .cases hq
    .exact hm.art i t q m hq
   .intro q hq v d;obtain hq|rfl:=List.mem_or_eq_of_mem_set hq
    .exact hm.a64 q hq v d
    .obtain d|rfl:=List.mem_or_eq_of_mem_set d
     .exact R _ v d
     .exact y.2
   .intro e he;simp only[ES,wM,rD]at he;obtain he|rfl:=he
    .exact hm.e64 e he
    .exact⟨O _ (U _ M),y.1,y.2⟩
  .exact D _ _ (by unfold kS;omega) B
 refine X5 (λg=>?_) λ_=>?_
 .skip;refine X5 (λ_=>?_) λ_=>?_
  .exact hm.enter ⟨c,hw,TH _ _,n⟩
  .exact S zO
 refine X5 (λ_=>?_) λ_=>?_
 .exact D _ _ B y.1
 refine X5 (λ_=>?_) λ_=>?_
 .exact S zO
 refine X5 (λ_=>?_) λ_=>?_
 .exact D _ _ (by unfold kS;omega) B
 .have aj:=j.tag;refine A _ zO (λu=>?_) (aDp y.1);by_cases h11:(fF p f.pos).1<=11
  .have:=j.number (.inr (.inr (.inr ⟨zO,h11⟩)));omega
  .exact aFE zO
theorem aCT{p:Pg}{s:Ms}(m:P64 p)(u:p.vs.length<=12)(h:vW p s)(j:s.over=false):vW p (nY p F s):=by
 have e:=h.top j;unfold nY;cases hs:s.sk with
 |nil=>exact h.ok.stop (by unfold kS;omega) (by unfold kS;omega)
 |cons f r=>
  rw[hs]at e;simp only;cases hn:rT p f with
  |none=>have hm:MOk p {s with sk:=r}:=⟨h.vsl,h.vst,h.arl,h.art,h.v64,h.a64,h.e64,h.o64⟩;exact aG8 m hm rfl j e hn u
  |some k=>
   have hm:MOk p {s with sk:={f with kid:=f.kid+1}::r}:=⟨h.vsl,h.vst,h.arl,h.art,h.v64,h.a64,h.e64,h.o64⟩;refine hm.enter ?_;have A:=D9 (s:=s) e;obtain⟨c,hw,hf,y⟩:=e;have q:=hw.nk;obtain⟨a,L,C,E,D,K,J,g⟩:=hw.node;have hq:∃w,Wt p k w/\(oA p f.pos)[f.kid]?=some w:=by
    unfold rT at hn;simp only at hn;split at hn
    .cases hn
    split at hn
    .cases hn
    split at hn
    .rename_i d;have hW:=q.w23 d.1;have n:=(A.cond d.2 d.1).1;refine⟨2,?_,by rw[hW,d.2];rfl⟩;refine g _ k 2 hn ?_;rw[hW];obtain h|h:=n
     .rw[h];rfl
     .rw[h];rfl
    .have G:=(gX.1 hn).1;have i:f.kid<(oA p f.pos).length:=zO;exact⟨_,g _ k _ hn (lJ i),lJ i⟩
   obtain⟨w,x,B⟩:=hq;refine Z6 x ⟨c,hw,by simp only;omega,?_,?_,y⟩
   .exact⟨hf.le,hf.len,hf.typ,hf.r64⟩
   .exact B
theorem aBK{p:Pg}{f:List Int}(j:Wt p 0 2)(k:∀x∈f,kS x)(n:∀i:Nat,p.vs[i]?=some 1->f.length<=i):vW p (lT p f F):=by
 have g:kS 0:=by unfold kS;omega
 have hm:MOk p (mH p f):=by
  refine⟨by simp[mH],?_,by simp[mH],?_,?_,?_,(λe he=>by cases he),⟨g,g⟩⟩
  .intro i v h d;simp only[mH,oY]at d;have m:=(gX.1 h).1;rw[List.getElem?_range m]at d;simp only[cI,BU,tH]at d;rw[AS (n i h)]at d;exact .inl d.symm
  .intro i t q h hq;simp only[mH,oY,h,cI,BU]at hq;rw[<-hq];simp
  .intro v d;simp only[mH,cG]at d;obtain⟨i,_,rfl⟩:=d;exact H4 k g
  .intro q hq v d;simp only[mH,cG]at hq;obtain⟨t,_,rfl⟩:=hq;rw[List.eq_of_mem_replicate d];exact g
 exact hm.enter (Z6 j rfl)
def pG(l:List Nd):Nat->List Int->Option Nat
 |k,[]=>some k
 |k,n::r=>if n<0\/((eO l k).length:Int)<=n then none else match(eO l k)[n.toNat]?with
  |none=>none
  |some q=>pG l q r
def OH(l:List Nd)(d:List Int):Option Nat:=if rZ l 0≠(l.length:Int)then none else pG l 0 d
def kZ(l:List Nd):Nat->Nat->List Int->List (Nat×List Int)
 |0,_,_=>[]
 |f+1,k,own=>(k,own)::(eO l k).zipIdx.flatMap λx=>kZ l f x.1 (own++[(x.2:Int)])
def ZU(l:List Nd)(k:Nat):Option (List Int):=if rZ l 0≠(l.length:Int)then none else((kZ l l.length 0 []).find? λx=>x.1==k).map (·.2)
def sE(a b:Int):Int:=if a<b then-1 else if b<a then 1 else 0
def B7:List Int->List Int->Int
 |[],[]=>0
 |[],_::_=>-1
 |_::_,[]=>1
 |a::r,b::s=>if sE a b≠0 then sE a b else B7 r s
theorem MD(a:Int):sE a a=0:=by unfold sE;rw[eE zO,eE zO]
theorem OU:∀l:List Int,B7 l l=0
 |[]=>rfl
 |a::r=>by simp only[B7,MD];simpa using OU r
structure Dl where
 path:List Int
 op:Int
 n:Int
def jD(a b:Dl):Int:=if B7 a.path b.path≠0 then B7 a.path b.path else if sE a.op b.op≠0 then sE a.op b.op else sE a.n b.n
theorem J5(a:Dl):jD a a=0:=by simp[jD,OU,MD]
def yH(d f e:Int):List Int:=((dH (f-d+1).toNat).map λi:Nat=>d+(i:Int)).filter λn=>n !=e
def uB(d:Int)(l:List Int):List Int:=(Lib.compact (l.mergeSort λx y=>decide (x<=y))).filter λx=>!(x==d)
def oG(x:Nd):List Int:=if x.1=1 then uB x.2 [0,1]else [0,1]
def xQ(x:Nd):List (Int×List Int):=
 if 7<=x.1/\x.1<=11 then [(1,yH 7 11 x.1)]else if 12<=x.1/\x.1<=17 then [(2,yH 12 17 x.1)]else if x.1=18\/x.1=19 then [(3,yH 18 19 x.1)]
 else if x.1=1 then [(4,uB x.2 [0,1,-1,aP.wrap (x.2+1),aP.wrap (x.2-1)])]else if x.1=2 then [(4,[aP.wrap (1-x.2)])]else []
def yK(x:Nd):List (Int×List Int):=if 21<=x.1/\x.1<=25 then [(5,[0])]else []
def wY(x y:Nd):List (Int×List Int):=if x.1=23\/x.1=24 then [(6,[0])]else if x.1=25 then [(7,oG y)]else []
def g9(x y:Nd):List (Int×List Int):=xQ x++yK x++wY x y
def jC(l:List Nd)(k:Nat):List (Int×Int):=match iD l k with
 |none=>[]
 |some _=>(g9 (nodeL l k) (nodeL l (k+1))).flatMap λx=>x.2.map λn=>(x.1,n)
 where nodeL (l:List Nd) (k:Nat):Nd:=l[k]?.getD (0,0)
def mQ:Pg:=⟨0,[],[]⟩
def EA(l:List Nd)(k:Nat)(n e d:Int):List Nd:=
 let x:=l[k]?.getD (0,0)
 if e<=x.1/\x.1<=d/\e<=n/\n<=d then l.set k (n,x.2)else []
def iH(d:Int)(l:List Nd)(k:Nat)(n:Int):List Nd:=
 let x:=l[k]?.getD (0,0)
 if d=1 then EA l k n 7 11 else if d=2 then EA l k n 12 17 else if d=3 then EA l k n 18 19
 else if d=4 then(if x.1≠1/\(x.1≠2\/n<0\/1<n)then []else l.set k (x.1,n))
 else if d=5 then(if 21<=x.1/\x.1<=25/\n=0 then tZ l k [(26,0)]else [])
 else if d=6 then(if(x.1≠23/\x.1≠24)\/n≠0 then []else l.take (k+1)++[(6,0)]++l.drop (k+1))
 else if x.1≠25 then []else tZ l (k+1) [(1,n)]
def o8(p:Pg)(d:Dl):Pg×Nat:=match OH p.bd d.path with
 |none=>(mQ,16)
 |some k=>if d.op<1\/8<=d.op then(mQ,17)else if iH d.op p.bd k d.n=[]then(mQ,17)else(⟨p.pa,p.vs,iH d.op p.bd k d.n⟩,0)
def fH(p:Pg):List Dl:=(dH p.bd.length).flatMap λk=>(jC p.bd k).map λc=>⟨(ZU p.bd k).getD [],c.1,c.2⟩
def mW(l:List Dl)(d:Dl):Nat->Nat->Nat->Int
 |0,_,_=>-1
 |f+1,lo,hi=>if lo<hi then match l[lo+(hi-lo)/2]?with
  |none=>-1
  |some x=>if jD x d=0 then((lo+(hi-lo)/2:Nat):Int)else if jD x d<0 then mW l d f (lo+(hi-lo)/2+1) hi else mW l d f lo (lo+(hi-lo)/2)
  else-1
def jA(p:Pg)(d:Dl):Pg×Nat:=if gH p≠0 then(mQ,gH p)else if mW (fH p) d ((fH p).length+1) 0 (fH p).length<0 then(mQ,17)else o8 p d
def lE(base d:Int×Int):Int:=if base.1=4 then 0 else if d.1=4 then 2 else if d≠base then 1 else 0
def jL(p:Pg)(d:List Int)(F:Int):Rn:=if lV p d.length F≠0 then⟨(0,0),0,[]⟩else LM p d F
structure Mt where
 d:Dl
 v:Int
 test:Int
 out:Int×Int
 dig:ByteArray
def kX(D:Rn->ByteArray)(q:Pg)(d:Dl)(F:Int)(base:Nat->Int×Int):Nat->List (List Int)->Mt->Mt
 |_,[],best=>best
 |i,a::r,best=>
  let v:=lE (base i) (jL q a F).out
  if v=0\/v=2/\best.v=2 then kX D q d F base (i+1) r best
  else if v=1 then⟨d,v,i,(jL q a F).out,D (jL q a F)⟩
  else kX D q d F base (i+1) r ⟨d,v,i,(jL q a F).out,D (jL q a F)⟩
def rM(p:Pg)(d:List (List Int))(F:Int)(i:Nat):Int×Int:=(jL p (d[i]?.getD []) F).out
def fQ(D:Rn->ByteArray)(p:Pg)(e:List (List Int))(F:Int)(d:Dl):Mt:=kX D (jA p d).1 d F (rM p e F) 0 e ⟨d,0,-1,(0,0),⟨#[]⟩⟩
def nZ(D:Rn->ByteArray)(p:Pg)(d:List (List Int))(F:Int):List Mt:=(fH p).map (fQ D p d F)
theorem aA5(b o:Int×Int):lE b o=0\/lE b o=1\/lE b o=2:=by
 unfold lE;repeat' split
 all_goals omega
theorem VU{b o:Int×Int}(h:lE b o=1):b.1≠4/\o.1≠4/\o≠b:=by
 unfold lE at h;split at h
 .omega
 split at h
 .omega
 split at h
 .rename_i d e f;exact⟨d,e,f⟩
 .omega
theorem OG{p:Pg}{a:List Int}(hF:1<=F)(e:F<=G)(f:G<=10000)(h:(jL p a F).out.1≠4):jL p a G=jL p a F:=by
 have hm:lV p a.length G=lV p a.length F:=by unfold lV;rw[eE (show¬(G<0\/10000<G)from zO),eE (show¬(F<0\/10000<F)from zO)]
 unfold jL at h|-;rw[hm];split
 .rfl
 .rename_i d;rw[eE d]at h;exact aBy zO e h
theorem wI(D:Rn->ByteArray)(q:Pg)(d:Dl)(F:Int)(base:Nat->Int×Int):∀(T:List (List Int))(i:Nat)(f:Mt),f.v≠1->
  (kX D q d F base i T f).v=1->∃(j:Nat)(a:List Int),T[j]?=some a/\lE (base (i+j)) (jL q a F).out=1/\kX D q d F base i T f=⟨d,1,((i+j:Nat):Int),(jL q a F).out,D (jL q a F)⟩
 |[],i,f,hb,h=>absurd h hb
 |a::r,i,f,hb,h=>by
  simp only[kX]at h|-
  split at h
  .rename_i g
   rw[if_pos g]
   obtain⟨j,a',e,k,m⟩:=wI D q d F base r (i+1) f hb h
   exact⟨j+1,a',e,by rw[show i+(j+1)=i+1+j by omega];exact k,by rw[show i+(j+1)=i+1+j by omega];exact m⟩
  .rename_i g
   rw[eE g]
   split at h
   .rename_i e
    rw[eI e]
    exact⟨0,a,rfl,e,by rw[e];rfl⟩
   .rename_i e
    rw[eE e]
    obtain⟨j,a',k,m,n⟩:=wI D q d F base r (i+1) _ e h
    exact⟨j+1,a',k,by rw[show i+(j+1)=i+1+j by omega];exact m,by rw[show i+(j+1)=i+1+j by omega];exact n⟩
theorem yQ(D:Rn->ByteArray)(q:Pg)(d:Dl)(F:Int)(base:Nat->Int×Int):∀(T:List (List Int))(i:Nat)(e:Mt)(j:Nat)(a:List Int),T[j]?=some a->lE (base (i+j)) (jL q a F).out=1->
  ∃(k:Nat)(b:List Int),k<=j/\T[k]?=some b/\kX D q d F base i T e=⟨d,1,((i+k:Nat):Int),(jL q b F).out,D (jL q b F)⟩
 |[],i,e,j,a,h,ht=>by simp at h
 |c::r,i,e,0,a,h,ht=>by
  simp only[dD,dL.injEq]at h
  subst h
  refine⟨0,c,bF _,rfl,?_⟩
  simp only[kX]
  rw[Nat.add_zero]at ht
  rw[if_neg zO,if_pos ht,ht]
  rfl
 |c::r,i,e,j+1,a,h,ht=>by
  rw[cH]at h
  simp only[kX]
  have m:lE (base (i+1+j)) (jL q a F).out=1:=by rw[show i+1+j=i+(j+1) by omega];exact ht
  split
  .obtain⟨k,b,n,f,g⟩:=yQ D q d F base r (i+1) e j a h m
   exact⟨k+1,b,zO,f,by rw[g,show i+(k+1)=i+1+k by omega]⟩
  .split
   .rename_i f
    exact⟨0,c,kU _,rfl,by rw[f];rfl⟩
   .obtain⟨k,b,n,f,g⟩:=yQ D q d F base r (i+1) ⟨d,lE (base i) (jL q c F).out,i,(jL q c F).out,D (jL q c F)⟩ j a h m
    exact⟨k+1,b,zO,f,by rw[g,show i+(k+1)=i+1+k by omega]⟩
theorem KM{D:Rn->ByteArray}{p:Pg}{tests:List (List Int)}{d:Dl}(hF:1<=F)(q:F<=G)(r:G<=10000)(h:(fQ D p tests F d).v=1):
  (fQ D p tests G d).v=1/\(fQ D p tests G d).test<=(fQ D p tests F d).test/\((fQ D p tests G d).test<(fQ D p tests F d).test\/fQ D p tests G d=fQ D p tests F d):=by
 obtain⟨j,a,m,e,n⟩:=wI D _ d F _ tests 0 _ zS h;rw[kQ]at e n;have f:=VU e;have y:rM p tests G j=rM p tests F j:=by unfold rM at f|-;rw[OG hF q r f.1]
 have s:=OG hF q r f.2.1;obtain⟨k,b,A,g,i⟩:=yQ D (jA p d).1 d G (rM p tests G) tests 0 ⟨d,0,-1,(0,0),⟨#[]⟩⟩ j a m (by rw[kQ,y,s];exact e);rw[kQ]at i;have u:fQ D p tests G d=⟨d,1,(k:Int),(jL (jA p d).1 b G).out,D (jL (jA p d).1 b G)⟩:=i;have x:fQ D p tests F d=⟨d,1,(j:Int),(jL (jA p d).1 a F).out,D (jL (jA p d).1 a F)⟩:=n;rw[u,x];refine⟨rfl,by simp only;omega,?_⟩;by_cases hkj:k=j
 .right;subst hkj;rw[m]at g;cases g;rw[s]
 .left;simp only;omega
def XH(l:List Mt):Nat:=(l.filter λm=>m.v==1).length
theorem WD{D:Rn->ByteArray}{p:Pg}{e:List (List Int)}(hF:1<=F)(g:F<=G)(i:G<=10000):XH (nZ D p e F)<=XH (nZ D p e G):=by
 unfold XH nZ;induction fH p with
 |nil=>exact eX _
 |cons d r ih=>
  simp only[List.map_cons,List.filter_cons];by_cases h:(fQ D p e F d).v=1
  .have:=(KM (D:=D) (p:=p) (tests:=e) hF g i h).1;simp only[h,this,beq_self_eq_true,if_true,iW];omega
  .have f:((fQ D p e F d).v==1)=false:=by simpa using h
   rw[f];simp only[Bool.false_eq_true,if_false];split
   .simp only[iW];omega
   .exact ih
structure eN(b:Nat)(w w':aS):Prop where
 os:w'.os=w.os
 tape:w'.tape=w.tape
 output:w'.output=w.output
 size:(w:Nat)<=(w':Nat)
 block:∀k,k<(w:Nat)->k≠b->w'.heap[k]?=w.heap[k]?
theorem eN.refl(b:Nat)(w:aS):eN b w w:=⟨rfl,rfl,rfl,eX _,λ_ _ _=>rfl⟩
theorem eN.trans{b:Nat}{u v w:aS}(h:eN b u v)(k:eN b v w):eN b u w:=
 ⟨k.os.trans h.os,k.tape.trans h.tape,k.output.trans h.output,fA h.size k.size,λi d e=>(k.block i (gV d h.size) e).trans (h.block i d e)⟩
theorem eN.below{b:Nat}{w w':aS}(h:eN b w w')(d:n<=b)(e:n<=w):aV n w w':=
 ⟨h.os,h.tape,h.output,h.size,λk f=>h.block k zO zO⟩
theorem Below.only{b:Nat}{w w':aS}(h:Bl w w'):eN b w w':=⟨h.os,h.tape,h.output,h.size,λk d _=>h.block k d⟩
theorem eN.setCell{b:Nat}{w:aS}(h:eN b u w)(o:Nat)(v:aT):eN b u (qS w (b,o) v):=
 h.trans ⟨rfl,rfl,rfl,zS,λk e d=>pU w (b,o) v k d⟩
theorem eN.drew{b:Nat}{w:aS}(h:eN b u w):eN b u w.drew:=⟨h.os,h.tape,h.output,h.size,h.block⟩
section
variable {P : bB} {ops : Array Oper} {Q : Exit → Act → aS → Prop} {md : Region.Mode}
def vP(md:Region.Mode)(ops:Array Oper)(i:Nat)(d:List Nat)(j:Nat):List Nat:=match ops[j]?with
 |some o=>if(o.after.toList.any λe=>Region.binds md e&&(e.on==i||d.contains e.on))=true then j::d else d
 |none=>d
def WG(md:Region.Mode)(ops:Array Oper)(i:Nat):List Nat:=(dH ops.size).foldl (vP md ops i) []
def n9(md:Region.Mode)(ops:Array Oper)(I:List Nat)(real:Array Bool):List Nat:=I.filter λi=>(WG md ops i).all λm=>!real.getD m true
inductive iV(T:Nat->aS->Prop)(w:aS):List Nat->Prop
 |nil:iV T w []
 |cons {i:Nat} {l:List Nat} (h:T i w) (hl:iV T w l):iV T w (i::l)
theorem iV.at{T:Nat->aS->Prop}{w:aS}{l:List Nat}(h:iV T w l):∀i∈l,T i w:=by
 induction h with
 |nil=>intro i d;cases d
 |cons h _ ih=>
  intro i d;obtain rfl|d:=xD.1 d
  .exact h
  .exact ih i d
theorem iV.of{T:Nat->aS->Prop}{w:aS}:∀{l:List Nat},(∀i∈l,T i w)->iV T w l
 |[],_=>.nil
 |i::r,h=>.cons (h i (List.mem_cons_self ..)) (iV.of λk d=>h k (List.mem_cons_of_mem _ d))
def DU(md:Region.Mode)(ops:Array Oper)(listed:Array Bool):Prop:=∀(k:Nat)(o:Oper),ops[k]?=some o->listed.getD k true=true->∀e∈o.after,Region.binds md e=true->listed.getD e.on true=true
theorem BA{listed:Array Bool}(A:DU md ops listed):∀j∈WG md ops i,(∀o,ops[j]?=some o->∀e∈o.after,Region.binds md e=true->listed.getD e.on true=true)->listed.getD i true=true:=by
 have go:∀(l f:List Nat),(∀j∈f,(∀o,ops[j]?=some o->∀e∈o.after,Region.binds md e=true->listed.getD e.on true=true)->listed.getD i true=true)->(∀j∈f,∃o,ops[j]?=some o)->
   ∀j∈l.foldl (vP md ops i) f,(∀o,ops[j]?=some o->∀e∈o.after,Region.binds md e=true->listed.getD e.on true=true)->listed.getD i true=true:=by
  intro l
  induction l with
  |nil=>intro f h _ j d;exact h j d
  |cons x r ih=>
   intro f h g
   rw[List.foldl_cons]
   refine ih _ ?_ ?_
   .intro j d
    unfold vP at d
    split at d
    .rename_i o m
     split at d
     .rename_i u
      obtain rfl|d:=List.mem_cons.1 d
      .intro s
       obtain⟨e,he,k⟩:=List.any_eq_true.1 u
       simp only[Bool.and_eq_true,Bool.or_eq_true,beq_iff_eq,List.contains_iff_mem]at k
       have n:=s o m e (by simpa using he) k.1
       obtain h1|h1:=k.2
       .rw[<-h1];exact n
       .obtain⟨F,E⟩:=g _ h1
        exact h _ h1 λD C q B y=>A _ D C n q B y
      .exact h j d
     .exact h j d
    .exact h j d
   .intro j d
    unfold vP at d
    split at d
    .rename_i o m
     split at d
     .obtain rfl|d:=List.mem_cons.1 d
      .exact⟨o,m⟩
      .exact g j d
     .exact g j d
    .exact g j d
 exact go _ [] (λj d=>by cases d) (λj d=>by cases d)
theorem nU{l:Array Bool}(h:l.getD i true=true):(l.setIfInBounds j true).getD i true=true:=by
 by_cases hij:j=i
 .subst hij;obtain h'|h':=cM j l.size
  .simp[h']
  .simp
 .rw[getD_set_ne true hij];exact h
theorem FH{I:List Nat}{e:Array Bool}(f:∀m,r.getD m true=true->e.getD m true=true)(h:k∈n9 md ops I e):k∈n9 md ops I r:=by
 unfold n9 at h|-;rw[List.mem_filter]at h|-;refine⟨h.1,IR.2 λm hm=>?_⟩;have d:=IR.1 h.2 m hm;cases hl:r.getD m true with
 |false=>rfl
 |true=>rw[f m hl]at d;cases d
theorem iV.sub{T:Nat->aS->Prop}{w:aS}{l d:List Nat}(h:iV T w l)(f:∀k∈d,k∈l):iV T w d:=iV.of λk e=>h.at k (f k e)
def gS(P:bB)(md:Region.Mode)(ops:Array Oper)(Q:Exit->Act->aS->Prop)(I:List Nat)(T:Nat->aS->Prop):Nat->Array Bool->Array Bool->Act->aS->Prop
 |0,listed,_,a,w=>Region.ready md ops listed=[]/\Q .normal a w
 |fuel+1,listed,real,a,w=>
  (Region.ready md ops listed=[]->Q .normal a w)/\∀j∈Region.ready md ops listed,wpOp P ops Q j (λa' w'=>iV T w' (n9 md ops I (real.setIfInBounds j true))/\gS P md ops Q I T fuel (listed.setIfInBounds j true) (real.setIfInBounds j true) a' w') a w
theorem gS.any{I:List Nat}{T:Nat->aS->Prop}:∀{fuel:Nat}{listed real:Array Bool}{a:Act}{w:aS},gS P md ops Q I T fuel listed real a w->wpAny P md ops Q fuel listed a w
 |0,_,_,_,_,h=>h
 |fuel+1,_,_,_,_,h=>⟨h.1,λi D=>wpOp_mono (λ_ _ B=>gS.any B.2) (h.2 i D)⟩
theorem sV{d:Array Bool}(f:r.size=d.size)(e:∀m,r.getD m true=true->d.getD m true=true)(j:Nat):∀m,(r.setIfInBounds j true).getD m true=true->(d.setIfInBounds j true).getD m true=true:=λm h=>by
 by_cases hj:j=m
 .subst hj
  obtain h'|h':=cM j d.size
  .simp[h']
  .simp
 .rw[getD_set_ne true hj]at h|-;exact e m h
theorem gS.weaken{I:List Nat}{T:Nat->aS->Prop}:∀{fuel:Nat}{listed r B:Array Bool}{a:Act}{w:aS},r.size=B.size->(∀m,r.getD m true=true->B.getD m true=true)->gS P md ops Q I T fuel listed r a w->gS P md ops Q I T fuel listed B a w
 |0,_,_,_,_,_,_,_,h=>h
 |fuel+1,_,_,_,_,_,hz,hr,h=>⟨h.1,λj J=>wpOp_mono (λ_ _ D=>⟨D.1.sub λk M=>FH (sV hz hr j) M,gS.weaken (by simpa using hz) (sV hz hr j) D.2⟩) (h.2 j J)⟩
theorem sD{listed:Array Bool}(m:DU md ops listed)(q:j∈Region.ready md ops listed):DU md ops (listed.setIfInBounds j true):=by
 obtain⟨u,o,r,i⟩:=mem_ready.1 q;have n:∀k,k≠j->(listed.setIfInBounds j true).getD k true=listed.getD k true:=λk d=>getD_set_ne true (Ne.symm d);intro k s d h e he g;by_cases hkj:k=j
 .subst hkj;rw[r]at d;cases d;have f:=i e he g;refine nU ?_;obtain h'|h':=cM e.on listed.size
  .simp[h']at f|-;exact f
  .simp[dG h']
 .rw[n k hkj]at h;exact nU (m k s d h e he g)
theorem gS.first{I:List Nat}{T:Nat->aS->Prop}(hi:ops[i]?=some N)(U:i∈I\/∀w,T i w)(af:∀(j:Nat) (o:Oper) O b,ops[j]?=some o->o.op≠.select O b)
  (hQ:∀c a w,Q (.panic c) (a.put N.dst v) w->Q (.panic c) a w):∀(fuel:Nat)(listed real:Array Bool)(a:Act)(w:aS),DU md ops listed->(listed.size=real.size/\∀m,real.getD m true=true->listed.getD m true=true)->
   (∀j D,ops[j]?=some D->j≠i->listed.getD j true=false->(∀e∈D.after,Region.binds md e=true->e.on≠i)->N.apart ops D=true)->
   i∈Region.ready md ops listed->YieldsIf P ops (T i) N v a->T i w->iV T w (n9 md ops I real)->gS P md ops Q I T fuel (listed.setIfInBounds i true) real (a.put N.dst v) w->gS P md ops Q I T (fuel+1) listed real a w:=by
 intro fuel
 induction fuel with
 |zero=>
  intro listed real a w W Z _ M x y hT H
  refine⟨λh=>(by rw[h]at M;cases M),λj X=>?_⟩
  by_cases hji:j=i
  .subst hji
   exact x.wpOp hi y ⟨hT.sub λk Y=>FH (λm hm=>nU hm) Y,H⟩
  .have:=ready_mono X hji
   rw[H.1]at this
   cases this
 |succ fuel ih=>
  intro listed real a w W Z ab M x y hT H
  refine⟨λh=>(by rw[h]at M;cases M),λj X=>?_⟩
  by_cases hji:j=i
  .subst hji
   exact x.wpOp hi y ⟨hT.sub λk Y=>FH (λm hm=>nU hm) Y,H.weaken zS λm hm=>nU hm⟩
  .have h1:=H.2 j (ready_mono X hji)
   obtain⟨ac,D,u,ai⟩:=mem_ready.1 X
   have ae:∀e∈D.after,Region.binds md e=true->listed.getD e.on true=true:=λe he J=>by
    have B:=ai e he J
    obtain h'|h':=cM e.on listed.size
    .simp[h']at B|-;exact B
    .simp[dG h']
   have aa:=(mem_ready.1 M).1
   have ak:∀m∈WG md ops i,(real.setIfInBounds j true).getD m true=false:=by
    intro m hm
    have am:j≠m:=by
     rintro rfl
     have B:=BA W j hm λo f e he J=>by rw[u]at f;cases f;exact ae e he J
     rw[aa]at B
     cases B
    rw[getD_set_ne true am]
    cases hl:real.getD m true with
    |false=>rfl
    |true=>
     have B:=BA W m hm λo f e he J=>W m o f (Z.2 m hl) e he J
     rw[aa]at B
     cases B
   have ap:∀e∈D.after,Region.binds md e=true->e.on≠i:=λe he J aj=>by
    have B:=ae e he J
    rw[aj,aa]at B
    cases B
   have B:=wpOp_putIf (S:=T i) u (ab j D u hji ac ap) (λO b=>af i N O b hi) (λO b=>af j D O b u) hQ x h1
   refine wpOp_mono (λa' w' R=>?_) B
   have ah:T i w':=by
    obtain U|U:=U
    .refine R.2.1.at i ?_
     unfold n9
     rw[List.mem_filter]
     exact⟨U,IR.2 λm hm=>by rw[ak m hm];rfl⟩
    .exact U w'
   refine⟨R.2.1,ih (listed.setIfInBounds j true) (real.setIfInBounds j true) a' w' (sD W X) ⟨by simpa using Z.1,sV Z.1.symm Z.2 j⟩ (λk ok Y al ag ao=>ab k ok Y al ?_ ao) (ready_mono M (Ne.symm hji)) R.1 ah R.2.1 ?_⟩
   .by_cases hjk:j=k
    .subst hjk;exact ac
    .rw[getD_set_ne true hjk]at ag;exact ag
   .rw[Array.setIfInBounds_comm _ _ hji]
    exact R.2.2
structure G9(md:Region.Mode)(ops:Array Oper)(listed real:Array Bool):Prop where
 cl:DU md ops listed
 sz:listed.size=real.size
 re:∀m,real.getD m true=true->listed.getD m true=true
theorem G9.start:G9 md ops (bQ ops.size false) (bQ ops.size false):=by refine⟨λk o d e=>?_,rfl,λ_ h=>h⟩;have:=(fB.1 d).1;simp[this]at e
theorem G9.virtual{listed real:Array Bool}(h:G9 md ops listed real)(d:(Region.ready md ops listed).contains i=true):G9 md ops (listed.setIfInBounds i true) real:=
 ⟨sD h.cl (by simpa using d),by simpa using h.sz,λm hm=>nU (h.re m hm)⟩
theorem G9.real{listed real:Array Bool}(h:G9 md ops listed real)(d:Region.ready md ops listed=[j]):G9 md ops (listed.setIfInBounds j true) (real.setIfInBounds j true):=
 ⟨sD h.cl (by rw[d];exact List.mem_singleton_self _),by simpa using h.sz,sV h.sz.symm h.re j⟩
theorem gS.take{I:List Nat}{T:Nat->aS->Prop}{d:Oper}(v:aT){fuel:Nat}{listed real:Array Bool}{a:Act}{w:aS}(e:G9 md ops listed real)(hT:iV T w (n9 md ops I real))(f:ops[i]?=some d)(j:i∈I\/∀w,T i w)
  (n:Region.noSelect ops=true)(hf:Region.free md ops listed i=true)(g:(Region.ready md ops listed).contains i=true)
  (k:∀c a w,Q (.panic c) (a.put d.dst v) w->Q (.panic c) a w)(hw:bT d (yielded ops a.tmps)=true)(m:T i w)(q:∀U,T i U->(execOp a.eval d).run P U=.ok (.value v) U)
  (h:G9 md ops (listed.setIfInBounds i true) real->gS P md ops Q I T fuel (listed.setIfInBounds i true) real (a.put d.dst v) w):gS P md ops Q I T (fuel+1) listed real a w:=
 gS.first f j (Region.noSelect_spec n) k fuel listed real a w e.cl ⟨e.sz,e.re⟩ (Region.free_spec f hf) (by simpa using g) (.inl ⟨hw,q⟩) m hT (h (e.virtual g))
theorem gS.one{I:List Nat}{T:Nat->aS->Prop}{rs:List Nat}{o:Oper}{fuel:Nat}{listed real:Array Bool}{a:Act}{w:aS}(S:G9 md ops listed real)(B:Region.ready md ops listed=[j])(R:ops[j]?=some o)
  (O:n9 md ops I (real.setIfInBounds j true)=rs)
  (h:∀K:Act->aS->Prop,(∀a' w',iV T w' rs->(G9 md ops (listed.setIfInBounds j true) (real.setIfInBounds j true)->iV T w' (n9 md ops I (real.setIfInBounds j true))->gS P md ops Q I T fuel (listed.setIfInBounds j true) (real.setIfInBounds j true) a' w')->K a' w')->
   if bT o (yielded ops a.tmps)=true then Oper.wp P o a w K Q else K (a.put o.dst aY) w):gS P md ops Q I T (fuel+1) listed real a w:=by
 refine⟨λM=>(by rw[M]at B;cases B),λi J=>?_⟩
 have U:=S.real B
 rw[B]at J
 simp only[rD]at J
 subst J
 refine wpOp_step R λK hK=>h K λa' w' D N=>?_
 rw[<-O]at D
 exact hK a' w' ⟨D,N U D⟩
theorem gS.done{I:List Nat}{T:Nat->aS->Prop}{listed real:Array Bool}{a:Act}{w:aS}(d:Region.ready md ops listed=[])(h:Q .normal a w):∀{fuel:Nat},gS P md ops Q I T fuel listed real a w
 |0=>⟨d,h⟩
 |_+1=>⟨λ_=>h,by rw[d];simp⟩
end
theorem t9{P:bB}{ops:Array Oper}{a:Act}{w:aS}{Q:Exit->Act->aS->Prop}(I:List Nat)(T:Nat->aS->Prop)(hm:P.follows .mixedOrders=true)(hT:iV T w.drew I)
  (h:G9 .any ops (bQ ops.size false) (bQ ops.size false)->iV T w.drew (n9 .any ops I (bQ ops.size false))->gS P .any ops Q I T ops.size (bQ ops.size false) (bQ ops.size false) a w.drew):(Code.region id ops true).wp P Q a w:=
 wp_region_any hm (gS.any (h G9.start (hT.sub λk B=>(List.mem_filter.1 B).1)))
section
variable {P : bB} {ops : Array Oper} {Q : Exit → Act → aS → Prop} {md : Region.Mode}
theorem G9.real'{listed real:Array Bool}(h:G9 md ops listed real)(d:j∈Region.ready md ops listed):G9 md ops (listed.setIfInBounds j true) (real.setIfInBounds j true):=
 ⟨sD h.cl d,by simpa using h.sz,sV h.sz.symm h.re j⟩
theorem gS.two{I:List Nat}{T:Nat->aS->Prop}{D:Nat}{X Y:List Nat}{fuel:Nat}{listed real:Array Bool}{a:Act}{w:aS}(ab:G9 md ops listed real)(R:Region.ready md ops listed=[B,D])(y:ops[B]?=some M)(aa:ops[D]?=some N)
  (u:n9 md ops I (real.setIfInBounds B true)=X)(x:n9 md ops I (real.setIfInBounds D true)=Y)
  (f:∀K:Act->aS->Prop,(∀a' w',iV T w' X->(G9 md ops (listed.setIfInBounds B true) (real.setIfInBounds B true)->iV T w' (n9 md ops I (real.setIfInBounds B true))->gS P md ops Q I T fuel (listed.setIfInBounds B true) (real.setIfInBounds B true) a' w')->K a' w')->
   if bT M (yielded ops a.tmps)=true then Oper.wp P M a w K Q else K (a.put M.dst aY) w)
  (j:∀K:Act->aS->Prop,(∀a' w',iV T w' Y->(G9 md ops (listed.setIfInBounds D true) (real.setIfInBounds D true)->iV T w' (n9 md ops I (real.setIfInBounds D true))->gS P md ops Q I T fuel (listed.setIfInBounds D true) (real.setIfInBounds D true) a' w')->K a' w')->
   if bT N (yielded ops a.tmps)=true then Oper.wp P N a w K Q else K (a.put N.dst aY) w):gS P md ops Q I T (fuel+1) listed real a w:=by
 refine⟨λZ=>(by rw[Z]at R;cases R),λi S=>?_⟩
 have W:=ab.real' S
 have U:=S
 rw[R]at U
 obtain rfl|hi3:=xD.1 U
 .refine wpOp_step y λK hK=>f K λa' w' J O=>?_
  rw[<-u]at J
  exact hK a' w' ⟨J,O W J⟩
 .obtain rfl:=rD.1 hi3
  refine wpOp_step aa λK hK=>j K λa' w' J O=>?_
  rw[<-x]at J
  exact hK a' w' ⟨J,O W J⟩
end
section
variable {P : bB} {ops : Array Oper} {Q : Exit → Act → aS → Prop} {md : Region.Mode}
theorem nI{a b:Bool}(h:(a&&b)=true):a=true/\b=true:=by simpa using h
def AG(P:bB)(md:Region.Mode)(ops:Array Oper)(Q:Exit->Act->aS->Prop)(I:List Nat)(T:Nat->aS->Prop)(fuel:Nat)(listed real:Array Bool)(a:Act)(w:aS):Prop:=
 G9 md ops listed real->iV T w (n9 md ops I real)->gS P md ops Q I T fuel listed real a w
variable {I : List Nat} {T : Nat → aS → Prop} {fuel : Nat} {listed real : Array Bool} {a a' : Act} {w w' : aS}
theorem jV(i:Nat){B:Oper}(h:AG P md ops Q I T fuel (listed.setIfInBounds i true) real a' w)(R:ops[i]?=some B:=by rfl)
  (D:(Region.noSelect ops&&(Region.free md ops listed i&&((Region.ready md ops listed).contains i&&bT B (yielded ops a.tmps))))=true:=by kernel_rfl)
  (J:∀w,T i w:=by exact λ_=>trivial)(N:∀c a w,Q (.panic c) (a.put B.dst v) w->Q (.panic c) a w:=by exact λ_ _ _ h=>h)
  (W:∀U,(execOp a.eval B).run P U=.ok (.value v) U:=by intro U;go_simp<;>with_reducible rfl)
  (O:a.put B.dst v=a':=by simp only[Act.put,List.getElem_toArray,List.getElem_cons_zero,List.getElem_cons_succ,List.setIfInBounds_toArray,List.set_cons_zero,List.set_cons_succ]<;>rfl):AG P md ops Q I T (fuel+1) listed real a w:=λS hT=>
 gS.take v S hT R (.inr J) (nI D).1 (nI (nI D).2).1 (nI (nI (nI D).2).2).1 N (nI (nI (nI D).2).2).2 (J w) (λU _=>W U) λM=>by rw[O];exact h M hT
theorem BS(i:Nat){B:Oper}(h:AG P md ops Q I T fuel (listed.setIfInBounds i true) real a' w)(S:ops[i]?=some B:=by rfl)
  (J:((n9 md ops I real).contains i&&(I.contains i&&(Region.noSelect ops&&(Region.free md ops listed i&&((Region.ready md ops listed).contains i&&bT B (yielded ops a.tmps))))))=true:=by kernel_rfl)
  (N:∀c a w,Q (.panic c) (a.put B.dst v) w->Q (.panic c) a w:=by exact λ_ _ _ h=>h)
  (X:∀U,T i U->(execOp a.eval B).run P U=.ok (.value v) U:=by intro U O;(try(conv at O=>whnf));go_simp<;>with_reducible rfl)
  (R:a.put B.dst v=a':=by simp only[Act.put,List.getElem_toArray,List.getElem_cons_zero,List.getElem_cons_succ,List.setIfInBounds_toArray,List.set_cons_zero,List.set_cons_succ]<;>rfl):AG P md ops Q I T (fuel+1) listed real a w:=λW hT=>
 have D:=(nI (nI J).2).2
 gS.take v W hT S (.inl (List.contains_iff_mem.1 (nI (nI J).2).1)) (nI D).1 (nI (nI D).2).1 (nI (nI (nI D).2).2).1 N (nI (nI (nI D).2).2).2 (hT.at i (List.contains_iff_mem.1 (nI J).1)) X λM=>by rw[R];exact h M hT
theorem tG(j:Nat)(D:List Nat){o:Oper}
  (h:∀K:Act->aS->Prop,(∀a' w',iV T w' D->AG P md ops Q I T fuel (listed.setIfInBounds j true) (real.setIfInBounds j true) a' w'->K a' w')->
   if bT o (yielded ops a.tmps)=true then Oper.wp P o a w K Q else K (a.put o.dst aY) w)
  (N:ops[j]?=some o:=by rfl)
  (B:(Region.ready md ops listed,n9 md ops I (real.setIfInBounds j true))=([j],D):=by kernel_rfl):AG P md ops Q I T (fuel+1) listed real a w:=λO _=>
 gS.one O (congrArg Prod.fst B) N (congrArg Prod.snd B) λK hK=>h K λa' w' J M=>hK a' w' J M
theorem EY(j:Nat)(B:List Nat){o:Oper}(h:AG P md ops Q I T fuel (listed.setIfInBounds j true) (real.setIfInBounds j true) a' w')(D:ops[j]?=some o:=by rfl)
  (J:(Region.ready md ops listed,n9 md ops I (real.setIfInBounds j true))=([j],B):=by kernel_rfl)
  (hw:∀K:Act->aS->Prop,K a' w'->if bT o (yielded ops a.tmps)=true then Oper.wp P o a w K Q else K (a.put o.dst aY) w:=by intro K hK;go_simp;exact hK)
  (hT:iV T w' B:=by exact .nil):AG P md ops Q I T (fuel+1) listed real a w:=
 tG j B (λK hK=>hw K (hK a' w' hT h)) D J
theorem zgP(i:Nat){f:Oper}(h:AG P md ops Q I T fuel (listed.setIfInBounds i true) real a' w)(j:ops[i]?=some f:=by rfl)
  (d:(Region.noSelect ops&&(Region.free md ops listed i&&((Region.ready md ops listed).contains i&&!Region.wanted f (yielded ops a.tmps))))=true:=by kernel_rfl)
  (g:∀w,T i w:=by exact λ_=>trivial)(k:∀c a w,Q (.panic c) (a.put f.dst aY) w->Q (.panic c) a w:=by exact λ_ _ _ h=>h)
  (m:a.put f.dst aY=a':=by simp only[Act.put,List.getElem_toArray,List.getElem_cons_zero,List.getElem_cons_succ,List.setIfInBounds_toArray,List.set_cons_zero,List.set_cons_succ]<;>rfl):AG P md ops Q I T (fuel+1) listed real a w:=λe hT=>
 gS.first j (.inr g) (Region.noSelect_spec (nI d).1) k fuel listed real a w e.cl ⟨e.sz,e.re⟩ (Region.free_spec j (nI (nI d).2).1) (by simpa using(nI (nI (nI d).2).2).1) (.inr ⟨by simpa using(nI (nI (nI d).2).2).2,rfl⟩) (g w) hT (by rw[m];exact h (e.virtual (nI (nI (nI d).2).2).1) hT)
theorem zgM(B D:Nat)(O R:List Nat){J:Oper}
  (S:∀K:Act->aS->Prop,(∀a' w',iV T w' O->AG P md ops Q I T fuel (listed.setIfInBounds B true) (real.setIfInBounds B true) a' w'->K a' w')->
   if bT J (yielded ops a.tmps)=true then Oper.wp P J a w K Q else K (a.put J.dst aY) w)
  (U:∀K:Act->aS->Prop,(∀a' w',iV T w' R->AG P md ops Q I T fuel (listed.setIfInBounds D true) (real.setIfInBounds D true) a' w'->K a' w')->
   if bT M (yielded ops a.tmps)=true then Oper.wp P M a w K Q else K (a.put M.dst aY) w)
  (W:ops[B]?=some J:=by rfl)(X:ops[D]?=some M:=by rfl)
  (N:(Region.ready md ops listed,n9 md ops I (real.setIfInBounds B true),n9 md ops I (real.setIfInBounds D true))=([B,D],O,R):=by kernel_rfl):AG P md ops Q I T (fuel+1) listed real a w:=λY _=>
 gS.two Y (congrArg Prod.fst N) W X (congrArg (·.2.1) N) (congrArg (·.2.2) N) (λK hK=>S K λa' w' x y=>hK a' w' x y) λK hK=>U K λa' w' x y=>hK a' w' x y
theorem QU(h:Q .normal a w)(d:Region.ready md ops listed=[]:=by kernel_rfl):AG P md ops Q I T fuel listed real a w:=λ_ _=>gS.done d h
end
theorem zgW{P:bB}{ops:Array Oper}{a:Act}{w:aS}{Q:Exit->Act->aS->Prop}(I:List Nat)(T:Nat->aS->Prop)(hT:iV T w.drew I)
  (h:AG P .any ops Q I T ops.size (bQ ops.size false) (bQ ops.size false) a w.drew)(hm:P.follows .mixedOrders=true:=by kernel_rfl):(Code.region id ops true).wp P Q a w:=
 t9 I T hm hT h
def aIO{α:Type}(d:Nat)(I:List α->aS->Prop)(xs:List α)(W:aS):Exit->Act->aS->Prop
 |.normal,_,W'=>KeepsOthers W W'/\W'.heap[d]?=W.heap[d]?/\I xs W'
 |_,_,_=>False
def aFf{α:Type}(n:Nat)(P:bB)(gf g:Nat)(lb:Array aT)(aa:α->Array aT)(xs:List α)(w:aS):Prop:=
 ∀(l:Nat)(J:List α->aS->Prop)(W:aS),W.heap[g]?=w.heap[g]?->(∀f d v,J f d->J f (d.setCell ⟨g,0,none⟩ v))->
  (∀f x d,J f d->f++[x]<+:xs->YieldAt Fence.wide n P l (aa x) d λe h=>e=aO (.bool true)/\J (f++[x]) h/\h.heap[g]?=d.heap[g]?)->
  J [] W->CallsIn Fence.wide (n+1) P gf (#[.func (.yield l) #[] #[]]++lb) W λe h=>(∃v,e=aO v)/\J xs h
theorem pK{W:aS}(h:k≠B):(qS W (B,0) v).heap[k]?=W.heap[k]?:=pU W (B,0) v k h
theorem aCw{α:Type}{P:bB}{g:Operand}{ps:Array Tmp}{assign body:Code}{Q:Exit->Act->aS->Prop}{a:Act}{w:aS}{gf Bn:Nat}{lb:Array aT}
  (hg:a.eval g=.func (.func gf) #[] lb)(eg:∀ae w,(callFunc gf ae).run P w=.ok (.enter gf ae) w)
  {ab:α->Array aT}{xs:List α}(a1:aFf n P gf Bn lb ab xs w)(ah:Bn<w)(aL:∀x,(ab x).size=ps.size)
  (I:List α->aS->Prop)(hI:OwnFrom w I)(aj:∀B W v,I B W->I B (qS W (Bn,0) v))(h0:I [] w)(af:α->Act)
  (ak:∀(l:Nat) (x:α) (W:aS) (K:Act->aS->Prop),K (af x) W->
   assign.wpIn (Fence.wide.inRound l) n P (Exit.then K (λ_ _ _=>False)) {tmps:=(ps.zip (ab x)).foldl (λt (p,v)=>t.setIfInBounds p v) a.tmps,defers:=[]} W)
  (ao:∀(l:Nat) (B:List α) (x:α) (W:aS),I B W->B++[x]<+:xs->body.wpIn (Fence.wide.inRound l) n P (aIO Bn I (B++[x]) W) (af x) W)
  (ar:∀(D:Nat) (W:aS),w<=D->I xs W->W.heap[D]?=some (aM (some []))->Q .normal {a with defers:={target:=.collected D,args:=#[]}::a.defers} W):
  (Code.rangeFunc g ps assign body).wpIn Fence.wide (n+2) P Q a w:=by
 refine wpIn_rangeFunc λfn au=>?_;obtain⟨J,N⟩:∃J:LoopState->Loop,J=λst=>{state:=st,pending:=none,fn,tmps:=a.tmps,params:=ps,assign,body,defers:=w.heap.size}:=⟨_,rfl⟩;obtain⟨V,hV⟩:=eR ((w.alloc (aM (some []))).alloc (aN (J .ready)));have a2:V=w.heap.size+1+1:=by rw[<-hV,fO,fO]
 have a0:V.heap[w.heap.size+1]?=some (aN (J .ready)):=by have:=E9 (w.alloc (aM (some []))) (aN (J .ready));rw[fO,hV]at this;exact this
 have aq:V.heap[w.heap.size]?=some (aM (some [])):=by rw[<-hV];exact(iI _ _ _ zS).trans (E9 w _)
 have ai:I [] V:=by rw[<-hV];exact hI.alloc _ (hI.alloc _ h0)
 have ag:V.heap[Bn]?=w.heap[Bn]?:=by rw[<-hV];exact(iI _ _ _ (by simp only[fO];omega)).trans (iI _ _ _ ah)
 refine⟨w.heap.size+1,[{target:=.collected w,args:=#[]}],V,{target:=.fn (.func gf) lb,args:=#[.func (.yield (w.heap.size+1)) #[] #[]]},V,gf,
  #[.func (.yield (w.heap.size+1)) #[] #[]]++lb,V,?_,?_,(λ_ _=>trivial),?_,(λh=>by cases h),?_⟩
 .rw[<-hV,N];exact run_enterLoop_outer _ _ _ _ _
 .simp only[resolve,hg];simp[go_sem]
 .simp[invoke,go_sem,eg]
 .refine(a1 (w.heap.size+1) (λB W=>I B W/\W.heap[w.heap.size+1]?=some (aN (J .ready))/\W.heap[w.heap.size]?=some (aM (some []))) V ag
   (λB W v h=>⟨aj B W v h.1,(pK zO).trans h.2.1,(pK zO).trans h.2.2⟩) ?_ ⟨ai,a0,aq⟩).mono ?_
  .rintro B x W⟨hi,M,hd⟩az;have ay:w+1<W.heap.size:=(fB.1 M).1;have hy:=run_yield (P:=P) (args:=ab x) M (by rw[N];exact aL x);rw[N]at hy;refine⟨fn,_,assign,body,hy,roundIn_of_wpIn au (ak _ x W _ ⟨_,run_beginRound M (by rw[N]),?_⟩)⟩;obtain⟨W2,aa⟩:=eR (W.putObj (w.heap.size+1) (aN {J .ready with state:=.busy}));have ax:W2.heap[w.heap.size+1]?=some (aN {J .ready with state:=.busy}):=by rw[<-aa];exact G1 ay
   have G7:W2.heap[w.heap.size]?=some (aM (some [])):=by rw[<-aa];exact(jY zO).trans hd
   have al:W2.heap[Bn]?=W.heap[Bn]?:=by rw[<-aa];exact jY zO
   have av:I B W2:=by rw[<-aa];exact hI.putObj _ hi zO M rfl
   rw[aa];refine wpIn_mono (ao _ B x W2 av az) ?_;rintro e a3 W3 hp;cases e with
   |normal=>obtain⟨hk,am,aw⟩:=hp;have ac:=hk.same _ _ ax rfl;have ap:=hk.same _ _ G7 rfl;have hr:=run_endRound (P:=P) none ac;refine⟨_,_,hr,rfl,⟨hI.putObj _ aw zO ac rfl,?_,(jY zO).trans ap⟩,(jY zO).trans (am.trans al)⟩;rw[G1 (fB.1 ac).1,N];rfl
   |ret=>exact hp.elim
   |exit id=>exact hp.elim
   |goto t=>exact hp.elim
   |panic ch=>exact hp.elim
   |outgrown=>exact hp.elim
  .rintro e W2⟨⟨v,rfl⟩,hi,M,hd⟩;have hr:=run_endLoop (P:=P) M (by rw[N];simp);refine⟨none,_,by rw[N]at hr;exact hr,ar _ _ (eX _) (hI.putObj _ hi zO M rfl) ((jY zO).trans hd)⟩
end Go.Proofs.YtgmjilingndloaaGreatDoor
