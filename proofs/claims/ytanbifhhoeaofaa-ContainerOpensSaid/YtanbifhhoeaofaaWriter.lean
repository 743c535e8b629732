/- wire's Writer: what each method makes of it. No conditions. -/
import Derived.Test.YtanbifhhoeaofaaBytes
import Derived.Test.YtanbifhhoeaofaaZigRef
import Derived.RangeFuncBox
namespace Go.Proofs.Ytanbifhhoeaofaa
set_option linter.unusedVariables false
open Go Go.RowKit

/-- v' lies where v lay, or in a block from N on -/
def Fresh (N : Nat) (v v' : Value) : Prop := v'.ownBlock = v.ownBlock ∨ ∃ k, v'.ownBlock = some k ∧ N ≤ k
theorem append_byte' {W : World} {ops : Array Oper} {rest : List Oper} {o : Oper} {act : Act} {Q : Exit → Act → World → Prop} (hgd : o.guard = none) (s x : Operand)
    (ho : o.op = .call { callee := .builtin .append, args := #[s, x], argTypes := #[61, 61] }) (n : Nat) (v : Value) (l : List UInt8) (hs : act.eval s = v) (hrow : BRow W n v l)
    (b : UInt8) (z : Int) (hz : z = (b.toNat : Int)) (hx : act.eval x = .slice (some ⟨W.heap.size, 0, none⟩) 1 1) (hn : n ≤ W.heap.size) (hle : l.length ≤ 100000000)
    (h : ∀ v' w', BRow w' n v' (l ++ [b]) → (W.alloc (.cells #[.int .u8 z] 5)).grownBy w' v.ownBlock → Fresh W.heap.size v v' → wpList Try.prog ops Q rest (act.put o.dst v') w') :
    wpList Try.prog ops Q (o :: rest) act (W.alloc (.cells #[.int .u8 z] 5)) := by
  obtain ⟨i0, hi, hz0, hz1, hz2⟩ := info_parts infoB
  subst hz
  refine wpList_append_lies _ hgd s x 61 ho n 5 i0 (.int .u8 0) 1 1 Try.underlying61 hi hz0 hz1 hz2 rfl (by decide) v l.length (l.map bVal) hs (World.ownsRow.alloc hrow _) ⟨W.heap.size, 0, none⟩ 1 1 [bVal b] hx rfl (cell_one_new _ _ _) (by intro u hu; simp at hu; subst hu; rfl) (by decide) (by unfold maxLen; omega) (by omega) (by simp; omega) (W.heap.size + 1) (by simp) (fun g cap w' hown hg hloc _ => h _ w' ?_ hg ?_)
  · unfold BRow; simpa using hown
  · rcases hloc with h1 | h1
    · exact .inl (by rw [h1]; rfl)
    · exact .inr ⟨g, rfl, by omega⟩
section
variable (w : World)
theorem text_lies (n : Nat) (v : Value) (l : List UInt8) (hrow : BRow w n v l) (t : ByteArray) (ty : TypeId) (hle : l.length + t.size ≤ 100000000) (v' : Value) (w' : World)
    (hr : (Builtin.append_ #[61, 9] ty #[v, .string t]).run Try.prog w = .ok v' w') (hnil : v' = .slice none 0 0 ↔ v = .slice none 0 0 ∧ t.size = 0) : Fresh w.heap.size v v' := by
  obtain ⟨i0, hi, hz0, hz1, hz2⟩ := info_parts infoB
  rcases hrow.2 with ⟨rfl, h0⟩ | ⟨g, cap, cur, rfl, hbg, hg, hnc, hcm, hcs, htake⟩
  · by_cases hm : t.size = 0
    · rw [hnil.2 ⟨rfl, hm⟩]; exact .inl rfl
    · have := Go.run_append_nil_string (P := Try.prog) w 61 9 ty 5 i0 (.int .u8 0) Try.underlying61 Try.underlying9 hi hz0 t (by omega) (by omega) (by rw [hz2]; omega)
      rw [this] at hr
      injection hr with h1 h2
      subst h1
      exact .inr ⟨_, rfl, Nat.le_refl _⟩
  · by_cases hroom : l.length + t.size ≤ cap
    · have := Lib.run_append_room_string (P := Try.prog) w 61 9 ty 5 i0 Try.underlying61 Try.underlying9 hi hz1 g l.length cap cur hg t hroom (by omega)
      rw [this] at hr
      injection hr with h1 h2
      subst h1
      exact .inl rfl
    · have holds : ∀ j u, (l.map bVal)[j]? = some u → w.cell? ((⟨g, 0, none⟩ : Addr).add j) = some u := World.ownsRow.cells hrow (g := g) rfl
      have := Lib.run_append_grow_string (P := Try.prog) w 61 9 ty 5 i0 (.int .u8 0) Try.underlying61 Try.underlying9 hi hz0 ⟨g, 0, none⟩ l.length cap (l.map bVal) (by rw [hz1]; simp) holds t (by omega) (by omega) (by rw [hz2]; exact growslice_fits (by omega) (by omega))
      rw [this] at hr
      injection hr with h1 h2
      subst h1
      exact .inr ⟨_, rfl, Nat.le_refl _⟩
end
theorem append_text' {W : World} {ops : Array Oper} {rest : List Oper} {o : Oper} {act : Act} {Q : Exit → Act → World → Prop} (hgd : o.guard = none) (s x : Operand)
    (ho : o.op = .call { callee := .builtin .append, args := #[s, x], argTypes := #[61, 9] }) (n : Nat) (v : Value) (l : List UInt8) (hs : act.eval s = v) (hrow : BRow W n v l)
    (t : ByteArray) (hx : act.eval x = .string t) (hn : n ≤ W.heap.size) (hle : l.length + t.size ≤ 100000000)
    (h : ∀ v' w', BRow w' n v' (l ++ t.data.toList) → W.grownBy w' v.ownBlock → Fresh W.heap.size v v' → wpList Try.prog ops Q rest (act.put o.dst v') w') :
    wpList Try.prog ops Q (o :: rest) act W := by
  obtain ⟨i0, hi, hz0, hz1, hz2⟩ := info_parts infoB
  refine wpList_plain hgd fun K hK => ?_
  obtain ⟨v', w', hr, h2, h3, h4⟩ := Lib.run_append_own_string (P := Try.prog) W n 61 9 o.type 5 i0 Try.underlying61 Try.underlying9 hi hz0 hz1 hz2 v l.length (l.map bVal) hrow t (by unfold maxLen; omega) (by omega) hn
  have hf := text_lies W n v l hrow t o.type hle v' w' hr h4
  unfold Oper.wp execOp
  simp only [ho, resolve, invoke, builtin, Sem.run_bind, Sem.run_pure, Result.andThen_ok, List.map_toArray, List.map_cons, List.map_nil, hs, hx, hr]
  refine hK _ _ (h v' w' ?_ h3 hf)
  unfold BRow
  have e : Lib.strCells t = t.data.toList.map bVal := rfl
  rw [List.length_append, List.map_append, ← e]
  have e2 : t.data.toList.length = t.size := by simp
  rw [e2]
  exact h2

theorem BRow.asSlice {w : World} {n : Nat} {v : Value} {l : List UInt8} (h : BRow w n v l) : ∃ a k c, v = .slice a k c := by
  obtain ⟨a, c, hv, _⟩ := h.slice; exact ⟨a, _, c, hv⟩
/-- a writer at block p, whose list v holds the bytes l -/
structure WrAt (w : World) (n p : Nat) (v : Value) (l : List UInt8) : Prop where
  base : n ≤ p
  box : Boxed w p 65 v
  row : BRow w n v l
/-- but for blocks p and v's, what was there is as it was -/
structure Ow (p : Nat) (v : Value) (w w' : World) : Prop where
  os : w'.os = w.os
  tape : w'.tape = w.tape
  output : w'.output = w.output
  size : w.heap.size ≤ w'.heap.size
  block : ∀ k, k < w.heap.size → k ≠ p → some k ≠ v.ownBlock → w'.heap[k]? = w.heap[k]?
theorem Ow.below {p n : Nat} {v : Value} {w w' : World} {l : List UInt8} (h : Ow p v w w') (hw : WrAt w n p v l) : Below n w w' :=
  ⟨h.os, h.tape, h.output, h.size, fun k hk => h.block k (by have := hw.box.lt; have := hw.base; omega) (by have := hw.base; omega) (fun e => by have := hw.row.own k e.symm; omega)⟩
theorem Ow.refl (p : Nat) (v : Value) (w : World) : Ow p v w w := ⟨rfl, rfl, rfl, Nat.le_refl _, fun _ _ _ _ => rfl⟩
theorem Ow.trans {p : Nat} {v v' : Value} {u w x : World} (h : Ow p v u w) (hf : Fresh u.heap.size v v') (k : Ow p v' w x) : Ow p v u x :=
  ⟨k.os.trans h.os, k.tape.trans h.tape, k.output.trans h.output, Nat.le_trans h.size k.size, fun i hi hn hv => (k.block i (Nat.lt_of_lt_of_le hi h.size) hn (by
    rcases hf with e | ⟨b, e, hb⟩
    · rw [e]; exact hv
    · rw [e]; intro e2; cases e2; omega)).trans (h.block i hi hn hv)⟩
theorem Fresh.trans {N M : Nat} {v v' v'' : Value} (h : Fresh N v v') (k : Fresh M v' v'') (hNM : N ≤ M) : Fresh N v v'' := by
  rcases k with e | ⟨b, e, hb⟩
  · rcases h with e2 | ⟨b, e2, hb⟩
    · exact .inl (e.trans e2)
    · exact .inr ⟨b, e.trans e2, hb⟩
  · exact .inr ⟨b, e, by omega⟩
theorem Fresh.mono {N M : Nat} {v v' : Value} (h : Fresh N v v') (hNM : M ≤ N) : Fresh M v v' := by
  rcases h with e | ⟨b, e, hb⟩
  · exact .inl e
  · exact .inr ⟨b, e, by omega⟩
theorem Fresh.refl (N : Nat) (v : Value) : Fresh N v v := .inl rfl
theorem WrAt.later {w w' : World} {n p : Nat} {v : Value} {l : List UInt8} (h : WrAt w n p v l) (hb : Below w.heap.size w w') : WrAt w' n p v l :=
  ⟨h.base, (hb.block p h.box.lt).trans h.box, h.row.later hb⟩
theorem WrAt.new (w : World) (n : Nat) (hn : n ≤ w.heap.size) : WrAt (w.alloc (.cells #[.slice none 0 0] 65)) n w.heap.size (.slice none 0 0) [] := ⟨hn, Boxed.new w _ _, BRow.nil _ _⟩
/-- what a method leaves: the writer itself is handed back -/
def Wrote (n p : Nat) (v : Value) (l' : List UInt8) (w : World) (e : Ending) (w' : World) : Prop :=
  e = .returned (.pointer (some ⟨p, 0, none⟩)) ∧ ∃ v', WrAt w' n p v' l' ∧ Ow p v w w' ∧ Fresh w.heap.size v v'
/-- behind an append, with the store of its value into the writer -/
theorem WrAt.stored {w w0 w1 : World} {n p : Nat} {v v' : Value} {l l' : List UInt8} (h : WrAt w n p v l) (h0 : Below w.heap.size w w0) (hg : w0.grownBy w1 v.ownBlock) (hown : BRow w1 n v' l') (hf : Fresh w.heap.size v v') :
    Boxed w1 p 65 v ∧ Wrote n p v l' w (.returned (.pointer (some ⟨p, 0, none⟩))) (w1.setCell ⟨p, 0, none⟩ v') := by
  have hne : some p ≠ v.ownBlock := h.box.not_row (by decide) h.row
  have hb1 : Boxed w1 p 65 v := (hg.block p (Nat.lt_of_lt_of_le h.box.lt h0.size) hne).trans ((h0.block p h.box.lt).trans h.box)
  have hne' : some p ≠ v'.ownBlock := hb1.not_row (by decide) hown
  refine ⟨hb1, rfl, v', ⟨h.base, hb1.set v', hown.at fun k hk => Below.heap_setCell _ _ _ _ (fun e => hne' (by rw [hk, e]))⟩, ⟨hg.os.trans h0.os, hg.tape.trans h0.tape, hg.output.trans h0.output, by simp; exact Nat.le_trans h0.size hg.size, fun k hk h1 h2 => ?_⟩, hf⟩
  exact (Below.heap_setCell _ _ _ _ h1).trans ((hg.block k (Nat.lt_of_lt_of_le hk h0.size) h2).trans (h0.block k hk))

theorem wnew_any (w : World) : Calls Try.prog 32 #[] w fun e w' => e = .returned (.pointer (some ⟨w.heap.size, 0, none⟩)) ∧ w.alloc (.cells #[.slice none 0 0] 65) = w' := by
  go_enter Try.func32, Try.ntmps32
  go_wp2
  go_ret
  exact ⟨rfl, rfl⟩
set_option maxRecDepth 100000 in
set_option maxHeartbeats 1600000 in
theorem wbyte_any (n p : Nat) (v : Value) (l : List UInt8) (b : UInt8) (w : World) (h : WrAt w n p v l) (hle : l.length ≤ 10000000) :
    Calls Try.prog 41 #[.pointer (some ⟨p, 0, none⟩), .int .u8 b.toNat] w (Wrote n p v (l ++ [b]) w) := by
  have hc := h.box.cell
  have hn : n ≤ w.heap.size := Nat.le_of_lt (Nat.lt_of_le_of_lt h.base h.box.lt)
  have H := Lib.hid h
  have HL := Lib.hid hle
  clear h hle
  go_enter Try.func41, Try.ntmps41
  go_wp2_with (at_builtin; refine append_byte' rfl (.tmp 9) (.tmp 11) rfl n v l rfl H.out.row b _ rfl rfl hn (Nat.le_trans HL.out (by decide)) ?_; intro v' w1 hown hg hf; obtain ⟨av, nv, cv, rfl⟩ := hown.asSlice; obtain ⟨hb1, hfin⟩ := H.out.stored ((Below.refl _ _).alloc (Nat.le_refl _) _) hg hown hf; have hc1 := hb1.cell; have hf1 := hb1.frozen; have HF := Lib.hid hfin; clear hfin hown hg hf hb1)
  go_ret
  exact HF.out
set_option maxRecDepth 100000 in
set_option maxHeartbeats 1600000 in
theorem wraw_any (n p : Nat) (v : Value) (l : List UInt8) (t : ByteArray) (w : World) (h : WrAt w n p v l) (hle : l.length + t.size ≤ 100000000) :
    Calls Try.prog 42 #[.pointer (some ⟨p, 0, none⟩), .string t] w (Wrote n p v (l ++ t.data.toList) w) := by
  have hc := h.box.cell
  have hn : n ≤ w.heap.size := Nat.le_of_lt (Nat.lt_of_le_of_lt h.base h.box.lt)
  have H := Lib.hid h
  have HL := Lib.hid hle
  clear h hle
  go_enter Try.func42, Try.ntmps42
  go_wp2_with (at_builtin; refine append_text' rfl (.tmp 9) (.tmp 10) rfl n v l rfl H.out.row t rfl hn HL.out ?_; intro v' w1 hown hg hf; obtain ⟨av, nv, cv, rfl⟩ := hown.asSlice; obtain ⟨hb1, hfin⟩ := H.out.stored (Below.refl _ _) hg hown hf; have hc1 := hb1.cell; have hf1 := hb1.frozen; have HF := Lib.hid hfin; clear hfin hown hg hf hb1)
  go_ret
  exact HF.out
set_option maxRecDepth 100000 in
set_option maxHeartbeats 1600000 in
theorem wbytes_any (n p : Nat) (v : Value) (l : List UInt8) (w : World) (h : WrAt w n p v l) :
    Calls Try.prog 35 #[.pointer (some ⟨p, 0, none⟩)] w fun e w' => e = .returned (.string (bStr l)) ∧ w = w' := by
  have hc := h.box.cell
  have hcv := h.row.conv
  clear h
  go_enter Try.func35, Try.ntmps35
  go_wp2
  go_ret
  exact ⟨rfl, rfl⟩
theorem Wrote.later {n p : Nat} {v : Value} {l l' : List UInt8} {w w1 : World} {e : Ending} {w' : World} (hw : WrAt w n p v l) (hb : Below w.heap.size w w1) (h : Wrote n p v l' w1 e w') : Wrote n p v l' w e w' := by
  obtain ⟨he, v', h1, h2, h3⟩ := h
  refine ⟨he, v', h1, ⟨h2.os.trans hb.os, h2.tape.trans hb.tape, h2.output.trans hb.output, Nat.le_trans hb.size h2.size, fun k hk hn hv => (h2.block k (Nat.lt_of_lt_of_le hk hb.size) hn hv).trans (hb.block k hk)⟩, h3.mono hb.size⟩
theorem lebStr_list (m : Nat) : (lebStr m).data.toList = (digs m).map UInt8.ofNat := rfl
def lebL (m : Nat) : List UInt8 := (digs m).map UInt8.ofNat
theorem lebL_len {m : Nat} (h : U64 m) : (lebL m).length ≤ 10 := by rw [lebL, List.length_map]; exact digs_len_10 h
theorem bStr_leb (m : Nat) : bStr (lebL m) = lebStr m := rfl
set_option maxRecDepth 100000 in
set_option maxHeartbeats 1600000 in
theorem wnum_any (n p : Nat) (v : Value) (l : List UInt8) (m : Nat) (w : World) (h : WrAt w n p v l) (hm : U64 m) (hle : l.length ≤ 10000000) :
    Calls Try.prog 33 #[.pointer (some ⟨p, 0, none⟩), .int .u64 m] w (Wrote n p v (l ++ lebL m) w) := by
  have H := Lib.hid h
  have HL := Lib.hid (show l.length + (lebStr m).size ≤ 100000000 by have := lebL_len hm; rw [lebL, List.length_map] at this; rw [lebStr_size]; omega)
  clear h hle
  go_enter Try.func33, Try.ntmps33
  go_wp2_with fail
  refine (put_any m hm _).mono ?_
  rintro e w1 ⟨rfl, hb1⟩
  go_wp2_with fail
  refine (wraw_any n p v l (lebStr m) _ (H.out.later hb1) HL.out).mono ?_
  rintro e w2 hW
  have hW2 := hW.later H.out hb1
  obtain ⟨rfl, _⟩ := hW
  have HW := Lib.hid hW2
  clear hW2
  go_wp2_with fail
  go_ret
  exact HW.out
theorem Wrote.two {n p : Nat} {v : Value} {l l1 l2 : List UInt8} {w w1 w2 : World} {e e2 : Ending} (h : Wrote n p v l1 w e w1) (k : ∀ v1, WrAt w1 n p v1 l1 → Wrote n p v1 l2 w1 e2 w2) : Wrote n p v l2 w e2 w2 := by
  obtain ⟨he, v1, h1, h2, h3⟩ := h
  obtain ⟨he2, v2, k1, k2, k3⟩ := k v1 h1
  exact ⟨he2, v2, k1, h2.trans h3 k2, h3.trans k3 h2.size⟩
end Go.Proofs.Ytanbifhhoeaofaa

