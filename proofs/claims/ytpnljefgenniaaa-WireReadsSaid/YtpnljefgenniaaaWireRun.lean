/- The document's Run of layer 5: all operations, one by one. No conditions. -/
import Derived.Test.YtpnljefgenniaaaWireRefDo2
import Derived.Test.YtpnljefgenniaaaLebRef
import Derived.Deep.DeepCutAuto
namespace Go.Proofs.Ytpnljefgenniaaa
set_option linter.unusedVariables false
open Go Go.RowKit

/-- where it stands, and what is wrong, behind so many operations -/
def stR (s : ByteArray) (K N : Nat → Int) : Nat → Nat × Nat
  | 0 => (0, 0)
  | i + 1 => (oA s (stR s K N i).1 (stR s K N i).2 (K i) (N i), oR s (stR s K N i).1 (stR s K N i).2 (K i) (N i))
def gotAt (s : ByteArray) (K N : Nat → Int) (i : Nat) : GotV := oGot s (stR s K N i).1 (stR s K N i).2 (K i) (N i)
def gotCells (g : GotV) : List Value := [.int .u64 g.num, .int .i64 g.int, .string g.text, .int .i64 g.at_, .int .i64 g.fin]
def gotRow (F : Nat → GotV) : Nat → List Value
  | 0 => []
  | n + 1 => gotRow F n ++ gotCells (F n)
theorem gotRow_len (F : Nat → GotV) (n : Nat) : (gotRow F n).length = n * 5 := by
  induction n with
  | zero => rfl
  | succ n ih => rw [gotRow, List.length_append, ih]; show _ + 5 = _; omega
theorem gotRow_get (F : Nat → GotV) : ∀ (n i j : Nat), i < n → j < 5 → (gotRow F n)[i * 5 + j]? = (gotCells (F i))[j]? := by
  intro n
  induction n with
  | zero => intro i j h; omega
  | succ n ih =>
    intro i j hi hj
    rw [gotRow]
    by_cases hin : i < n
    · rw [List.getElem?_append_left (by rw [gotRow_len]; omega)]; exact ih i j hin hj
    · obtain rfl : i = n := by omega
      rw [List.getElem?_append_right (by rw [gotRow_len]; omega), gotRow_len]; congr 1; omega
theorem stR_le (s : ByteArray) (K N : Nat → Int) (i : Nat) : (stR s K N i).1 ≤ s.size := by
  induction i with
  | zero => exact Nat.zero_le _
  | succ i ih => exact (oA_le ih).2
theorem gotCells_one (g : GotV) : ∀ u ∈ gotCells g, u.oneCell' = true := by
  intro u hu
  unfold gotCells at hu
  simp only [List.mem_cons, List.not_mem_nil, or_false] at hu
  rcases hu with rfl | rfl | rfl | rfl | rfl <;> rfl
abbrev GRow (w : World) (n₀ : Nat) (v : Value) (n : Nat) (xs : List Value) : Prop := w.ownsRow n₀ 42 5 v n xs
theorem infoG : (Try.prog.info? 42).map (fun i => (i.zero.map (fun z => z.cells.size), i.size, i.bytes)) = some (some 5, 5, 48) := by kernel_rfl
theorem zeroG : ∃ (i : TypeInfo) (z : Value), Try.prog.info? 42 = some i ∧ i.zero = some z ∧ i.size = 5 ∧ i.bytes = 48 ∧ z.cells.size = 5 := by
  have h := infoG
  cases h' : Try.prog.info? 42 with
  | none => rw [h'] at h; simp at h
  | some i =>
    rw [h'] at h
    simp only [Option.map_some, Option.some.injEq, Prod.mk.injEq] at h
    obtain ⟨h1, h2, h3⟩ := h
    cases hz : i.zero with
    | none => rw [hz] at h1; simp at h1
    | some z => rw [hz] at h1; exact ⟨i, z, rfl, hz, h2, h3, by simpa using h1⟩
theorem GRow.at {w w' : World} {n₀ n : Nat} {v : Value} {xs : List Value} (h : GRow w n₀ v n xs) (hb : ∀ k, v.ownBlock = some k → w'.heap[k]? = w.heap[k]?) : GRow w' n₀ v n xs := by
  refine ⟨h.1, ?_⟩
  rcases h.2 with hn | ⟨g, cap, cur, rfl, hg, hgg, rest⟩
  · exact .inl hn
  · exact .inr ⟨g, cap, cur, rfl, hg, by rw [hb g rfl]; exact hgg, rest⟩
theorem GRow.lt {w : World} {n₀ n : Nat} {v : Value} {xs : List Value} (h : GRow w n₀ v n xs) : ∀ k, v.ownBlock = some k → n₀ ≤ k ∧ k < w.heap.size := World.ownsRow.lt h
theorem GRow.later {w w' : World} {n₀ n : Nat} {v : Value} {xs : List Value} (h : GRow w n₀ v n xs) (hb : Below w.heap.size w w') : GRow w' n₀ v n xs := h.at fun k hk => hb.block k (h.lt k hk).2
/-- 'append(own, g)' -/
theorem append_got {w : World} {ops : Array Oper} {rest : List Oper} {o : Oper} {act : Act} {Q : Exit → Act → World → Prop} (hgd : o.guard = none) (s x : Operand)
    (ho : o.op = .call { callee := .builtin .append, args := #[s, x], argTypes := #[38, 38] }) (n₀ : Nat) (v : Value) (n : Nat) (xs : List Value) (hs : act.eval s = v) (hown : GRow w n₀ v n xs)
    (g0 : Nat) (g : GotV) (hx : act.eval x = .slice (some ⟨g0, 0, none⟩) 1 1) (hg : five w g0 (.int .u64 g.num) (.int .i64 g.int) (.string g.text) (.int .i64 g.at_) (.int .i64 g.fin)) (hle : n + 1 ≤ 2000) (hb : n₀ ≤ w.heap.size)
    (h : ∀ v' w', GRow w' n₀ v' (n + 1) (xs ++ gotCells g) → w.grownBy w' v.ownBlock → Below n₀ w w' → wpList Try.prog ops Q rest (act.put o.dst v') w') : wpList Try.prog ops Q (o :: rest) act w := by
  obtain ⟨i, z, hi, hz, hsz, hby, hzs⟩ := zeroG
  refine wpList_append_own _ hgd s x 38 ho n₀ 42 i z 5 48 Try.underlying38 hi hz hsz hby hzs (by decide) v n xs hs hown ⟨g0, 0, none⟩ 1 1 (gotCells g) hx rfl ?_ (gotCells_one g) (by unfold maxLen; omega) (by omega) hb (fun v' w' hown' hgr _ => h v' w' hown' hgr ?_)
  · intro j u hj
    obtain ⟨c0, c1, c2, c3, c4, _⟩ := hg.cells
    rw [add_mkO, Nat.zero_add]
    unfold gotCells at hj
    match j, hj with
    | 0, hj => simp at hj; subst hj; exact c0
    | 1, hj => simp at hj; subst hj; exact c1
    | 2, hj => simp at hj; subst hj; exact c2
    | 3, hj => simp at hj; subst hj; exact c3
    | 4, hj => simp at hj; subst hj; exact c4
  · exact (Below.refl n₀ w).grown hgr hb (fun k hk => (hown.lt k hk).1)
set_option maxRecDepth 100000 in
set_option maxHeartbeats 8000000 in
theorem drun_any (s : ByteArray) (a0 : Option Addr) (la ca : Nat) (K N : Nat → Int) (w : World) (hs : s.size ≤ maxLen) (hl : la ≤ 60) (hA : OpsAt w a0 la K N) (hN : ∀ i, I64 (N i)) :
    Calls Try.prog 20 #[.string s, .slice a0 la ca] w fun e w' => (∃ v, e = .returned v ∧ GRow w' (w.heap.size + 1) v la (gotRow (gotAt s K N) la)) ∧ Below w.heap.size w w' := by
  have HS := Lib.hid hs
  have HA := Lib.hid hA
  have HN := Lib.hid hN
  have HR0 := Lib.hid (show three (w.alloc (.cells #[.string s, .int .i64 0, .int .i64 0] 78)) w.heap.size (.string s) (.int .i64 ((stR s K N 0).1 : Nat)) (.int .i64 ((stR s K N 0).2 : Nat)) from heap_alloc_new w _)
  have HB0 := Lib.hid ((Below.refl _ w).alloc (Nat.le_refl _) (.cells #[.string s, .int .i64 0, .int .i64 0] 78))
  have HZ0 := Lib.hid (show w.heap.size + 1 ≤ (w.alloc (.cells #[.string s, .int .i64 0, .int .i64 0] 78)).heap.size by simp)
  clear hs hA hN
  go_enter Try.func20, Try.ntmps20
  go_wp2_with fail
  generalize w.alloc (.cells #[.string s, .int .i64 0, .int .i64 0] 78) = W0 at HR0 HB0 HZ0 ⊢
  go_loopw [6, 7] (fun v i wr => ∃ k : Nat, k ≤ la ∧ i = .int .i64 k ∧ GRow wr (w.heap.size + 1) v k (gotRow (gotAt s K N) k) ∧ three wr w.heap.size (.string s) (.int .i64 ((stR s K N k).1 : Nat)) (.int .i64 ((stR s K N k).2 : Nat)) ∧ Below w.heap.size w wr ∧ w.heap.size + 1 ≤ wr.heap.size) (fun _ i _ => la - (intOf i).toNat)
  case atStart => exact ⟨0, by omega, rfl, World.ownsRow_nil _ _ _ _, HR0.out, HB0.out, HZ0.out⟩
  case round =>
    obtain ⟨k, hk, rfl, hrow, hR, hB, hZ⟩ := hrel
    have HROW := Lib.hid hrow
    have HR := Lib.hid hR
    have HB := Lib.hid hB
    clear hrow hR hB HR0 HB0 HZ0
    by_cases hlt : k < la
    · have hst : stR s K N (k + 1) = (oA s (stR s K N k).1 (stR s K N k).2 (K k) (N k), oR s (stR s K N k).1 (stR s K N k).2 (K k) (N k)) := rfl
      have hga : gotAt s K N k = ⟨oNum s (stR s K N k).1 (stR s K N k).2 (K k) (N k), oInt s (stR s K N k).1 (stR s K N k).2 (K k) (N k), oText s (stR s K N k).1 (stR s K N k).2 (K k) (N k), oA s (stR s K N k).1 (stR s K N k).2 (K k) (N k), endF s (oA s (stR s K N k).1 (stR s K N k).2 (K k) (N k)) (oR s (stR s K N k).1 (stR s K N k).2 (K k) (N k))⟩ := rfl
      have CD := Lib.hid (fun W => ddo_any s (stR s K N k).1 (stR s K N k).2 (K k) (N k) W HS.out (stR_le s K N k) (HN.out k))
      obtain ⟨b, off, rfl, hbl, hcA⟩ := HA.out.cells (by omega)
      have hc := hcA k hlt
      clear hcA
      have c0 : wr.cell? ⟨b, off + k * 2, none⟩ = some (.int .i64 (K k)) := (World.cell?_of_block (w := w) (a := ⟨b, _, none⟩) (HB.out.block b hbl)).trans hc.1
      have c1 : wr.cell? ⟨b, off + k * 2 + 1, none⟩ = some (.int .i64 (N k)) := (World.cell?_of_block (w := w) (a := ⟨b, _, none⟩) (HB.out.block b hbl)).trans hc.2
      have hbr : b < wr.heap.size := by omega
      have HST := Lib.hid hst
      have HGA := Lib.hid hga
      clear hst hga hc hbl
      generalize oNum s (stR s K N k).1 (stR s K N k).2 (K k) (N k) = x1 at CD HGA
      generalize oInt s (stR s K N k).1 (stR s K N k).2 (K k) (N k) = x2 at CD HGA
      generalize oText s (stR s K N k).1 (stR s K N k).2 (K k) (N k) = x3 at CD HGA
      generalize oR s (stR s K N k).1 (stR s K N k).2 (K k) (N k) = R2 at CD HGA HST
      generalize oA s (stR s K N k).1 (stR s K N k).2 (K k) (N k) = A2 at CD HGA HST
      generalize (stR s K N k).1 = a at CD HR
      generalize (stR s K N k).2 = er at CD HR
      generalize K k = kk at CD c0
      generalize N k = nn at CD c1
      obtain ⟨x0, y0, z0, _⟩ := HR.out.cells
      have e5 : w.heap.size < wr.heap.size := by omega
      have l0 : ∀ w', Below wr.heap.size wr w' → w'.cell? ⟨w.heap.size, 0, none⟩ = some (.string s) := fun w' h => (h.cell (p := ⟨w.heap.size, 0, none⟩) e5).trans x0
      have l1 : ∀ w', Below wr.heap.size wr w' → w'.cell? ⟨w.heap.size, 1, none⟩ = some (.int .i64 a) := fun w' h => (h.cell (p := ⟨w.heap.size, 1, none⟩) e5).trans y0
      have l2 : ∀ w', Below wr.heap.size wr w' → w'.cell? ⟨w.heap.size, 2, none⟩ = some (.int .i64 er) := fun w' h => (h.cell (p := ⟨w.heap.size, 2, none⟩) e5).trans z0
      have l3 : ∀ w', Below wr.heap.size wr w' → w'.cell? ⟨b, off + k * 2, none⟩ = some (.int .i64 kk) := fun w' h => (h.cell (p := ⟨b, off + k * 2, none⟩) hbr).trans c0
      have l4 : ∀ w', Below wr.heap.size wr w' → w'.cell? ⟨b, off + k * 2 + 1, none⟩ = some (.int .i64 nn) := fun w' h => (h.cell (p := ⟨b, off + k * 2 + 1, none⟩) hbr).trans c1
      have hbS := Below.refl wr.heap.size wr
      clear x0 y0 z0 c0 c1
      unfold rdV gtV at CD
      go_upto_region 6 with fail
      go_cut [8, 9] (fun s8 s9 wx => ∃ b8 b9 : Nat, s8 = .pointer (some ⟨b8, 0, none⟩) ∧ s9 = .pointer (some ⟨b9, 0, none⟩) ∧ three wx b8 (.string s) (.int .i64 A2) (.int .i64 R2) ∧ five wx b9 (.int .u64 x1) (.int .i64 x2) (.string x3) (.int .i64 0) (.int .i64 0) ∧ wr.heap.size ≤ b8 ∧ wr.heap.size ≤ b9 ∧ Below wr.heap.size wr wx)
      case first =>
        go_region_held3 (fun w' => Below wr.heap.size wr w') (first | (with_reducible assumption) | go_grown)
          (first | (go_at_call 45; refine (CD.out _).mono ?_; rintro e w2 ⟨rfl, hb2⟩; obtain ⟨hbl, hsz⟩ := later' (W := wr) (by go_grown) hb2; have hz2 := hb2.size; (try simp only [World.size_alloc, World.size_drew] at hz2); (try have hz3 := Nat.lt_of_succ_le hz2); obtain ⟨hcc, hff⟩ := bcell hb2))
        all_goals go_wp2_with fail
        all_goals go_meet
        · have n0 := heap_alloc_new w2 (.cells #[.string s, .int .i64 A2, .int .i64 R2] 78)
          have n1 := heap_alloc_new (w2.alloc (.cells #[.string s, .int .i64 A2, .int .i64 R2] 78)) (.cells #[.int .u64 x1, .int .i64 x2, .string x3, .int .i64 0, .int .i64 0] 42)
          rw [World.size_alloc] at n1
          exact ⟨_, _, rfl, rfl, (Below.heap_alloc _ _ _ (by simp)).trans n0, n1, hsz, by omega, (hbl.alloc hsz _).alloc (by rw [World.size_alloc]; omega) _⟩
        · have n0 := heap_alloc_new w2 (.cells #[.int .u64 x1, .int .i64 x2, .string x3, .int .i64 0, .int .i64 0] 42)
          have n1 := heap_alloc_new (w2.alloc (.cells #[.int .u64 x1, .int .i64 x2, .string x3, .int .i64 0, .int .i64 0] 42)) (.cells #[.string s, .int .i64 A2, .int .i64 R2] 78)
          rw [World.size_alloc] at n1
          exact ⟨_, _, rfl, rfl, n1, (Below.heap_alloc _ _ _ (by simp)).trans n0, by omega, hsz, (hbl.alloc hsz _).alloc (by rw [World.size_alloc]; omega) _⟩
        · have z8 : three w2 wr.heap.size _ _ _ := (hb2.block wr.heap.size (by simp)).trans (heap_alloc_new wr (.cells #[.string ⟨#[]⟩, .int .i64 0, .int .i64 0] 78))
          have n1 := heap_alloc_new (((w2.setCell ⟨wr.heap.size, 0, none⟩ (.string s)).setCell ⟨wr.heap.size, 1, none⟩ (.int .i64 A2)).setCell ⟨wr.heap.size, 2, none⟩ (.int .i64 R2)) (.cells #[.int .u64 x1, .int .i64 x2, .string x3, .int .i64 0, .int .i64 0] 42)
          have n0 : three (((w2.setCell ⟨wr.heap.size, 0, none⟩ (.string s)).setCell ⟨wr.heap.size, 1, none⟩ (.int .i64 A2)).setCell ⟨wr.heap.size, 2, none⟩ (.int .i64 R2)) wr.heap.size (.string s) (.int .i64 A2) (.int .i64 R2) := set_blk (set_blk (set_blk z8 0 _) 1 _) 2 _
          have hlt : wr.heap.size < (((w2.setCell ⟨wr.heap.size, 0, none⟩ (.string s)).setCell ⟨wr.heap.size, 1, none⟩ (.int .i64 A2)).setCell ⟨wr.heap.size, 2, none⟩ (.int .i64 R2)).heap.size := (Array.getElem?_eq_some_iff.1 n0).1
          have hbx := (((hbl.setCell (p := ⟨wr.heap.size, 0, none⟩) (Nat.le_refl _) (.string s)).setCell (p := ⟨wr.heap.size, 1, none⟩) (Nat.le_refl _) (.int .i64 A2)).setCell (p := ⟨wr.heap.size, 2, none⟩) (Nat.le_refl _) (.int .i64 R2))
          refine ⟨_, _, rfl, rfl, (Below.heap_alloc _ _ _ hlt).trans n0, ?_, Nat.le_refl _, hsz, hbx.alloc (Nat.le_of_lt hlt) _⟩
          have hs3 : (((w2.setCell ⟨wr.heap.size, 0, none⟩ (.string s)).setCell ⟨wr.heap.size, 1, none⟩ (.int .i64 A2)).setCell ⟨wr.heap.size, 2, none⟩ (.int .i64 R2)).heap.size = w2.heap.size := by simp
          rw [hs3] at n1
          exact n1
        · have m0 := (hb2.block wr.heap.size (by simp; omega)).trans ((Below.heap_alloc (wr.alloc (.cells #[.string ⟨#[]⟩, .int .i64 0, .int .i64 0] 78)) (.cells #[.int .u64 0, .int .i64 0, .string ⟨#[]⟩, .int .i64 0, .int .i64 0] 42) wr.heap.size (by simp)).trans (heap_alloc_new wr (.cells #[.string ⟨#[]⟩, .int .i64 0, .int .i64 0] 78)))
          have m1 := heap_alloc_new (wr.alloc (.cells #[.string ⟨#[]⟩, .int .i64 0, .int .i64 0] 78)) (.cells #[.int .u64 0, .int .i64 0, .string ⟨#[]⟩, .int .i64 0, .int .i64 0] 42)
          rw [World.size_alloc] at m1
          replace m1 := (hb2.block (wr.heap.size + 1) (by simp)).trans m1
          obtain ⟨j1, j2, jb⟩ := fin8 (show three w2 (wr.heap.size) _ _ _ from m0) (show five w2 (wr.heap.size + 1) _ _ _ _ _ from m1) (by omega) hbl (by omega) (by omega) (.string s) (.int .i64 A2) (.int .i64 R2) (.int .u64 x1) (.int .i64 x2) (.string x3) (.int .i64 0) (.int .i64 0)
          exact ⟨_, _, rfl, rfl, j1, j2, by omega, by omega, jb⟩
        · have z9 : five w2 wr.heap.size _ _ _ _ _ := (hb2.block wr.heap.size (by simp)).trans (heap_alloc_new wr (.cells #[.int .u64 0, .int .i64 0, .string ⟨#[]⟩, .int .i64 0, .int .i64 0] 42))
          have n1 := heap_alloc_new (((((w2.setCell ⟨wr.heap.size, 0, none⟩ (.int .u64 x1)).setCell ⟨wr.heap.size, 1, none⟩ (.int .i64 x2)).setCell ⟨wr.heap.size, 2, none⟩ (.string x3)).setCell ⟨wr.heap.size, 3, none⟩ (.int .i64 0)).setCell ⟨wr.heap.size, 4, none⟩ (.int .i64 0)) (.cells #[.string s, .int .i64 A2, .int .i64 R2] 78)
          have n0 : five (((((w2.setCell ⟨wr.heap.size, 0, none⟩ (.int .u64 x1)).setCell ⟨wr.heap.size, 1, none⟩ (.int .i64 x2)).setCell ⟨wr.heap.size, 2, none⟩ (.string x3)).setCell ⟨wr.heap.size, 3, none⟩ (.int .i64 0)).setCell ⟨wr.heap.size, 4, none⟩ (.int .i64 0)) wr.heap.size (.int .u64 x1) (.int .i64 x2) (.string x3) (.int .i64 0) (.int .i64 0) := set_blk (set_blk (set_blk (set_blk (set_blk z9 0 _) 1 _) 2 _) 3 _) 4 _
          have hlt : wr.heap.size < (((((w2.setCell ⟨wr.heap.size, 0, none⟩ (.int .u64 x1)).setCell ⟨wr.heap.size, 1, none⟩ (.int .i64 x2)).setCell ⟨wr.heap.size, 2, none⟩ (.string x3)).setCell ⟨wr.heap.size, 3, none⟩ (.int .i64 0)).setCell ⟨wr.heap.size, 4, none⟩ (.int .i64 0)).heap.size := (Array.getElem?_eq_some_iff.1 n0).1
          have hbx := ((((hbl.setCell (p := ⟨wr.heap.size, 0, none⟩) (Nat.le_refl _) (.int .u64 x1)).setCell (p := ⟨wr.heap.size, 1, none⟩) (Nat.le_refl _) (.int .i64 x2)).setCell (p := ⟨wr.heap.size, 2, none⟩) (Nat.le_refl _) (.string x3)).setCell (p := ⟨wr.heap.size, 3, none⟩) (Nat.le_refl _) (.int .i64 0)).setCell (p := ⟨wr.heap.size, 4, none⟩) (Nat.le_refl _) (.int .i64 0)
          refine ⟨_, _, rfl, rfl, ?_, (Below.heap_alloc _ _ _ hlt).trans n0, hsz, Nat.le_refl _, hbx.alloc (Nat.le_of_lt hlt) _⟩
          have hs3 : (((((w2.setCell ⟨wr.heap.size, 0, none⟩ (.int .u64 x1)).setCell ⟨wr.heap.size, 1, none⟩ (.int .i64 x2)).setCell ⟨wr.heap.size, 2, none⟩ (.string x3)).setCell ⟨wr.heap.size, 3, none⟩ (.int .i64 0)).setCell ⟨wr.heap.size, 4, none⟩ (.int .i64 0)).heap.size = w2.heap.size := by simp
          rw [hs3] at n1
          exact n1
        · have m0 := (hb2.block wr.heap.size (by simp; omega)).trans ((Below.heap_alloc (wr.alloc (.cells #[.int .u64 0, .int .i64 0, .string ⟨#[]⟩, .int .i64 0, .int .i64 0] 42)) (.cells #[.string ⟨#[]⟩, .int .i64 0, .int .i64 0] 78) wr.heap.size (by simp)).trans (heap_alloc_new wr (.cells #[.int .u64 0, .int .i64 0, .string ⟨#[]⟩, .int .i64 0, .int .i64 0] 42)))
          have m1 := heap_alloc_new (wr.alloc (.cells #[.int .u64 0, .int .i64 0, .string ⟨#[]⟩, .int .i64 0, .int .i64 0] 42)) (.cells #[.string ⟨#[]⟩, .int .i64 0, .int .i64 0] 78)
          rw [World.size_alloc] at m1
          replace m1 := (hb2.block (wr.heap.size + 1) (by simp)).trans m1
          obtain ⟨j1, j2, jb⟩ := fin8 (show three w2 (wr.heap.size + 1) _ _ _ from m1) (show five w2 (wr.heap.size) _ _ _ _ _ from m0) (by omega) hbl (by omega) (by omega) (.string s) (.int .i64 A2) (.int .i64 R2) (.int .u64 x1) (.int .i64 x2) (.string x3) (.int .i64 0) (.int .i64 0)
          exact ⟨_, _, rfl, rfl, j1, j2, by omega, by omega, jb⟩
      case rest =>
        obtain ⟨b8, b9, rfl, rfl, h8, h9, hb8, hb9, hbx⟩ := hcut
        have hR3 := HR.out.later hbx
        have hrow3 := HROW.out.later hbx
        have hB3 := HB.out.trans (hbx.mono HB.out.size)
        have hne : b9 ≠ w.heap.size := by omega
        have hnr : ∀ q, Value.ownBlock u6 = some q → q ≠ w.heap.size ∧ q ≠ b9 := fun q hq => by have := HROW.out.lt q hq; omega
        have k1 : three (((wc.setCell ⟨w.heap.size, 0, none⟩ (.string s)).setCell ⟨w.heap.size, 1, none⟩ (.int .i64 A2)).setCell ⟨w.heap.size, 2, none⟩ (.int .i64 R2)) w.heap.size (.string s) (.int .i64 A2) (.int .i64 R2) := set_blk (set_blk (set_blk hR3 0 _) 1 _) 2 _
        have k2 : five (((wc.setCell ⟨w.heap.size, 0, none⟩ (.string s)).setCell ⟨w.heap.size, 1, none⟩ (.int .i64 A2)).setCell ⟨w.heap.size, 2, none⟩ (.int .i64 R2)) b9 (.int .u64 x1) (.int .i64 x2) (.string x3) (.int .i64 0) (.int .i64 0) := set_far (set_far (set_far h9 hne) hne) hne
        have k3 : three ((((wc.setCell ⟨w.heap.size, 0, none⟩ (.string s)).setCell ⟨w.heap.size, 1, none⟩ (.int .i64 A2)).setCell ⟨w.heap.size, 2, none⟩ (.int .i64 R2)).setCell ⟨b9, 3, none⟩ (.int .i64 A2)) w.heap.size (.string s) (.int .i64 A2) (.int .i64 R2) := set_far k1 hne.symm
        have k4 : five ((((wc.setCell ⟨w.heap.size, 0, none⟩ (.string s)).setCell ⟨w.heap.size, 1, none⟩ (.int .i64 A2)).setCell ⟨w.heap.size, 2, none⟩ (.int .i64 R2)).setCell ⟨b9, 3, none⟩ (.int .i64 A2)) b9 (.int .u64 x1) (.int .i64 x2) (.string x3) (.int .i64 A2) (.int .i64 0) := set_blk k2 3 _
        have k5 : Below w.heap.size w ((((wc.setCell ⟨w.heap.size, 0, none⟩ (.string s)).setCell ⟨w.heap.size, 1, none⟩ (.int .i64 A2)).setCell ⟨w.heap.size, 2, none⟩ (.int .i64 R2)).setCell ⟨b9, 3, none⟩ (.int .i64 A2)) := (((hB3.setCell (p := ⟨w.heap.size, 0, none⟩) (Nat.le_refl _) _).setCell (p := ⟨w.heap.size, 1, none⟩) (Nat.le_refl _) _).setCell (p := ⟨w.heap.size, 2, none⟩) (Nat.le_refl _) _).setCell (p := ⟨b9, 3, none⟩) (by show w.heap.size ≤ b9; omega) _
        have k6 : GRow ((((wc.setCell ⟨w.heap.size, 0, none⟩ (.string s)).setCell ⟨w.heap.size, 1, none⟩ (.int .i64 A2)).setCell ⟨w.heap.size, 2, none⟩ (.int .i64 R2)).setCell ⟨b9, 3, none⟩ (.int .i64 A2)) (w.heap.size + 1) u6 k (gotRow (gotAt s K N) k) := hrow3.at fun q hq => set_far (set_far (set_far (set_far rfl (hnr q hq).1) (hnr q hq).1) (hnr q hq).1) (hnr q hq).2
        obtain ⟨y0, y1, y2, _⟩ := h8.cells
        obtain ⟨p0, p1, p2, pf⟩ := hR3.cells
        have pf0 := pf 0
        have pf1 := pf 1
        have pf2 := pf 2
        obtain ⟨z0, z1, z2, z3, z4, zf⟩ := h9.cells
        have zf3 := zf 3
        have K3 := Lib.hid k3
        have K4 := Lib.hid k4
        have K5 := Lib.hid k5
        have K6 := Lib.hid k6
        clear pf zf hR3 hrow3 hB3 hbx k1 k2 k3 k4 k5 k6 l0 l1 l2 l3 l4 hbS h8 h9
        have CE := Lib.hid (fun W => dend_any s A2 R2 W)
        unfold rdV at CE
        generalize endF s A2 R2 = E at CE HGA
        go_wp2_with fail
        clear y0 y1 y2 p0 p1 p2 pf0 pf1 pf2 z0 z1 z2 z3 z4 zf3
        generalize (((wc.setCell ⟨w.heap.size, 0, none⟩ (.string s)).setCell ⟨w.heap.size, 1, none⟩ (.int .i64 A2)).setCell ⟨w.heap.size, 2, none⟩ (.int .i64 R2)).setCell ⟨b9, 3, none⟩ (.int .i64 A2) = W2 at K3 K4 K5 K6 ⊢
        refine (CE.out _).mono ?_
        rintro e w3 ⟨rfl, hb3⟩
        have m3 := K3.out.later hb3
        have m4 := K4.out.later hb3
        have m5 := K5.out.trans (hb3.mono K5.out.size)
        have m6 := K6.out.later hb3
        obtain ⟨z0, z1, z2, z3, z4, zf⟩ := m4.cells
        have zf4 := zf 4
        have n3 : three (w3.setCell ⟨b9, 4, none⟩ (.int .i64 E)) w.heap.size (.string s) (.int .i64 A2) (.int .i64 R2) := set_far m3 hne.symm
        have n4 : five (w3.setCell ⟨b9, 4, none⟩ (.int .i64 E)) b9 (.int .u64 x1) (.int .i64 x2) (.string x3) (.int .i64 A2) (.int .i64 E) := set_blk m4 4 _
        have n5 : Below w.heap.size w (w3.setCell ⟨b9, 4, none⟩ (.int .i64 E)) := m5.setCell (p := ⟨b9, 4, none⟩) (by show w.heap.size ≤ b9; omega) _
        have n6 : GRow (w3.setCell ⟨b9, 4, none⟩ (.int .i64 E)) (w.heap.size + 1) u6 k (gotRow (gotAt s K N) k) := m6.at fun q hq => set_far rfl (hnr q hq).2
        have hz3 : (w3.setCell ⟨b9, 4, none⟩ (.int .i64 E)).heap.size = w3.heap.size := by simp
        have hw3 : w.heap.size + 1 ≤ w3.heap.size := by have := (Array.getElem?_eq_some_iff.1 m3).1; omega
        have ha := (Below.refl _ (w3.setCell ⟨b9, 4, none⟩ (.int .i64 E))).alloc (Nat.le_refl _) (.cells #[.int .u64 x1, .int .i64 x2, .string x3, .int .i64 A2, .int .i64 E] 42)
        have q3 := Lib.hid (n3.later ha)
        have q5 := Lib.hid (n5.trans (ha.mono n5.size))
        have q6 := Lib.hid (n6.later ha)
        have q7 := heap_alloc_new (w3.setCell ⟨b9, 4, none⟩ (.int .i64 E)) (.cells #[.int .u64 x1, .int .i64 x2, .string x3, .int .i64 A2, .int .i64 E] 42)
        rw [hz3] at q7
        have Q7 := Lib.hid (show five _ _ _ _ _ _ _ from q7)
        have q8 : w.heap.size + 1 ≤ ((w3.setCell ⟨b9, 4, none⟩ (.int .i64 E)).alloc (.cells #[.int .u64 x1, .int .i64 x2, .string x3, .int .i64 A2, .int .i64 E] 42)).heap.size := by rw [World.size_alloc, hz3]; omega
        clear m3 m4 m5 m6 n3 n4 n5 n6 ha q7 zf hb3 K3 K4 K5 K6 hnr
        go_wp2_with (at_builtin; refine append_got rfl (.tmp 34) (.tmp 36) rfl (w.heap.size + 1) _ k _ rfl q6.out w3.heap.size ⟨x1, x2, x3, A2, E⟩ rfl Q7.out (by omega) q8 ?_; intro v' w5 hown hgr hbn)
        have r3 : three w5 w.heap.size (.string s) (.int .i64 A2) (.int .i64 R2) := (hbn.block w.heap.size (by omega)).trans q3.out
        have r5 := q5.out.trans (hbn.mono (Nat.le_succ _))
        have r8 := Nat.le_trans q8 hbn.size
        clear hgr hbn
        go_roundw
        case rel => exact ⟨k + 1, by omega, by go_num, by rw [gotRow, HGA.out]; exact hown, by rw [HST.out]; exact r3, r5, r8⟩
        case measure => simp [intOf]; omega
    · obtain rfl : k = la := by omega
      have HB' := HB.out
      go_wp2_with fail
      go_ret
      exact ⟨⟨_, rfl, HROW.out⟩, HB'⟩
theorem GRow.form {w : World} {n₀ n : Nat} {v : Value} {xs : List Value} (h : GRow w n₀ v n xs) : ∃ a c, v = .slice a n c ∧ (n ≠ 0 → ∃ g, a = some ⟨g, 0, none⟩ ∧ n₀ ≤ g ∧ g < w.heap.size ∧ ∀ q, q < n * 5 → w.cell? ⟨g, q, none⟩ = xs[q]?) := by
  have h0 := h
  obtain ⟨hl, h⟩ := h
  rcases h with ⟨rfl, rfl⟩ | ⟨g, cap, cur, rfl, hb, hg, hnc, hcm, hcur, htake⟩
  · exact ⟨none, 0, rfl, fun hn => absurd rfl hn⟩
  · exact ⟨_, cap, rfl, fun _ => ⟨g, rfl, hb, (Array.getElem?_eq_some_iff.1 hg).1, fun q hq => h0.cellAt q hq⟩⟩
end Go.Proofs.Ytpnljefgenniaaa

