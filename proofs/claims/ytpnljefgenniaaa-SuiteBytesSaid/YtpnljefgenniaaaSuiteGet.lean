/- suite.Get at every text: what it reads, put again. No conditions. -/
import Derived.Test.YtpnljefgenniaaaSuiteRows
import Derived.Deep.DeepCutAuto
namespace Go.Proofs.Ytpnljefgenniaaa
set_option linter.unusedVariables false
open Go Go.RowKit

theorem RdAt.alloc {w : World} {r : Nat} {s : ByteArray} {a er : Nat} (h : RdAt w r s a er) (c : Obj) : RdAt (w.alloc c) r s a er := h.at (Below.heap_alloc _ _ _ h.lt)
theorem RdAt.drew {w : World} {r : Nat} {s : ByteArray} {a er : Nat} (h : RdAt w r s a er) : RdAt w.drew r s a er := h.at rfl
theorem RdAt.setOther {w : World} {r : Nat} {s : ByteArray} {a er k o : Nat} {v : Value} (h : RdAt w r s a er) (hk : r ≠ k) : RdAt (w.setCell ⟨k, o, none⟩ v) r s a er := h.at (Below.heap_setCell w ⟨k, o, none⟩ v r hk)
theorem Only.alloc {b : Nat} {u w : World} (h : Only b u w) (c : Obj) : Only b u (w.alloc c) := ⟨h.os, h.tape, h.output, by rw [World.size_alloc]; exact Nat.le_succ_of_le h.size, fun k hk hn => (Below.heap_alloc _ _ _ (Nat.lt_of_lt_of_le hk h.size)).trans (h.block k hk hn)⟩
theorem Only.setNew {b k o : Nat} {v : Value} {u w : World} (h : Only b u w) (hk : u.heap.size ≤ k) : Only b u (w.setCell ⟨k, o, none⟩ v) := ⟨h.os, h.tape, h.output, by simpa using h.size, fun i hi hn => (Below.heap_setCell w ⟨k, o, none⟩ v i (show i ≠ k by omega)).trans (h.block i hi hn)⟩
theorem Only.cells {b : Nat} {u w : World} (h : Only b u w) : (∀ k o, b < k → k < u.heap.size → w.cell? ⟨k, o, none⟩ = u.cell? ⟨k, o, none⟩) ∧ (∀ k o, b < k → k < u.heap.size → w.frozen? ⟨k, o, none⟩ = u.frozen? ⟨k, o, none⟩) :=
  ⟨fun k o hk hl => World.cell?_of_block (w := u) (a := ⟨k, o, none⟩) (h.block k hl (by omega)), fun k o hk hl => World.frozen?_of_block (w := u) (a := ⟨k, o, none⟩) (h.block k hl (by omega))⟩
def cA (s : ByteArray) (a er m : Nat) : Nat := mvA a er (gT s a) (cE s a m)
def cR (s : ByteArray) (a er m : Nat) : Nat := mvE er (cE s a m)
def cV (s : ByteArray) (a er m : Nat) : Nat := if er = 0 ∧ cE s a m = 0 then gN s a else 0
theorem cA_le {s : ByteArray} {a er m : Nat} (h : a ≤ s.size) : cA s a er m ≤ s.size := by
  obtain ⟨_, h1, h2, _⟩ := leb_g s a h
  exact (mvA_le h ⟨h1, h2⟩).2
theorem cV_le (s : ByteArray) (a er m : Nat) : cV s a er m ≤ m := by
  unfold cV
  by_cases h : er = 0 ∧ cE s a m = 0
  · rw [if_pos h]
    have h2 := h.2
    unfold cE at h2
    split at h2
    · cases h2
    · rename_i h3
      have : ¬ ((m : Int) < (gN s a : Int)) := fun h4 => h3 ⟨h2, .inr h4⟩
      omega
  · rw [if_neg h]; omega
theorem rcN {r : Nat} {s : ByteArray} {a er : Nat} {M : Int} (m : Nat) (hM : M = m) {w : World} (h : RdAt w r s a er) (hs : s.size ≤ maxLen) (ha : a ≤ s.size) (hm : m ≤ 1000000) :
    Calls Try.prog 47 #[.pointer (some ⟨r, 0, none⟩), .int .i64 M] w fun e w' => e = .returned (.int .i64 (cV s a er m : Nat)) ∧ RdAt w' r s (cA s a er m) (cR s a er m) ∧ Only r w w' := by
  subst hM
  refine (rcount_any r s a er m w h hs ha (by omega)).mono ?_
  rintro e w' ⟨rfl, h1, h2⟩
  refine ⟨?_, h1, h2⟩
  have hle := cV_le s a er m
  unfold tk
  unfold cV at hle ⊢
  by_cases hc : er = 0 ∧ cE s a m = 0
  · rw [if_pos hc] at hle
    rw [if_pos hc, if_pos hc, show wrap64 (gN s a : Nat) = (gN s a : Nat) by unfold wrap64; omega]
  · rw [if_neg hc, if_neg hc]; rfl
/-- what is read: fuel, how many, how wide, the tests -/
def rdA1 (s : ByteArray) : Nat := cA s 0 0 10000
def rdR1 (s : ByteArray) : Nat := cR s 0 0 10000
def rdA2 (s : ByteArray) : Nat := cA s (rdA1 s) (rdR1 s) 20
def rdR2 (s : ByteArray) : Nat := cR s (rdA1 s) (rdR1 s) 20
def rdA3 (s : ByteArray) : Nat := cA s (rdA2 s) (rdR2 s) 12
def rdR3 (s : ByteArray) : Nat := cR s (rdA2 s) (rdR2 s) 12
def rdF (s : ByteArray) : Nat := cV s 0 0 10000
def rdN (s : ByteArray) : Nat := cV s (rdA1 s) (rdR1 s) 20
def rdW (s : ByteArray) : Nat := cV s (rdA2 s) (rdR2 s) 12
def rdL (s : ByteArray) : List (List Int) := listR s (rdA3 s) (rdR3 s) (rdW s) (rdN s)
theorem rdL_len (s : ByteArray) : (rdL s).length ≤ 20 := by unfold rdL; rw [listR_len]; exact cV_le ..
theorem rowI_len (s : ByteArray) (a er wd i : Nat) : (rowI s a er wd i).length = wd := listI_len ..
theorem rdL_wide (s : ByteArray) : ∀ l ∈ rdL s, l.length = rdW s := by
  intro l hl
  obtain ⟨i, _, rfl⟩ := List.mem_map.1 hl
  exact rowI_len ..
theorem zN_i64 {s : ByteArray} {a : Nat} (h : a ≤ s.size) : I64 (zN s a) := by
  unfold zN
  split
  · exact zagF_i64 (leb_g s a h).2.2.2.1
  · unfold I64; omega
theorem vI_i64 {s : ByteArray} {a er : Nat} (h : a ≤ s.size) (k : Nat) : I64 (vI s a er k) := by
  unfold vI tk
  split
  · exact zN_i64 (stI_le h k)
  · unfold I64; omega
theorem rdL_i64 (s : ByteArray) : ∀ l ∈ rdL s, ∀ x ∈ l, I64 x := by
  intro l hl x hx
  obtain ⟨i, _, rfl⟩ := List.mem_map.1 hl
  obtain ⟨k, _, rfl⟩ := List.mem_map.1 hx
  exact vI_i64 (stI_le (cA_le (cA_le (cA_le (Nat.zero_le _)))) _) _
/-- what Get answers: what is read, if its bytes are the text, else nothing -/
def SGot (s : ByteArray) (L : List (List Int)) (f E : Nat) (T : ByteArray) (w' : World) (e : Ending) : Prop :=
  (∃ pa c, e = .returned (.tuple #[.slice pa L.length c, .int .i64 (f : Nat), .int .i64 0]) ∧ RowsAt w' pa L ∧ E = 0 ∧ T = s) ∨ (e = .returned (.tuple #[.slice none 0 0, .int .i64 0, .int .i64 12]) ∧ ¬ (E = 0 ∧ T = s))
set_option maxRecDepth 100000 in
set_option maxHeartbeats 8000000 in
theorem sget_in (s : ByteArray) (w : World) (hs : s.size ≤ maxLen) :
    Calls Try.prog 37 #[.string s] w fun e w' => SGot s (rdL s) (rdF s) (tE (rdL s) (rdF s : Nat)) (tStr (rdL s) (rdF s : Nat)) w' e ∧ Below w.heap.size w w' := by
  have hmf : ∀ (fn : Fn) (first cap : Array Value) (w : World), (Instr.makeFunc fn first cap).run Try.prog w = .ok (.func fn first cap) w := fun _ _ _ _ => rfl
  have OF := Lib.hid (fun W => rof_any s W)
  have C1 := Lib.hid (fun r W h => rcN (r := r) (s := s) (a := 0) (er := 0) (M := 10000) 10000 rfl (w := W) h hs (Nat.zero_le _) (by decide))
  have C2 := Lib.hid (fun r W h => rcN (r := r) (s := s) (a := rdA1 s) (er := rdR1 s) (M := 20) 20 rfl (w := W) h hs (cA_le (Nat.zero_le _)) (by decide))
  have C3 := Lib.hid (fun r W h => rcN (r := r) (s := s) (a := rdA2 s) (er := rdR2 s) (M := 12) 12 rfl (w := W) h hs (cA_le (cA_le (Nat.zero_le _))) (by decide))
  have hw12 : rdW s ≤ 12 := cV_le ..
  have hn20 : rdN s ≤ 20 := cV_le ..
  have CL := Lib.hid (fun Wb Rb r W h1 h2 h3 h4 h5 => filledR_any Wb Rb r s (rdA3 s) (rdR3 s) (rdW s) (rdN s) W h1 h2 h3 h4 h5 hs (cA_le (cA_le (cA_le (Nat.zero_le _)))) (by omega) (by omega))
  have CP := Lib.hid (fun pa c W h => sput_any pa c (rdL s) (rdF s : Nat) W h (Nat.le_trans (rdL_len s) (by decide)) (fun l hl => by rw [rdL_wide s l hl]; unfold maxLen; omega) (rdL_i64 s))
  rw [show cV s 0 0 10000 = rdF s from rfl, show cA s 0 0 10000 = rdA1 s from rfl, show cR s 0 0 10000 = rdR1 s from rfl] at C1
  rw [show cV s (rdA1 s) (rdR1 s) 20 = rdN s from rfl, show cA s (rdA1 s) (rdR1 s) 20 = rdA2 s from rfl, show cR s (rdA1 s) (rdR1 s) 20 = rdR2 s from rfl] at C2
  rw [show cV s (rdA2 s) (rdR2 s) 12 = rdW s from rfl, show cA s (rdA2 s) (rdR2 s) 12 = rdA3 s from rfl, show cR s (rdA2 s) (rdR2 s) 12 = rdR3 s from rfl] at C3
  rw [show listR s (rdA3 s) (rdR3 s) (rdW s) (rdN s) = rdL s from rfl] at CL
  have hll := rdL_len s
  generalize rdL s = L at CL CP hll ⊢
  generalize rdF s = f at C1 CP ⊢
  generalize tE L (f : Nat) = E at CP ⊢
  generalize tStr L (f : Nat) = T at CP ⊢
  generalize rdN s = n at C2 CL hn20
  generalize rdW s = wd at C3 CL hw12
  generalize rdA1 s = A1 at C1 C2
  generalize rdR1 s = R1 at C1 C2
  generalize rdA2 s = A2 at C2 C3
  generalize rdR2 s = R2 at C2 C3
  generalize rdA3 s = A3 at C3 CL
  generalize rdR3 s = R3 at C3 CL
  clear hs
  go_enter Try.func37, Try.ntmps37
  go_wp2_with (fail)
  refine (OF.out _).mono ?_
  rintro e w1 ⟨rfl, rfl⟩
  go_upto_region 2 with fail
  have hR0 := (RdAt.new w s).alloc (.cells #[.pointer (some ⟨w.heap.size, 0, none⟩)] 36)
  have hV : ((w.alloc (.cells #[.string s, .int .i64 0, .int .i64 0] 51)).alloc (.cells #[.pointer (some ⟨w.heap.size, 0, none⟩)] 36)).cell? ⟨w.heap.size + 1, 0, none⟩ = some (.pointer (some ⟨w.heap.size, 0, none⟩)) := by simp
  have hZ : ((w.alloc (.cells #[.string s, .int .i64 0, .int .i64 0] 51)).alloc (.cells #[.pointer (some ⟨w.heap.size, 0, none⟩)] 36)).heap.size = w.heap.size + 2 := by simp
  have hB : Below w.heap.size w ((w.alloc (.cells #[.string s, .int .i64 0, .int .i64 0] 51)).alloc (.cells #[.pointer (some ⟨w.heap.size, 0, none⟩)] 36)) := ((Below.refl _ _).alloc (Nat.le_refl _) _).alloc (by simp) _
  generalize ((w.alloc (.cells #[.string s, .int .i64 0, .int .i64 0] 51)).alloc (.cells #[.pointer (some ⟨w.heap.size, 0, none⟩)] 36)) = V at hR0 hV hZ hB ⊢
  have l5 : ∀ w', Only w.heap.size V w' → w'.cell? ⟨w.heap.size + 1, 0, none⟩ = some (.pointer (some ⟨w.heap.size, 0, none⟩)) := fun w' h => (World.cell?_of_block (w := V) (a := ⟨w.heap.size + 1, 0, none⟩) (h.block _ (by show w.heap.size + 1 < _; omega) (by show w.heap.size + 1 ≠ _; omega))).trans hV
  have hO0 := Only.refl w.heap.size V
  have hs0 : V.heap.size ≤ V.heap.size := Nat.le_refl _
  have hr0 : w.heap.size < V.heap.size := by omega
  clear hZ hV
  go_cut [6, 7, 8] (fun s6 s7 s8 wx => s6 = .int .i64 (f : Int) ∧ s7 = .int .i64 (n : Int) ∧ ∃ Wb, s8 = .pointer (some ⟨Wb, 0, none⟩) ∧ wx.cell? ⟨Wb, 0, none⟩ = some (.int .i64 (wd : Int)) ∧ wx.cell? ⟨w.heap.size + 1, 0, none⟩ = some (.pointer (some ⟨w.heap.size, 0, none⟩)) ∧ w.heap.size < Wb ∧ RdAt wx w.heap.size s A3 R3 ∧ Below w.heap.size w wx)
  case first =>
    go_region_held3 (fun w' => Only w.heap.size V w') (first | (with_reducible assumption) | exact Only.alloc (by with_reducible assumption) _ | exact Only.drew (Only.alloc (by with_reducible assumption) _) | exact Only.drew (by with_reducible assumption) | exact Only.setNew (by with_reducible assumption) (by omega))
      (first | (go_at_call 47; (with_reducible refine (C1.out _ _ (by repeat' first | (with_reducible assumption) | apply RdAt.alloc | apply RdAt.drew)).mono ?_); rintro e wA ⟨rfl, hRA, hOA'⟩; have hOA := Only.trans (by first | (with_reducible assumption) | exact Only.alloc (by with_reducible assumption) _ | exact Only.drew (Only.alloc (by with_reducible assumption) _)) hOA'; have hsA := hOA.size; obtain ⟨hcA, hfA⟩ := hOA'.cells; have hzA := hOA'.size; (try simp only [World.size_alloc, World.size_drew] at hzA); (try have hyA := Nat.lt_of_succ_le hzA); have hrA : w.heap.size < wA.heap.size := (by omega); clear hOA') | (go_at_call 47; (with_reducible refine (C2.out _ _ (by repeat' first | (with_reducible assumption) | apply RdAt.alloc | apply RdAt.drew)).mono ?_); rintro e wB ⟨rfl, hRB, hOB'⟩; have hOB := Only.trans (by first | (with_reducible assumption) | exact Only.alloc (by with_reducible assumption) _ | exact Only.drew (Only.alloc (by with_reducible assumption) _)) hOB'; have hsB := hOB.size; obtain ⟨hcB, hfB⟩ := hOB'.cells; have hzB := hOB'.size; (try simp only [World.size_alloc] at hzB); (try have hyB := Nat.lt_of_succ_le hzB); have hrB : w.heap.size < wB.heap.size := (by omega); (try have hvB : V.heap.size < wB.heap.size := (by omega)); clear hOB') | (go_at_call 47; (with_reducible refine (C3.out _ _ (by repeat' first | (with_reducible assumption) | apply RdAt.alloc | apply RdAt.drew)).mono ?_); rintro e wC ⟨rfl, hRC, hOC'⟩; have hOC := Only.trans (by first | (with_reducible assumption) | exact Only.alloc (by with_reducible assumption) _ | exact Only.drew (Only.alloc (by with_reducible assumption) _)) hOC'; have hsC := hOC.size; obtain ⟨hcC, hfC⟩ := hOC'.cells; have hzC := hOC'.size; (try simp only [World.size_alloc] at hzC); (try have hyC := Nat.lt_of_succ_le hzC); have hrC : w.heap.size < wC.heap.size := (by omega); clear hOC'))
    all_goals go_wp2_with fail
    all_goals go_meet
    · exact ⟨rfl, rfl, _, rfl, World.cell?_alloc_new wC #[.int .i64 (wd : Int)] _ 0, l5 _ (hOC.alloc _), hrC, hRC.alloc _, hB.trans ((hOC.alloc _).below (Nat.le_refl _) (by omega))⟩
    · exact ⟨rfl, rfl, _, rfl, World.cell?_setCell_same wC _ _ ((hcC _ 0 hrB (by rw [World.size_alloc]; omega)).trans (World.cell?_alloc_new wB #[.int .i64 0] _ 0)), l5 _ (hOC.setNew (by omega)), hrB, hRC.setOther (by omega), hB.trans ((hOC.setNew (by omega)).below (Nat.le_refl _) (by omega))⟩
    · exact ⟨rfl, rfl, _, rfl, World.cell?_setCell_same wC _ _ ((hcC _ 0 hrA hyB).trans ((hcB _ 0 hrA (by rw [World.size_alloc]; omega)).trans (World.cell?_alloc_new wA #[.int .i64 0] _ 0))), l5 _ (hOC.setNew (by omega)), hrA, hRC.setOther (by omega), hB.trans ((hOC.setNew (by omega)).below (Nat.le_refl _) (by omega))⟩
    · exact ⟨rfl, rfl, _, rfl, World.cell?_setCell_same wC _ _ ((hcC _ 0 hr0 hvB).trans ((hcB _ 0 hr0 hyA).trans ((hcA _ 0 hr0 (by rw [World.size_drew, World.size_alloc]; exact Nat.lt_succ_self _)).trans (World.cell?_alloc_new V #[.int .i64 0] _ 0)))), l5 _ (hOC.setNew (by omega)), hr0, hRC.setOther (by omega), hB.trans ((hOC.setNew (by omega)).below (Nat.le_refl _) (by omega))⟩
  case rest =>
    obtain ⟨rfl, rfl, Wb, rfl, cW, cP, hWb, hR3, hb⟩ := hcut
    have CL' := Lib.hid (CL.out Wb (w.heap.size + 1) w.heap.size wc cW cP (by omega) (by omega) hR3)
    have HB := Lib.hid hb
    clear hR0 hB l5 hO0 hs0 hr0 cW cP hb hR3 CL C1 C2 C3 OF
    go_wp2_with fail
    refine CL'.out.mono ?_
    rintro e w2 ⟨⟨pa, c, rfl, hrows⟩, hR, hO⟩
    have HROW := Lib.hid hrows
    have HB2 := Lib.hid (HB.out.trans (hO.below (Nat.le_refl _) HB.out.size))
    have hz2 := HB2.out.size
    clear hR hO hrows CL' HB
    go_wp2_with fail
    refine (CP.out pa c w2 HROW.out).mono ?_
    rintro e w3 ⟨rfl, hb3⟩
    have HR3 := Lib.hid (HROW.out.later hb3)
    have HB3 := Lib.hid (HB2.out.trans (hb3.mono hz2))
    clear hb3 HROW HB2 CP
    by_cases hE : E = 0
    · subst hE
      by_cases hT : T = s
      · subst hT
        go_wp2_with fail
        go_ret3
        exact ⟨.inl ⟨pa, c, rfl, HR3.out, rfl, rfl⟩, HB3.out⟩
      · have hbe := str_ne hT
        have HT := Lib.hid hT
        clear hT
        go_wp2_with fail
        go_ret3
        exact ⟨.inr ⟨rfl, fun h => HT.out h.2⟩, HB3.out⟩
    · have hbe : ((E : Int) == 0) = false := by simp; omega
      have HE := Lib.hid hE
      clear hE
      go_wp2_with fail
      go_ret3
      exact ⟨.inr ⟨rfl, fun h => HE.out h.1⟩, HB3.out⟩
end Go.Proofs.Ytpnljefgenniaaa

