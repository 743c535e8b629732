/- What suite.Put has written is read back by suite.Get: plain laws. No conditions. -/
import Derived.Test.YtpnljefgenniaaaSuiteGet
namespace Go.Proofs.Ytpnljefgenniaaa
set_option linter.unusedVariables false
open Go Go.RowKit

theorem sr_num (P Q : List UInt8) (n : Nat) (hn : U64 n) : gN (bStr (P ++ lebL n ++ Q)) P.length = n ∧ gT (bStr (P ++ lebL n ++ Q)) P.length = (P ++ lebL n).length ∧ gE (bStr (P ++ lebL n ++ Q)) P.length = 0 := by
  have h := leb_at (bStr P) n (bStr Q) hn
  have hap : ∀ A B : List UInt8, bStr A ++ bStr B = bStr (A ++ B) := fun A B => by apply ByteArray.ext; rw [ByteArray.data_append]; simp [bStr]
  rw [← bStr_leb, hap, hap] at h
  rw [show (bStr P).size = P.length by rfl] at h
  refine ⟨h.1, ?_, h.2.2⟩
  rw [h.2.1, List.length_append]; rfl
theorem sr_int (P Q : List UInt8) (n : Int) (hn : I64 n) : zN (bStr (P ++ lebL (zigF n) ++ Q)) P.length = n := by
  obtain ⟨h1, _, h3⟩ := sr_num P Q (zigF n) (zigF_u64 hn)
  unfold zN
  rw [if_pos h3, h1, zagF_zigF]
theorem sr_count (P Q : List UInt8) (n m : Nat) (hn : U64 n) (hm : n ≤ m) : cV (bStr (P ++ lebL n ++ Q)) P.length 0 m = n ∧ cA (bStr (P ++ lebL n ++ Q)) P.length 0 m = (P ++ lebL n).length ∧ cR (bStr (P ++ lebL n ++ Q)) P.length 0 m = 0 := by
  obtain ⟨h1, h2, h3⟩ := sr_num P Q n hn
  have hc : cE (bStr (P ++ lebL n ++ Q)) P.length m = 0 := by
    unfold cE; rw [h1, h3, if_neg (by omega)]
  unfold cV cA cR
  rw [hc, h1, h2]
  exact ⟨rfl, rfl, rfl⟩
theorem zigs_at (P Q : List UInt8) (X : List Int) {k : Nat} {x : Int} (h : X[k]? = some x) : P ++ zigsL X ++ Q = (P ++ zigsL (X.take k)) ++ lebL (zigF x) ++ (zigsL (X.drop (k + 1)) ++ Q) := by
  have e : X = X.take k ++ (x :: X.drop (k + 1)) := by
    obtain ⟨hlt, he⟩ := List.getElem?_eq_some_iff.1 h
    rw [← he, List.getElem_cons_drop, List.take_append_drop]
  have e2 : zigsL X = zigsL (X.take k) ++ (lebL (zigF x) ++ zigsL (X.drop (k + 1))) := by
    have h2 := congrArg zigsL e
    rw [zigsL_app] at h2
    exact h2
  rw [e2]
  simp only [List.append_assoc]
theorem zigs_st (P Q : List UInt8) (X : List Int) (hX : ∀ x ∈ X, I64 x) (k : Nat) (hk : k ≤ X.length) : stI (bStr (P ++ zigsL X ++ Q)) P.length 0 k = ((P ++ zigsL (X.take k)).length, 0) := by
  induction k with
  | zero => simp [stI, zigsL]
  | succ k ih =>
    have ih := ih (by omega)
    obtain ⟨x, hx⟩ := some_at (show k < X.length by omega)
    obtain ⟨h1, h2, h3⟩ := sr_num (P ++ zigsL (X.take k)) (zigsL (X.drop (k + 1)) ++ Q) (zigF x) (zigF_u64 (hX x (List.mem_of_getElem? hx)))
    rw [← zigs_at P Q X hx] at h1 h2 h3
    rw [stI, ih]
    simp only
    rw [h2, h3, take_next hx, zigsL_snoc, ← List.append_assoc]
    rfl
theorem zigs_v (P Q : List UInt8) (X : List Int) (hX : ∀ x ∈ X, I64 x) (k : Nat) {x : Int} (hx : X[k]? = some x) : vI (bStr (P ++ zigsL X ++ Q)) P.length 0 k = x := by
  have hk := (List.getElem?_eq_some_iff.1 hx).1
  have hxi := hX x (List.mem_of_getElem? hx)
  have h0 := sr_int (P ++ zigsL (X.take k)) (zigsL (X.drop (k + 1)) ++ Q) x hxi
  obtain ⟨h1, h2, h3⟩ := sr_num (P ++ zigsL (X.take k)) (zigsL (X.drop (k + 1)) ++ Q) (zigF x) (zigF_u64 hxi)
  rw [← zigs_at P Q X hx] at h0 h3
  unfold vI
  rw [zigs_st P Q X hX k (by omega)]
  simp only
  rw [h3, h0]
  rfl
theorem vI_shift (s : ByteArray) (a er m k : Nat) : vI s (stI s a er m).1 (stI s a er m).2 k = vI s a er (m + k) := by
  unfold vI; rw [stI_shift]
theorem flat_at (L : List (List Int)) (m : Nat) (h : ∀ l ∈ L, l.length = m) {i : Nat} {l : List Int} (hi : L[i]? = some l) {k : Nat} (hk : k < m) : L.flatten[i * m + k]? = l[k]? := by
  induction L generalizing i with
  | nil => simp at hi
  | cons a L ih =>
    have ha := h a (List.mem_cons_self ..)
    rw [List.flatten_cons]
    cases i with
    | zero =>
      simp at hi
      subst hi
      rw [Nat.zero_mul, Nat.zero_add, List.getElem?_append_left (by omega)]
    | succ i =>
      have hi' : L[i]? = some l := by simpa using hi
      have := ih (fun q hq => h q (List.mem_cons_of_mem _ hq)) hi'
      rw [List.getElem?_append_right (by rw [ha, Nat.add_mul]; omega), ha, ← this]
      congr 1
      rw [Nat.add_mul]; omega
theorem rows_back (P : List UInt8) (L : List (List Int)) (m : Nat) (hm : ∀ l ∈ L, l.length = m) (hI : ∀ l ∈ L, ∀ x ∈ l, I64 x) : listR (bStr (P ++ zigsL L.flatten ++ [])) P.length 0 m L.length = L := by
  have hX : ∀ x ∈ L.flatten, I64 x := fun x hx => by
    obtain ⟨l, hl, hxl⟩ := List.mem_flatten.1 hx
    exact hI l hl x hxl
  refine list_same (listR_len ..) fun i hi => ?_
  rw [listR_len] at hi
  obtain ⟨l, hl⟩ := some_at hi
  have hlm := hm l (List.mem_of_getElem? hl)
  rw [hl]
  unfold listR
  rw [List.getElem?_map, List.getElem?_range hi, Option.map_some]
  congr 1
  refine list_same (by rw [rowI_len, hlm]) fun k hk => ?_
  rw [rowI_len] at hk
  unfold rowI listI
  rw [List.getElem?_map, List.getElem?_range hk, Option.map_some, vI_shift]
  obtain ⟨x, hx⟩ := some_at (show k < l.length by omega)
  rw [hx]
  congr 1
  exact zigs_v P [] L.flatten hX (i * m + k) ((flat_at L m hm hl hk).trans hx)
theorem put_back (L : List (List Int)) (f : Nat) (hI : ∀ l ∈ L, ∀ x ∈ l, I64 x) (hE : tE L f = 0) : rdL (tStr L f) = L ∧ rdF (tStr L f) = f := by
  obtain ⟨g1, g2, g3, g4, g5, g6⟩ := tE_ok hE
  have hT : tStr L f = bStr (sBytes L f) := by unfold tStr; rw [if_pos hE]
  generalize hm : (headL L).length = m at *
  have hs : sBytes L f = [] ++ lebL f ++ lebL L.length ++ lebL m ++ zigsL L.flatten := by unfold sBytes sHead; rw [hm]; rfl
  rw [hT, hs]
  have uf : U64 f := by unfold U64; omega
  have un : U64 L.length := by unfold U64; omega
  have um : U64 m := by unfold U64; omega
  obtain ⟨a1, a2, a3⟩ := sr_count [] (lebL L.length ++ (lebL m ++ zigsL L.flatten)) f 10000 uf (by omega)
  obtain ⟨b1, b2, b3⟩ := sr_count ([] ++ lebL f) (lebL m ++ zigsL L.flatten) L.length 20 un (by omega)
  obtain ⟨c1, c2, c3⟩ := sr_count ([] ++ lebL f ++ lebL L.length) (zigsL L.flatten) m 12 um (by omega)
  have e := rows_back ([] ++ lebL f ++ lebL L.length ++ lebL m) L m g4 hI
  rw [List.append_nil] at e
  rw [show [] ++ lebL f ++ (lebL L.length ++ (lebL m ++ zigsL L.flatten)) = [] ++ lebL f ++ lebL L.length ++ lebL m ++ zigsL L.flatten by simp only [List.append_assoc]] at a1 a2 a3
  rw [show [] ++ lebL f ++ lebL L.length ++ (lebL m ++ zigsL L.flatten) = [] ++ lebL f ++ lebL L.length ++ lebL m ++ zigsL L.flatten by simp only [List.append_assoc]] at b1 b2 b3
  generalize [] ++ lebL f ++ lebL L.length ++ lebL m ++ zigsL L.flatten = T at *
  rw [List.length_nil] at a1 a2 a3
  have A1 : rdA1 (bStr T) = ([] ++ lebL f).length := a2
  have R1 : rdR1 (bStr T) = 0 := a3
  have A2 : rdA2 (bStr T) = ([] ++ lebL f ++ lebL L.length).length := by unfold rdA2; rw [A1, R1]; exact b2
  have R2 : rdR2 (bStr T) = 0 := by unfold rdR2; rw [A1, R1]; exact b3
  have A3 : rdA3 (bStr T) = ([] ++ lebL f ++ lebL L.length ++ lebL m).length := by unfold rdA3; rw [A2, R2]; exact c2
  have R3 : rdR3 (bStr T) = 0 := by unfold rdR3; rw [A2, R2]; exact c3
  have N1 : rdN (bStr T) = L.length := by unfold rdN; rw [A1, R1]; exact b1
  have W1 : rdW (bStr T) = m := by unfold rdW; rw [A2, R2]; exact c1
  refine ⟨?_, a1⟩
  unfold rdL
  rw [A3, R3, N1, W1]
  exact e
theorem put_one {L M : List (List Int)} {f g : Nat} (hI : ∀ l ∈ L, ∀ x ∈ l, I64 x) (hJ : ∀ l ∈ M, ∀ x ∈ l, I64 x) (hE : tE L f = 0) (hG : tE M g = 0) (h : tStr L f = tStr M g) : L = M ∧ f = g := by
  obtain ⟨a, b⟩ := put_back L f hI hE
  obtain ⟨c, d⟩ := put_back M g hJ hG
  rw [h] at a b
  exact ⟨a.symm.trans c, b.symm.trans d⟩
/-- what Get answers, by what Put answers -/
def SAns (s : ByteArray) (w' : World) (e : Ending) : Prop :=
  (∃ L f pa c, e = .returned (.tuple #[.slice pa (List.length L) c, .int .i64 (f : Nat), .int .i64 0]) ∧ RowsAt w' pa L ∧ (∀ l ∈ L, ∀ x ∈ l, I64 x) ∧ tE L f = 0 ∧ tStr L f = s) ∨ (e = .returned (.tuple #[.slice none 0 0, .int .i64 0, .int .i64 12]) ∧ ∀ (L : List (List Int)) (f : Nat), (∀ l ∈ L, ∀ x ∈ l, I64 x) → tE L f = 0 → tStr L f ≠ s)
theorem sget_any (s : ByteArray) (w : World) (hs : s.size ≤ maxLen) :
    Calls Try.prog 37 #[.string s] w fun e w' => SAns s w' e ∧ Below w.heap.size w w' := by
  refine (sget_in s w hs).mono ?_
  rintro e w' ⟨h, hb⟩
  refine ⟨?_, hb⟩
  rcases h with ⟨pa, c, rfl, hr, hE, hT⟩ | ⟨rfl, h⟩
  · exact .inl ⟨_, _, pa, c, rfl, hr, rdL_i64 s, hE, hT⟩
  · refine .inr ⟨rfl, fun L f hI hE hT => h ?_⟩
    obtain ⟨a, b⟩ := put_back L f hI hE
    rw [hT] at a b
    rw [a, b]
    exact ⟨hE, hT⟩
end Go.Proofs.Ytpnljefgenniaaa

