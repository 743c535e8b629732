/- A section's frame as bytes, and the section that stands at a place: plain laws, no program in sight. No conditions. -/
import Derived.Test.YtanbifhhoeaofaaCrcTurn
import Derived.Test.YtanbifhhoeaofaaReader3
import Derived.Test.YtanbifhhoeaofaaWriter
namespace Go.Proofs.Ytanbifhhoeaofaa
set_option linter.unusedVariables false
open Go Go.RowKit

/-- what stands ahead of the data -/
def fHead (ty : Int) (d : ByteArray) : List UInt8 := UInt8.ofNat (ty % 256).toNat :: lebL d.size
def fFrame (ty : Int) (d : ByteArray) : List UInt8 := fHead ty d ++ d.data.toList ++ crcTail (fHead ty d ++ d.data.toList)
def fE (ty : Int) (d : ByteArray) : Nat := if ty < 0 ∨ 255 < ty then 1 else if 1048576 < d.size then 4 else 0
def fS (ty : Int) (d : ByteArray) : ByteArray := if fE ty d = 0 then bStr (fFrame ty d) else ⟨#[]⟩
abbrev FG := (Nat × ByteArray) × Int × Nat
/-- nothing, where it began, and what is wrong -/
def fNo (a : Int) (e : Nat) : FG := ((0, ⟨#[]⟩), a, e)
def fGo (s : ByteArray) (a n to e : Nat) : FG :=
  if e ≠ 0 then fNo a e else if 1048576 < n then fNo a 4 else if s.size < to + n + 4 then fNo a 2
  else if crcGood (s.extract a (to + n + 4)).data.toList = true then ((byteAt s a, s.extract to (to + n)), ((to + n + 4 : Nat) : Int), 0) else fNo a 6
/-- the section whose frame stands at a place -/
def fGet (s : ByteArray) (a : Int) : FG :=
  if a < 0 ∨ (s.size : Int) < a then fNo a 1 else if (s.size : Int) = a then fNo a 2
  else fGo s a.toNat (gN s (a.toNat + 1)) (gT s (a.toNat + 1)) (gE s (a.toNat + 1))

theorem ba_ext {a b : ByteArray} (h : a.data.toList = b.data.toList) : a = b := ByteArray.ext (Array.toList_inj.1 h)
theorem ba_len (s : ByteArray) : s.data.toList.length = s.size := rfl
theorem bStr_l (l : List UInt8) : (bStr l).data.toList = l := rfl
theorem bStr_size (l : List UInt8) : (bStr l).size = l.length := rfl
theorem bStr_of (s : ByteArray) : bStr s.data.toList = s := ba_ext rfl
theorem ext_l (s : ByteArray) (i j : Nat) : (s.extract i j).data.toList = (s.data.toList.drop i).take (j - i) := by
  rw [ByteArray.data_extract, Array.toList_extract, List.extract_eq_take_drop]
theorem app_l (a b : ByteArray) : (a ++ b).data.toList = a.data.toList ++ b.data.toList := by rw [ByteArray.data_append, Array.toList_append]
theorem ext_mid {s : ByteArray} {p q r : List UInt8} {i j : Nat} (h : s.data.toList = p ++ (q ++ r)) (hi : p.length = i) (hj : i + q.length = j) : s.extract i j = bStr q := by
  apply ba_ext
  rw [ext_l, h, bStr_l, List.drop_left' hi, List.take_left' (by omega)]
theorem fHead_len (ty : Int) (d : ByteArray) : (fHead ty d).length = 1 + (lebStr d.size).size := by
  unfold fHead lebL; rw [lebStr_size]; simp; omega

/-- whatever has a frame's length stands behind a head: it is told good or not -/
theorem fGet_form (ty : Int) (d : ByteArray) (x : List UInt8) (hx : x.length = d.size + 4) (hd : d.size ≤ 1048576) (a b : ByteArray) :
    fGet (a ++ bStr (fHead ty d ++ x) ++ b) a.size = if crcGood (fHead ty d ++ x) = true then (((ty % 256).toNat, bStr (x.take d.size)), ((a.size + (fHead ty d ++ x).length : Nat) : Int), 0) else fNo a.size 6 := by
  have hu : U64 d.size := by unfold U64; omega
  obtain ⟨S, hS⟩ : ∃ S, a ++ bStr (fHead ty d ++ x) ++ b = S := ⟨_, rfl⟩
  have hl : S.data.toList = a.data.toList ++ ((UInt8.ofNat (ty % 256).toNat :: lebL d.size) ++ x ++ b.data.toList) := by
    rw [← hS, app_l, app_l, bStr_l]; unfold fHead; simp only [List.append_assoc]
  have hLL : (lebL d.size).length = (lebStr d.size).size := by unfold lebL; rw [lebStr_size]; simp
  have hsz : S.size = a.size + 1 + (lebStr d.size).size + d.size + 4 + b.size := by
    rw [← ba_len, hl]; simp only [List.length_append, List.length_cons, ba_len, hLL, hx]; omega
  have hS2 : S = (a ++ bStr [UInt8.ofNat (ty % 256).toNat]) ++ lebStr d.size ++ (bStr x ++ b) := by
    apply ba_ext
    rw [hl, app_l, app_l, app_l, app_l, bStr_l, bStr_l]
    show _ = a.data.toList ++ [UInt8.ofNat (ty % 256).toNat] ++ lebL d.size ++ (x ++ b.data.toList)
    simp only [List.append_assoc, List.cons_append, List.nil_append]
  have hg : lebGet S ((a.size + 1 : Nat) : Int) = (d.size, ((a.size + 1 : Nat) : Int) + ((lebStr d.size).size : Nat), 0) := by
    have h := lebGet_back (a ++ bStr [UInt8.ofNat (ty % 256).toNat]) hu (bStr x ++ b)
    rw [← hS2] at h
    rw [show (a ++ bStr [UInt8.ofNat (ty % 256).toNat]).size = a.size + 1 by rw [ByteArray.size_append]; rfl] at h
    exact h
  have gn : gN S (a.size + 1) = d.size := by unfold gN; rw [hg]
  have ge : gE S (a.size + 1) = 0 := by unfold gE; rw [hg]
  have gt : gT S (a.size + 1) = a.size + 1 + (lebStr d.size).size := by unfold gT; rw [hg]; simp only; omega
  rw [hS]
  have hfl := fHead_len ty d
  unfold fGet
  rw [if_neg (by omega), if_neg (by omega), Int.toNat_natCast, gn, ge, gt]
  unfold fGo
  rw [if_neg (by simp), if_neg (by omega), if_neg (by omega)]
  have e1 : S.extract a.size (a.size + 1 + (lebStr d.size).size + d.size + 4) = bStr (fHead ty d ++ x) := ext_mid (p := a.data.toList) (r := b.data.toList) (by rw [hl]; unfold fHead; simp only [List.append_assoc, List.cons_append]) (by rw [ba_len]) (by rw [List.length_append, hfl, hx]; omega)
  have e2 : S.extract (a.size + 1 + (lebStr d.size).size) (a.size + 1 + (lebStr d.size).size + d.size) = bStr (x.take d.size) := by
    refine ext_mid (p := a.data.toList ++ fHead ty d) (r := x.drop d.size ++ b.data.toList) ?_ (by rw [List.length_append, hfl, ba_len]; omega) (by rw [List.length_take]; omega)
    rw [hl, ← List.append_assoc (List.take _ _), List.take_append_drop]; unfold fHead; simp only [List.append_assoc]
  have e3 : byteAt S a.size = (ty % 256).toNat := by
    unfold byteAt
    rw [hl, List.getD_eq_getElem?_getD, List.getElem?_append_right (show a.data.toList.length ≤ a.size from Nat.le_refl _), ba_len, Nat.sub_self]
    simp only [List.cons_append, List.getElem?_cons_zero, Option.getD_some]
    exact ofNat_lt (by omega)
  rw [e1, e2, e3, bStr_l]
  have e4 : ((a.size + 1 + (lebStr d.size).size + d.size + 4 : Nat) : Int) = ((a.size + (fHead ty d ++ x).length : Nat) : Int) := by rw [List.length_append, hfl, hx]; omega
  rw [e4]

theorem fE_ok {ty : Int} {d : ByteArray} (h : fE ty d = 0) : 0 ≤ ty ∧ ty ≤ 255 ∧ d.size ≤ 1048576 := by
  unfold fE at h
  split at h
  · cases h
  · split at h
    · cases h
    · omega
theorem fFrame_len (ty : Int) (d : ByteArray) : (fFrame ty d).length = (fHead ty d).length + d.size + 4 := by
  unfold fFrame; rw [List.length_append, List.length_append, crcTail_len, ba_len]
/-- what is put is got back -/
theorem fGet_back {ty : Int} {d : ByteArray} (h : fE ty d = 0) (a b : ByteArray) : fGet (a ++ bStr (fFrame ty d) ++ b) a.size = ((ty.toNat, d), ((a.size + (fFrame ty d).length : Nat) : Int), 0) := by
  obtain ⟨h0, h1, h2⟩ := fE_ok h
  have := fGet_form ty d (d.data.toList ++ crcTail (fHead ty d ++ d.data.toList)) (by rw [List.length_append, crcTail_len, ba_len]) h2 a b
  rw [← List.append_assoc] at this
  rw [show fFrame ty d = fHead ty d ++ d.data.toList ++ crcTail (fHead ty d ++ d.data.toList) from rfl]
  rw [this, if_pos (crcGood_tail _), List.take_left' (ba_len d), bStr_of, show (ty % 256).toNat = ty.toNat by omega]
/-- what is got was put just so -/
theorem fGet_only {s : ByteArray} {at' to : Int} {ty : Nat} {d : ByteArray} (h : fGet s at' = ((ty, d), to, 0)) :
    ∃ a t : Nat, at' = a ∧ to = t ∧ a < t ∧ t ≤ s.size ∧ fE ty d = 0 ∧ s.extract a t = bStr (fFrame ty d) := by
  unfold fGet at h
  by_cases c1 : at' < 0 ∨ (s.size : Int) < at'
  · rw [if_pos c1] at h; simp [fNo] at h
  rw [if_neg c1] at h
  by_cases c2 : (s.size : Int) = at'
  · rw [if_pos c2] at h; simp [fNo] at h
  rw [if_neg c2] at h
  obtain ⟨a, rfl⟩ := Int.eq_ofNat_of_zero_le (show 0 ≤ at' by omega)
  rw [Int.toNat_natCast] at h
  obtain ⟨hl, h3, h4, h5, h6⟩ := leb_g s (a + 1) (by omega)
  unfold fGo at h
  by_cases c3 : gE s (a + 1) ≠ 0
  · rw [if_pos c3] at h; simp only [fNo, Prod.mk.injEq] at h; exact absurd h.2.2 c3
  rw [if_neg c3] at h
  have c3' : gE s (a + 1) = 0 := by omega
  by_cases c4 : 1048576 < gN s (a + 1)
  · rw [if_pos c4] at h; simp [fNo] at h
  rw [if_neg c4] at h
  by_cases c5 : s.size < gT s (a + 1) + gN s (a + 1) + 4
  · rw [if_pos c5] at h; simp [fNo] at h
  rw [if_neg c5] at h
  by_cases c6 : crcGood (s.extract a (gT s (a + 1) + gN s (a + 1) + 4)).data.toList = true
  · rw [if_pos c6] at h
    simp only [Prod.mk.injEq, and_true] at h
    obtain ⟨⟨hty, hd⟩, hto⟩ := h
    rw [c3'] at hl
    obtain ⟨a', t', ha', ht', hat, hts, hu, hls⟩ := lebGet_only hl
    have ha2 : a' = a + 1 := by omega
    have ht2 : t' = gT s (a + 1) := by omega
    subst ha2
    rw [ht2] at hls hat
    generalize gT s (a + 1) = T at *
    generalize gN s (a + 1) = n at *
    have hds : d.size = n := by rw [← hd, ByteArray.size_extract]; omega
    have hlt : ty < 256 := by rw [← hty]; exact UInt8.toNat_lt _
    refine ⟨a, T + n + 4, rfl, hto.symm, by omega, by omega, ?_, ?_⟩
    · unfold fE; rw [if_neg (by omega), if_neg (by omega)]
    · -- the bytes
      obtain ⟨l, hl0⟩ : ∃ l, s.data.toList = l := ⟨_, rfl⟩
      have hll : l.length = s.size := by rw [← hl0]; rfl
      have hhead : (l.drop a).take (T - a) = fHead ty d := by
        unfold fHead
        have hlt2 : a < l.length := by omega
        rw [List.drop_eq_getElem_cons hlt2, show T - a = (T - (a + 1)) + 1 by omega, List.take_succ_cons]
        have hb : l[a] = UInt8.ofNat ((ty : Int) % 256).toNat := by
          apply UInt8.toNat_inj.1
          rw [ofNat_lt (by omega), ← hty]
          unfold byteAt
          rw [hl0, List.getD_eq_getElem?_getD, List.getElem?_eq_getElem hlt2, Option.getD_some]
          have := (l[a]).toNat_lt
          omega
        have hb2 : (l.drop (a + 1)).take (T - (a + 1)) = lebL d.size := by
          have := congrArg (fun b : ByteArray => b.data.toList) hls
          simp only [ext_l, hl0] at this
          rw [← this, hds]; rfl
        rw [hb, hb2]
      have hdat : (l.drop T).take n = d.data.toList := by
        rw [← hd, ext_l, hl0]; congr 1; omega
      have hall : (s.extract a (T + n + 4)).data.toList = fHead ty d ++ d.data.toList ++ (l.drop (T + n)).take 4 := by
        rw [ext_l, hl0, show T + n + 4 - a = (T - a) + (n + 4) by omega, List.take_add, hhead, List.drop_drop, show a + (T - a) = T by omega, List.take_add, hdat, List.drop_drop, List.append_assoc]
      rw [hall, crcGood_append _ _ (by rw [List.length_take, List.length_drop]; omega)] at c6
      apply ba_ext
      rw [hall, bStr_l]
      unfold fFrame
      rw [of_decide_eq_true c6]
  · rw [if_neg c6] at h; simp [fNo] at h
theorem fGet_err {s : ByteArray} {at' : Int} (h : (fGet s at').2.2 ≠ 0) : fGet s at' = fNo at' (fGet s at').2.2 := by
  unfold fGet at h ⊢
  split
  · rfl
  · rename_i c1
    split
    · rfl
    · rename_i c2
      rw [if_neg c1, if_neg c2] at h
      have ha : ((at'.toNat : Nat) : Int) = at' := by omega
      unfold fGo at h ⊢
      rw [ha] at h ⊢
      split
      · rfl
      · split
        · rfl
        · split
          · rfl
          · split
            · rename_i k1 k2 k3 k4
              rw [if_neg k1, if_neg k2, if_neg k3, if_pos k4] at h
              exact absurd rfl h
            · rfl
/-- the bits of the data and its tail, turned -/
theorem turned_behind {h w x : List UInt8} {at_ m : Nat} (ht : Turned w x at_ m) : Turned (h ++ w) (h ++ x) (8 * h.length + at_) m := by
  obtain ⟨hl, hx⟩ := ht
  refine ⟨by rw [List.length_append, List.length_append, hl], ?_⟩
  rw [num_append, num_append, hx]
  have hsplit : ∀ y : Nat, num h + 2 ^ (8 * h.length) * y = num h ^^^ (2 ^ (8 * h.length) * y) := by
    intro y
    have hn := num_lt h
    apply Nat.eq_of_testBit_eq
    intro i
    rw [Nat.testBit_xor, Nat.add_comm, Nat.testBit_two_pow_mul_add _ hn, Nat.testBit_two_pow_mul]
    by_cases hi : i < 8 * h.length
    · rw [if_pos hi, show decide (8 * h.length ≤ i) = false by simp; omega]; simp
    · rw [if_neg hi, Nat.testBit_lt_two_pow (Nat.lt_of_lt_of_le hn (Nat.pow_le_pow_right (by omega) (by omega))), show decide (8 * h.length ≤ i) = true by simp; omega]; simp
  rw [hsplit, hsplit]
  have hm : 2 ^ (8 * h.length) * (num w ^^^ burst w.length at_ m) = 2 ^ (8 * h.length) * num w ^^^ 2 ^ (8 * h.length) * burst w.length at_ m := by
    apply Nat.eq_of_testBit_eq
    intro i
    rw [Nat.testBit_xor, Nat.testBit_two_pow_mul, Nat.testBit_two_pow_mul, Nat.testBit_two_pow_mul, Nat.testBit_xor]
    by_cases hi : 8 * h.length ≤ i <;> simp [hi]
  have hbu : 2 ^ (8 * h.length) * burst w.length at_ m = burst (h ++ w).length (8 * h.length + at_) m := by
    unfold burst
    rw [List.length_append, Nat.mul_add, Nat.pow_add, Nat.pow_add 2 (8 * h.length) (8 * w.length), Nat.mul_assoc, Nat.mul_mod_mul_left]
  rw [hm, hbu, Nat.xor_assoc]
/-- a frame whose data and tail were turned: good just if nothing was turned -/
theorem fGet_turn {ty : Int} {d : ByteArray} (h : fE ty d = 0) {x : List UInt8} {at_ m : Nat} (hm : m < 2 ^ 32) (ht : Turned (d.data.toList ++ crcTail (fHead ty d ++ d.data.toList)) x at_ m) (a b : ByteArray) :
    (x = d.data.toList ++ crcTail (fHead ty d ++ d.data.toList) ∧ fGet (a ++ bStr (fHead ty d ++ x) ++ b) a.size = ((ty.toNat, d), ((a.size + (fFrame ty d).length : Nat) : Int), 0))
    ∨ (x ≠ d.data.toList ++ crcTail (fHead ty d ++ d.data.toList) ∧ fGet (a ++ bStr (fHead ty d ++ x) ++ b) a.size = fNo a.size 6) := by
  by_cases hc : x = d.data.toList ++ crcTail (fHead ty d ++ d.data.toList)
  · left
    refine ⟨hc, ?_⟩
    have := fGet_back h a b
    unfold fFrame at this
    rw [hc, ← List.append_assoc]
    exact this
  · right
    refine ⟨hc, ?_⟩
    obtain ⟨h0, h1, h2⟩ := fE_ok h
    have hxl : x.length = d.size + 4 := by rw [ht.1, List.length_append, crcTail_len, ba_len]
    rw [fGet_form ty d x hxl h2 a b, if_neg]
    intro hg
    have h4 : 4 ≤ (fHead ty d ++ (d.data.toList ++ crcTail (fHead ty d ++ d.data.toList))).length := by simp only [List.length_append, crcTail_len]; omega
    have hgood : crcGood (fHead ty d ++ (d.data.toList ++ crcTail (fHead ty d ++ d.data.toList))) = true := by rw [← List.append_assoc]; exact crcGood_tail _
    have := (turned_good h4 hgood hm (turned_behind ht)).1 hg
    exact hc (List.append_cancel_left this)
/-- unlike sections have unlike frames, and none begins with another one -/
theorem fFrame_apart {x y : Int} {d f : ByteArray} (hx : fE x d = 0) (hy : fE y f = 0) {r : List UInt8} (h : fFrame y f = fFrame x d ++ r) : x = y ∧ d = f := by
  have h1 := fGet_back hx ⟨#[]⟩ (bStr r)
  have h2 := fGet_back hy ⟨#[]⟩ ⟨#[]⟩
  have e1 : (⟨#[]⟩ : ByteArray) ++ bStr (fFrame x d) ++ bStr r = (⟨#[]⟩ : ByteArray) ++ bStr (fFrame y f) ++ ⟨#[]⟩ := by
    apply ba_ext
    rw [app_l, app_l, app_l, app_l, bStr_l, bStr_l, bStr_l, h]
    simp
  rw [e1, h2] at h1
  simp only [Prod.mk.injEq] at h1
  have k1 := fE_ok hx
  have k2 := fE_ok hy
  exact ⟨by omega, h1.1.2.symm⟩
end Go.Proofs.Ytanbifhhoeaofaa

