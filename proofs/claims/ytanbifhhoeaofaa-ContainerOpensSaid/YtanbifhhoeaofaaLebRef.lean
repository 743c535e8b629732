/- The walk of the reference Put, and of the law LebPuts. No conditions. -/
import Derived.Test.YtanbifhhoeaofaaLebLaws
import Derived.Deep.RegionWith
namespace Go.Proofs.Ytanbifhhoeaofaa
set_option linter.unusedVariables false
open Go Go.RowKit
theorem lebStr_lt {n : Nat} (h : n < 128) : lebStr n = ⟨#[UInt8.ofNat n]⟩ := by rw [lebStr, digs_lt h]; rfl
theorem lebStr_ge {n : Nat} (h : ¬ n < 128) : lebStr n = ⟨#[UInt8.ofNat (128 + n % 128)]⟩ ++ lebStr (n / 128) := by
  rw [lebStr, digs_ge h, lebStr]; apply ByteArray.ext; simp
theorem later' {W w1 w2 : World} (h : Below W.heap.size W w1) (hb : Below w1.heap.size w1 w2) : Below W.heap.size W w2 ∧ W.heap.size ≤ w2.heap.size := ⟨later h hb, (later h hb).size⟩
theorem bcell {W w1 : World} (hb : Below W.heap.size W w1) : (∀ b o, b < W.heap.size → w1.cell? ⟨b, o, none⟩ = W.cell? ⟨b, o, none⟩) ∧ (∀ b o, b < W.heap.size → w1.frozen? ⟨b, o, none⟩ = W.frozen? ⟨b, o, none⟩) :=
  ⟨fun b o h => hb.cell (p := ⟨b, o, none⟩) h, fun b o h => hb.frozen (p := ⟨b, o, none⟩) h⟩

theorem conv1 (x : Nat) (hx : x < 256) (B : Nat) (W : World) (h : W.cell? ⟨B, 0, none⟩ = some (.int .u8 x)) :
    (convert 61 9 (.slice (some ⟨B, 0, none⟩) 1 1)).run Try.prog W = .ok (.string ⟨#[UInt8.ofNat x]⟩) W := by
  have hc := run_convert_bytes_back (P := Try.prog) W 61 9 5 ⟨B, 0, none⟩ 1 [UInt8.ofNat x] Try.underlying61 Try.underlying5 Try.underlying9 (fun j hj => by
    simp only [List.length_cons, List.length_nil, Nat.zero_add, Nat.lt_one_iff] at hj
    subst hj
    simp only [Addr.add, List.getElem_cons_zero, UInt8.toNat_ofNat']
    rw [Nat.mod_eq_of_lt (by simpa using hx)]
    exact h)
  exact hc

set_option maxRecDepth 100000 in
set_option maxHeartbeats 2000000 in
theorem rput_base (m : Nat) (h : m < 128) (w : World) :
    Calls Try.prog 36 #[.int .u64 m] w fun e w' => e = .returned (.string (lebStr m)) ∧ Below w.heap.size w w' := by
  rw [lebStr_lt h]
  have hc := conv1 m (by omega)
  go_enter Try.func36, Try.ntmps36
  go_wp2_with fail
  go_ret
  refine ⟨rfl, ?_⟩
  go_grown
set_option maxRecDepth 100000 in
set_option maxHeartbeats 2000000 in
theorem rput_step (m : Nat) (h : ¬ m < 128) (hm : U64 m) (w : World) (ih : ∀ w, Calls Try.prog 36 #[.int .u64 (m / 128 : Nat)] w fun e w' => e = .returned (.string (lebStr (m / 128))) ∧ Below w.heap.size w w') :
    Calls Try.prog 36 #[.int .u64 m] w fun e w' => e = .returned (.string (lebStr m)) ∧ Below w.heap.size w w' := by
  have HS := Lib.hid (lebStr_ge h)
  have hls : (lebStr (m / 128)).size ≤ 10 := by rw [lebStr_size]; exact digs_len_10 (hm.div 128)
  obtain ⟨d, hd⟩ : ∃ d, 128 + m % 128 = d := ⟨_, rfl⟩
  obtain ⟨q, hq⟩ : ∃ q, m / 128 = q := ⟨_, rfl⟩
  have hd256 : d < 256 := by omega
  have hdv : IntKind.u8.wrap (IntKind.u64.wrap (128 + (m : Int).tmod 128)) = (d : Int) := by
    rw [Int.tmod_eq_emod_of_nonneg (by omega), IntKind.wrap_u64, IntKind.wrap_u8]; omega
  have hqv : IntKind.u64.wrap ((m : Int) / 128) = (q : Int) := by
    unfold U64 at hm; rw [IntKind.wrap_u64]; omega
  rw [hd, hq] at HS
  rw [hq] at hls ih
  have hc := conv1 d hd256
  clear hd hq
  have IH := Lib.hid ih
  have HD := Lib.hid hd256
  clear ih hd256
  go_enter Try.func36, Try.ntmps36
  go_wp2_with fail
  go_region_with (go_at_call 36; refine (IH.out _).mono ?_; rintro e w2 ⟨rfl, hb3⟩; have hz2 := hb3.size; (try simp only [World.size_alloc, World.size_drew] at hz2); (try have hz3 := Nat.lt_of_succ_le hz2); obtain ⟨hcc, hff⟩ := bcell hb3)
  all_goals go_wp2_with fail
  all_goals go_ret
  all_goals refine ⟨by rw [HS.out]; rfl, ?_⟩
  · exact later (((Below.refl _ _).alloc (Nat.le_refl _) _).drew) hb3
  · exact later (((Below.refl _ _).alloc (Nat.le_refl _) _).drew) hb3
  · exact ((Below.refl _ _).drew.trans (hb3.mono (by simp))).alloc (by simpa using hz2) _
theorem rput_any (m : Nat) : ∀ (hm : U64 m) (w : World),
    Calls Try.prog 36 #[.int .u64 m] w fun e w' => e = .returned (.string (lebStr m)) ∧ Below w.heap.size w w' := by
  induction m using Nat.strongRecOn with
  | _ m ih =>
    intro hm w
    by_cases h : m < 128
    · exact rput_base m h w
    · exact rput_step m h hm w (fun w => ih _ (by omega) (hm.div 128) w)

end Go.Proofs.Ytanbifhhoeaofaa

