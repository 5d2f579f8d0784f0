/- strings.IndexRune in the figures, at a rune that is none of ASCII: -1. -/
import Derived.Test.YtlinnmllbbmnpaaDoorHex
import Derived.WalkMore
import Derived.WalkSmall
import Derived.Deep.QuietTactic
import Derived.BigQuiet
import Derived.Deep.RegionWith
namespace Go.Proofs.YtlinnmllbbmnpaaDoor
open Go.RowKit

def figB : ByteArray := ⟨#[48, 49, 50, 51, 52, 53, 54, 55, 56, 57, 97, 98, 99, 100, 101, 102]⟩

theorem encode_high (r : Int) (h1 : 128 ≤ r) : ∃ z : UInt8, 128 ≤ z.toNat ∧
    ((∃ a, Utf8.encode r = ⟨#[a, z]⟩) ∨ (∃ a b, Utf8.encode r = ⟨#[a, b, z]⟩) ∨ (∃ a b c, Utf8.encode r = ⟨#[a, b, c, z]⟩)) := by
  obtain ⟨c, hc, hc1, hc2⟩ : ∃ c, c = (if Utf8.valid r then r.toNat else Utf8.runeError) ∧ 128 ≤ c ∧ c ≤ 1114111 := by
    by_cases hv : Utf8.valid r = true
    · have hv2 := hv
      simp only [Utf8.valid, Bool.and_eq_true, Bool.or_eq_true, decide_eq_true_eq] at hv2
      exact ⟨_, rfl, by rw [if_pos hv]; omega, by rw [if_pos hv]; omega⟩
    · exact ⟨_, rfl, by rw [if_neg hv]; decide, by rw [if_neg hv]; decide⟩
  refine ⟨UInt8.ofNat (0x80 + c % 64), ?_, ?_⟩
  · rw [UInt8.toNat_ofNat']
    omega
  · unfold Utf8.encode
    simp only [← hc]
    rw [if_neg (by omega)]
    by_cases k1 : c < 0x800
    · rw [if_pos k1]; exact .inl ⟨_, rfl⟩
    · rw [if_neg k1]
      by_cases k2 : c < 0x10000
      · rw [if_pos k2]; exact .inr (.inl ⟨_, _, rfl⟩)
      · rw [if_neg k2]; exact .inr (.inr ⟨_, _, _, rfl⟩)
theorem indexByte_none {l : List UInt8} {z : UInt8} (h : ∀ b ∈ l, b.toNat < 128) (hz : 128 ≤ z.toNat) : Lib.indexByte l z = -1 := by
  induction l with
  | nil => rfl
  | cons b l ih =>
    have h1 := h b List.mem_cons_self
    have : (b == z) = false := by
      rw [beq_eq_false_iff_ne]; rintro rfl; omega
    simp [Lib.indexByte, this, ih (fun x hx => h x (List.mem_cons_of_mem _ hx))]
theorem figB_low : ∀ b ∈ figB.data.toList, b.toNat < 128 := by decide

set_option maxHeartbeats 4000000 in
set_option maxRecDepth 1000000 in
theorem indexRune_high (r : Int) (w : World) (h1 : 128 ≤ r) (h2 : r ≤ 2147483647) (hne : r ≠ 65533) :
    Calls Tryd.prog 38 #[.string ⟨#[48, 49, 50, 51, 52, 53, 54, 55, 56, 57, 97, 98, 99, 100, 101, 102]⟩, .int .i32 r] w fun e w' => e = .returned (.int .i64 (-1)) ∧ Below w.heap.size w w' := by
  have hq : (r == 65533) = false := by simpa using hne
  obtain ⟨z, hz, he⟩ := encode_high r h1
  go_enter Tryd.func38, Tryd.ntmps38
  go_wp2_with go_in
  · go_step3
    rcases he with ⟨a, he⟩ | ⟨a, b, he⟩ | ⟨a, b, c, he⟩
    · go_wp2_with (first | (go_at_call 52; refine (Tryd.strings_IndexByte _ _ _).mono ?_; rintro e w' ⟨rfl, rfl⟩) | go_in)
      go_loopw [9, 10] (fun v9 v10 wr => v9 = .int .i64 1 ∧ v10 = .int .i64 0 ∧ wr = w) (fun _ _ _ => 0)
      case atStart => exact ⟨rfl, rfl, rfl⟩
      case round =>
        obtain ⟨rfl, rfl, rfl⟩ := hrel
        go_wp2_with go_in
        go_step3
        go_wp2
        go_quiet (fail)
        have hbq : Below wr.heap.size wr (wr.drewN nq) := below_drewN (Below.refl _ _) _
        generalize wr.drewN nq = W1 at hbq ⊢
        go_wp2
        · have hw2 : IntKind.i64.wrap 2 = 2 := rfl
          go_quiet ((go_at_call 52; exact Calls.quiet_of_same (Tryd.strings_IndexByte _ _ _)))
          have hbq2 : Below wr.heap.size wr (W1.drewN nq) := below_drewN hbq _
          generalize W1.drewN nq = W2 at hbq2 ⊢
          have hix : Lib.indexByte [50, 51, 52, 53, 54, 55, 56, 57, 97, 98, 99, 100, 101, 102] ((⟨#[a, z]⟩ : ByteArray)[1]'(by show 1 < 2; decide)) = -1 := indexByte_none (by decide) hz
          go_wp2
          · rw [Exit.noGoto_ret]
            go_wp2
            rw [Exit.noGoto_ret]
            go_ret
            exact ⟨rfl, hbq2⟩
        · exfalso
          have hc : ((((⟨#[48, 49, 50, 51, 52, 53, 54, 55, 56, 57, 97, 98, 99, 100, 101, 102]⟩ : ByteArray)[1]'(by decide)).toNat : Int) != (((⟨#[a, z]⟩ : ByteArray)[1]'(by show 1 < 2; decide)).toNat : Int)) = false := by assumption
          have hc2 : ((49 : Int) != (z.toNat : Int)) = false := hc
          rw [bne_eq_false_iff_eq] at hc2
          omega
    · go_wp2_with (first | (go_at_call 52; refine (Tryd.strings_IndexByte _ _ _).mono ?_; rintro e w' ⟨rfl, rfl⟩) | go_in)
      go_loopw [9, 10] (fun v9 v10 wr => v9 = .int .i64 2 ∧ v10 = .int .i64 0 ∧ wr = w) (fun _ _ _ => 0)
      case atStart => exact ⟨rfl, rfl, rfl⟩
      case round =>
        obtain ⟨rfl, rfl, rfl⟩ := hrel
        go_wp2_with go_in
        go_step3
        go_wp2
        go_quiet (fail)
        have hbq : Below wr.heap.size wr (wr.drewN nq) := below_drewN (Below.refl _ _) _
        generalize wr.drewN nq = W1 at hbq ⊢
        go_wp2
        · have hw2 : IntKind.i64.wrap 3 = 3 := rfl
          go_quiet ((go_at_call 52; exact Calls.quiet_of_same (Tryd.strings_IndexByte _ _ _)))
          have hbq2 : Below wr.heap.size wr (W1.drewN nq) := below_drewN hbq _
          generalize W1.drewN nq = W2 at hbq2 ⊢
          have hix : Lib.indexByte [51, 52, 53, 54, 55, 56, 57, 97, 98, 99, 100, 101, 102] ((⟨#[a, b, z]⟩ : ByteArray)[2]'(by show 2 < 3; decide)) = -1 := indexByte_none (by decide) hz
          go_wp2
          · rw [Exit.noGoto_ret]
            go_wp2
            rw [Exit.noGoto_ret]
            go_ret
            exact ⟨rfl, hbq2⟩
        · exfalso
          have hc : ((((⟨#[48, 49, 50, 51, 52, 53, 54, 55, 56, 57, 97, 98, 99, 100, 101, 102]⟩ : ByteArray)[2]'(by decide)).toNat : Int) != (((⟨#[a, b, z]⟩ : ByteArray)[2]'(by show 2 < 3; decide)).toNat : Int)) = false := by assumption
          have hc2 : ((50 : Int) != (z.toNat : Int)) = false := hc
          rw [bne_eq_false_iff_eq] at hc2
          omega
    · go_wp2_with (first | (go_at_call 52; refine (Tryd.strings_IndexByte _ _ _).mono ?_; rintro e w' ⟨rfl, rfl⟩) | go_in)
      go_loopw [9, 10] (fun v9 v10 wr => v9 = .int .i64 3 ∧ v10 = .int .i64 0 ∧ wr = w) (fun _ _ _ => 0)
      case atStart => exact ⟨rfl, rfl, rfl⟩
      case round =>
        obtain ⟨rfl, rfl, rfl⟩ := hrel
        go_wp2_with go_in
        go_step3
        go_wp2
        go_quiet (fail)
        have hbq : Below wr.heap.size wr (wr.drewN nq) := below_drewN (Below.refl _ _) _
        generalize wr.drewN nq = W1 at hbq ⊢
        go_wp2
        · have hw2 : IntKind.i64.wrap 4 = 4 := rfl
          go_quiet ((go_at_call 52; exact Calls.quiet_of_same (Tryd.strings_IndexByte _ _ _)))
          have hbq2 : Below wr.heap.size wr (W1.drewN nq) := below_drewN hbq _
          generalize W1.drewN nq = W2 at hbq2 ⊢
          have hix : Lib.indexByte [52, 53, 54, 55, 56, 57, 97, 98, 99, 100, 101, 102] ((⟨#[a, b, c, z]⟩ : ByteArray)[3]'(by show 3 < 4; decide)) = -1 := indexByte_none (by decide) hz
          go_wp2
          · rw [Exit.noGoto_ret]
            go_wp2
            rw [Exit.noGoto_ret]
            go_ret
            exact ⟨rfl, hbq2⟩
        · exfalso
          have hc : ((((⟨#[48, 49, 50, 51, 52, 53, 54, 55, 56, 57, 97, 98, 99, 100, 101, 102]⟩ : ByteArray)[3]'(by decide)).toNat : Int) != (((⟨#[a, b, c, z]⟩ : ByteArray)[3]'(by show 3 < 4; decide)).toNat : Int)) = false := by assumption
          have hc2 : ((51 : Int) != (z.toNat : Int)) = false := hc
          rw [bne_eq_false_iff_eq] at hc2
          omega
  · go_step3
    rcases he with ⟨a, he⟩ | ⟨a, b, he⟩ | ⟨a, b, c, he⟩
    · go_wp2_with (first | (go_at_call 52; refine (Tryd.strings_IndexByte _ _ _).mono ?_; rintro e w' ⟨rfl, rfl⟩) | go_in)
      go_loopw [9, 10] (fun v9 v10 wr => v9 = .int .i64 1 ∧ v10 = .int .i64 0 ∧ wr = w) (fun _ _ _ => 0)
      case atStart => exact ⟨rfl, rfl, rfl⟩
      case round =>
        obtain ⟨rfl, rfl, rfl⟩ := hrel
        go_wp2_with go_in
        go_step3
        go_wp2
        go_quiet (fail)
        have hbq : Below wr.heap.size wr (wr.drewN nq) := below_drewN (Below.refl _ _) _
        generalize wr.drewN nq = W1 at hbq ⊢
        go_wp2
        · have hw2 : IntKind.i64.wrap 2 = 2 := rfl
          go_quiet ((go_at_call 52; exact Calls.quiet_of_same (Tryd.strings_IndexByte _ _ _)))
          have hbq2 : Below wr.heap.size wr (W1.drewN nq) := below_drewN hbq _
          generalize W1.drewN nq = W2 at hbq2 ⊢
          have hix : Lib.indexByte [50, 51, 52, 53, 54, 55, 56, 57, 97, 98, 99, 100, 101, 102] ((⟨#[a, z]⟩ : ByteArray)[1]'(by show 1 < 2; decide)) = -1 := indexByte_none (by decide) hz
          go_wp2
          · rw [Exit.noGoto_ret]
            go_wp2
            rw [Exit.noGoto_ret]
            go_ret
            exact ⟨rfl, hbq2⟩
        · exfalso
          have hc : ((((⟨#[48, 49, 50, 51, 52, 53, 54, 55, 56, 57, 97, 98, 99, 100, 101, 102]⟩ : ByteArray)[1]'(by decide)).toNat : Int) != (((⟨#[a, z]⟩ : ByteArray)[1]'(by show 1 < 2; decide)).toNat : Int)) = false := by assumption
          have hc2 : ((49 : Int) != (z.toNat : Int)) = false := hc
          rw [bne_eq_false_iff_eq] at hc2
          omega
    · go_wp2_with (first | (go_at_call 52; refine (Tryd.strings_IndexByte _ _ _).mono ?_; rintro e w' ⟨rfl, rfl⟩) | go_in)
      go_loopw [9, 10] (fun v9 v10 wr => v9 = .int .i64 2 ∧ v10 = .int .i64 0 ∧ wr = w) (fun _ _ _ => 0)
      case atStart => exact ⟨rfl, rfl, rfl⟩
      case round =>
        obtain ⟨rfl, rfl, rfl⟩ := hrel
        go_wp2_with go_in
        go_step3
        go_wp2
        go_quiet (fail)
        have hbq : Below wr.heap.size wr (wr.drewN nq) := below_drewN (Below.refl _ _) _
        generalize wr.drewN nq = W1 at hbq ⊢
        go_wp2
        · have hw2 : IntKind.i64.wrap 3 = 3 := rfl
          go_quiet ((go_at_call 52; exact Calls.quiet_of_same (Tryd.strings_IndexByte _ _ _)))
          have hbq2 : Below wr.heap.size wr (W1.drewN nq) := below_drewN hbq _
          generalize W1.drewN nq = W2 at hbq2 ⊢
          have hix : Lib.indexByte [51, 52, 53, 54, 55, 56, 57, 97, 98, 99, 100, 101, 102] ((⟨#[a, b, z]⟩ : ByteArray)[2]'(by show 2 < 3; decide)) = -1 := indexByte_none (by decide) hz
          go_wp2
          · rw [Exit.noGoto_ret]
            go_wp2
            rw [Exit.noGoto_ret]
            go_ret
            exact ⟨rfl, hbq2⟩
        · exfalso
          have hc : ((((⟨#[48, 49, 50, 51, 52, 53, 54, 55, 56, 57, 97, 98, 99, 100, 101, 102]⟩ : ByteArray)[2]'(by decide)).toNat : Int) != (((⟨#[a, b, z]⟩ : ByteArray)[2]'(by show 2 < 3; decide)).toNat : Int)) = false := by assumption
          have hc2 : ((50 : Int) != (z.toNat : Int)) = false := hc
          rw [bne_eq_false_iff_eq] at hc2
          omega
    · go_wp2_with (first | (go_at_call 52; refine (Tryd.strings_IndexByte _ _ _).mono ?_; rintro e w' ⟨rfl, rfl⟩) | go_in)
      go_loopw [9, 10] (fun v9 v10 wr => v9 = .int .i64 3 ∧ v10 = .int .i64 0 ∧ wr = w) (fun _ _ _ => 0)
      case atStart => exact ⟨rfl, rfl, rfl⟩
      case round =>
        obtain ⟨rfl, rfl, rfl⟩ := hrel
        go_wp2_with go_in
        go_step3
        go_wp2
        go_quiet (fail)
        have hbq : Below wr.heap.size wr (wr.drewN nq) := below_drewN (Below.refl _ _) _
        generalize wr.drewN nq = W1 at hbq ⊢
        go_wp2
        · have hw2 : IntKind.i64.wrap 4 = 4 := rfl
          go_quiet ((go_at_call 52; exact Calls.quiet_of_same (Tryd.strings_IndexByte _ _ _)))
          have hbq2 : Below wr.heap.size wr (W1.drewN nq) := below_drewN hbq _
          generalize W1.drewN nq = W2 at hbq2 ⊢
          have hix : Lib.indexByte [52, 53, 54, 55, 56, 57, 97, 98, 99, 100, 101, 102] ((⟨#[a, b, c, z]⟩ : ByteArray)[3]'(by show 3 < 4; decide)) = -1 := indexByte_none (by decide) hz
          go_wp2
          · rw [Exit.noGoto_ret]
            go_wp2
            rw [Exit.noGoto_ret]
            go_ret
            exact ⟨rfl, hbq2⟩
        · exfalso
          have hc : ((((⟨#[48, 49, 50, 51, 52, 53, 54, 55, 56, 57, 97, 98, 99, 100, 101, 102]⟩ : ByteArray)[3]'(by decide)).toNat : Int) != (((⟨#[a, b, c, z]⟩ : ByteArray)[3]'(by show 3 < 4; decide)).toNat : Int)) = false := by assumption
          have hc2 : ((51 : Int) != (z.toNat : Int)) = false := hc
          rw [bne_eq_false_iff_eq] at hc2
          omega
  all_goals (go_ret; exact ⟨rfl, Below.refl _ _⟩)
end Go.Proofs.YtlinnmllbbmnpaaDoor
