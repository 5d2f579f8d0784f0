/- Bytes in figures: the builder's loop, walked; at most 2000 bytes. -/
import Derived.Test.YtlinnmllbbmnpaaDoorShelf
import Derived.Test.YtlinnmllbbmnpaaDoorRows
import Derived.WalkKit
import Derived.BigCall
namespace Go.Proofs.YtlinnmllbbmnpaaDoor
open Go.RowKit

def figL : List UInt8 := [48, 49, 50, 51, 52, 53, 54, 55, 56, 57, 97, 98, 99, 100, 101, 102]
def hexOne (b : UInt8) : List UInt8 := [figL.getD (b.toNat / 16) 0, figL.getD (b.toNat % 16) 0]
def hexL (l : List UInt8) : List UInt8 := l.flatMap hexOne
def hexOf (l : List UInt8) : List UInt8 := if l = [] then [45] else hexL l

theorem w64 {a : Int} (h1 : -9223372036854775808 ≤ a) (h2 : a ≤ 9223372036854775807) : wrap64 a = a := by unfold wrap64; omega
theorem hexL_append (a b : List UInt8) : hexL (a ++ b) = hexL a ++ hexL b := by simp [hexL]
theorem figs_at (i : Nat) (h : i < 16) : ((⟨#[48, 49, 50, 51, 52, 53, 54, 55, 56, 57, 97, 98, 99, 100, 101, 102]⟩ : ByteArray)[i]'h) = figL.getD i 0 := by
  have : ∀ i : Fin 16, ((⟨#[48, 49, 50, 51, 52, 53, 54, 55, 56, 57, 97, 98, 99, 100, 101, 102]⟩ : ByteArray)[i.1]'i.2) = figL.getD i.1 0 := by decide
  exact this ⟨i, h⟩

set_option maxHeartbeats 4000000 in
set_option maxRecDepth 1000000 in
theorem hex_calls (s : ByteArray) (w : World) (hs : s.size ≤ 10000) :
    Calls Tryd.prog 11 #[.string s] w fun e w' => e = .returned (.string ⟨(hexOf s.data.toList).toArray⟩) ∧ Below w.heap.size w w' := by
  go_enter Tryd.func11, Tryd.ntmps11
  go_wp2
  · go_ret
    have h : s.toList.isEmpty = true := by assumption
    rw [ByteArray.toList_eq, List.isEmpty_iff] at h
    rw [h]
    exact ⟨rfl, Below.refl _ _⟩
  · have hne : s.toList.isEmpty = false := by assumption
    rw [hne]
    rw [ByteArray.toList_eq] at hne
    go_loopw [9] (fun v9 wr => ∃ (i : Nat) (acc : List UInt8), v9 = .int .i64 (i : Int) ∧ i ≤ s.size ∧ Lib.IsBuilder 51 5 w.heap.size w.heap.size (Lib.byteCells acc) wr ∧ Below w.heap.size w wr ∧ acc = hexL (s.data.toList.take i) ∧ acc.length = 2 * i ∧ w.heap.size < wr.heap.size) (fun v9 _ => s.size - (Lib.intOf v9).toNat)
    case atStart =>
      refine ⟨0, [], rfl, by omega, Lib.fresh_isBuilder 51 5 w, (Below.refl _ w).alloc (Nat.le_refl _) _, rfl, rfl, by simp⟩
    case round =>
      obtain ⟨i, acc, rfl, hi, hI, hbw, hacc, hlen, hsz⟩ := hrel
      by_cases hp : i < s.size
      · have hb0 : (s[i]'hp).toNat < 256 := (s[i]'hp).toNat_lt
        have hb1 : 0 ≤ (((s[i]'hp).toNat : Int) / 16) ∧ (((s[i]'hp).toNat : Int) / 16) < 16 := by omega
        have hb2 : 0 ≤ (((s[i]'hp).toNat : Int) % 16) ∧ (((s[i]'hp).toNat : Int) % 16) < 16 := by omega
        go_wp2_with (first | (go_at_call 22; refine (Tryd.Builder_WriteByte w.heap.size w.heap.size _ _ _ hI (by rw [Lib.byteCells_length]; omega) (by omega)).mono ?_))
        rintro e W1 ⟨rfl, h1, b1⟩
        have hs1 : wr.heap.size ≤ W1.heap.size := b1.size
        go_wp2_with (first | (go_at_call 22; refine (Tryd.Builder_WriteByte w.heap.size w.heap.size _ _ _ (Or.inr h1) (by simp only [List.length_append, Lib.byteCells_length, List.length_singleton]; omega) (by omega)).mono ?_))
        rintro e W2 ⟨rfl, h2, b2⟩
        have hs2 : W1.heap.size ≤ W2.heap.size := b2.size
        go_wp2
        go_roundw
        case rel =>
          refine ⟨i + 1, acc ++ hexOne (s[i]'hp), ?_, by omega, ?_, (hbw.trans b1).trans b2, ?_, ?_, by omega⟩
          · simp
          · right
            have e1 : Lib.byteCells (acc ++ hexOne (s[i]'hp)) = Lib.byteCells acc ++ [.int .u8 (figL.getD ((s[i]'hp).toNat / 16) 0).toNat] ++ [.int .u8 (figL.getD ((s[i]'hp).toNat % 16) 0).toNat] := by
              simp [Lib.byteCells, hexOne]
            rw [e1, ← figs_at _ (by omega), ← figs_at _ (by omega)]
            exact h2
          · rw [hacc]
            have hlt : i < s.data.toList.length := by simpa using hp
            rw [List.take_add_one, hexL_append, List.getElem?_eq_getElem hlt]
            simp [hexL]
            rfl
          · simp [hexOne, hlen]; omega
        case measure =>
          simp only [Lib.intOf]
          omega
      · go_wp2_with (go_at_call 23; refine (Tryd.Builder_String_any w.heap.size w.heap.size acc _ hI (by omega)).mono ?_)
        rintro e W1 ⟨rfl, b1⟩
        go_wp2
        go_ret
        refine ⟨?_, hbw.trans b1⟩
        show Ending.returned (.string ⟨(hexL (s.data.toList.take i)).toArray⟩) = _
        rw [List.take_of_length_le (by simpa using hp)]
        unfold hexOf
        rw [if_neg (by intro hh; rw [hh] at hne; simp at hne)]
end Go.Proofs.YtlinnmllbbmnpaaDoor
