/- strings.IndexRune in the figures, at any rune: its place, or -1. -/
import Derived.Test.YtlinnmllbbmnpaaDoorRune
namespace Go.Proofs.YtlinnmllbbmnpaaDoor
open Go.RowKit

theorem figs_decode (pos : Nat) (h : pos < 16) : (Utf8.decode ⟨#[48, 49, 50, 51, 52, 53, 54, 55, 56, 57, 97, 98, 99, 100, 101, 102]⟩ pos).2 = 1 ∧ (Utf8.decode ⟨#[48, 49, 50, 51, 52, 53, 54, 55, 56, 57, 97, 98, 99, 100, 101, 102]⟩ pos).1 < 128 := by
  have : ∀ i : Fin 16, (Utf8.decode ⟨#[48, 49, 50, 51, 52, 53, 54, 55, 56, 57, 97, 98, 99, 100, 101, 102]⟩ i.1).2 = 1 ∧ (Utf8.decode ⟨#[48, 49, 50, 51, 52, 53, 54, 55, 56, 57, 97, 98, 99, 100, 101, 102]⟩ i.1).1 < 128 := by decide +kernel
  exact this ⟨pos, h⟩

set_option maxHeartbeats 4000000 in
set_option maxRecDepth 1000000 in
theorem indexRune_err (w : World) :
    Calls Tryd.prog 38 #[.string ⟨#[48, 49, 50, 51, 52, 53, 54, 55, 56, 57, 97, 98, 99, 100, 101, 102]⟩, .int .i32 65533] w fun e w' => e = .returned (.int .i64 (-1)) ∧ Below w.heap.size w w' := by
  obtain ⟨L, hL⟩ : ∃ L : ByteArray, L = ⟨#[48, 49, 50, 51, 52, 53, 54, 55, 56, 57, 97, 98, 99, 100, 101, 102]⟩ := ⟨_, rfl⟩
  have hsz : L.size = 16 := by rw [hL]; rfl
  have hdec : ∀ pos, pos < 16 → (Utf8.decode L pos).2 = 1 ∧ (Utf8.decode L pos).1 < 128 := by rw [hL]; exact figs_decode
  rw [← hL]
  clear hL
  go_enter Tryd.func38, Tryd.ntmps38
  go_wp2
  go_loopw [] (fun wr => ∃ pos : Nat, pos ≤ 16 ∧ wr.heap[w.heap.size]? = some (.stringIter L pos) ∧ Below w.heap.size w wr) (fun wr => 16 - wr.iterPos w.heap.size)
  case atStart =>
    refine ⟨0, by omega, ?_, (Below.refl _ w).alloc (Nat.le_refl _) _⟩
    exact World.iter_heap w L 0
  case round =>
    obtain ⟨pos, hpos, hit, hbw⟩ := hrel
    by_cases hp : pos < L.size
    · have hnx : ∀ ty, (Instr.next (.pointer (some ⟨w.heap.size, 0, none⟩)) true ty).run Tryd.prog wr = _ := fun ty => Lib.run_next_any_at wr w.heap.size L pos ty hit hp
      obtain ⟨hd1, hd2⟩ := hdec pos (by omega)
      have hit2 := Lib.iterAt_heap wr w.heap.size L pos (pos + (Utf8.decode L pos).2) hit
      have hbw2 := Lib.below_iterAt hbw (k := w.heap.size) (by omega) L (pos + (Utf8.decode L pos).2)
      have hne : (((Utf8.decode L pos).1 : Int) == 65533) = false := by rw [beq_eq_false_iff_ne]; omega
      go_wp2
      refine ⟨⟨pos + 1, by omega, by rw [← hd1]; exact hit2, by rw [← hd1]; exact hbw2⟩, ?_⟩
      rw [← hd1]
      simp only [World.iterPos, hit2, hit]
      omega
    · have hnx : ∀ ty, (Instr.next (.pointer (some ⟨w.heap.size, 0, none⟩)) true ty).run Tryd.prog wr = _ := fun ty => Lib.run_next_end_at wr w.heap.size L pos ty hit hp
      go_wp2
      go_ret
      exact ⟨rfl, hbw⟩

/-- What IndexRune tells of a rune in the figures. -/
def figIx (c : Int) : Int := if c < 128 then Lib.indexByte figL c.toNat.toUInt8 else -1
theorem indexRune_calls (c : Int) (w : World) (h0 : 0 ≤ c) (h1 : c ≤ 2147483647) :
    Calls Tryd.prog 38 #[.string ⟨#[48, 49, 50, 51, 52, 53, 54, 55, 56, 57, 97, 98, 99, 100, 101, 102]⟩, .int .i32 c] w fun e w' => e = .returned (.int .i64 (figIx c)) ∧ Below w.heap.size w w' := by
  unfold figIx
  by_cases h : c < 128
  · rw [if_pos h]
    refine (Tryd.strings_IndexRune_ascii _ c w h0 h).mono ?_
    rintro e w' ⟨rfl, rfl⟩
    exact ⟨rfl, Below.refl _ _⟩
  · rw [if_neg h]
    by_cases h2 : c = 65533
    · subst h2; exact indexRune_err w
    · exact indexRune_high c w (by omega) h1 h2
end Go.Proofs.YtlinnmllbbmnpaaDoor
