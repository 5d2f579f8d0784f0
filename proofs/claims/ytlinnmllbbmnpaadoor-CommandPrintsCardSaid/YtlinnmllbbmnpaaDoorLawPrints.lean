/- The law CommandPrints: walked; at every command it answers true. -/
import Derived.Test.YtlinnmllbbmnpaaDoorPlainE
import Derived.Test.YtlinnmllbbmnpaaDoorAlive
namespace Go.Proofs.YtlinnmllbbmnpaaDoor
open Go.RowKit Go.Maps Go.Proofs.YtlinnmllbbmnpaaDoorW.PrintWords Go.Proofs.YtlinnmllbbmnpaaDoorW.PrintLast Go.Proofs.YtlinnmllbbmnpaaDoorW.PrintMore

theorem print_both (c : Cmd) (hs : c.op.size + c.data.size ≤ 1000) : ∃ (t : ByteArray) (n : Int), printVal (printOf c) = .tuple #[.string t, .int .i64 n] ∧
    ∀ w, Calls Tryd.prog 7 #[.agg #[.string c.op, .int .i64 c.id, .int .i64 c.at_, .int .i64 c.n, .string c.data]] w fun e w' => e = .returned (.tuple #[.string t, .int .i64 n]) ∧ Below w.heap.size w w' := by
  obtain ⟨k, hk⟩ := (PCmd.Print_ev c hs).rounds
  cases h : printOf c with
  | none => rw [h] at hk; exact ⟨_, _, rfl, fun w => PCmd.oakumref21_Print.calls k _ _ _ _ _ _ _ w hk⟩
  | some t => rw [h] at hk; exact ⟨_, _, rfl, fun w => PCmd.oakumref21_Print.calls k _ _ _ _ _ _ _ w hk⟩

set_option maxHeartbeats 8000000 in
set_option maxRecDepth 1000000 in
theorem prints_calls (c : Cmd) (hf : c.fine) (ho : c.op.size ≤ 140737488351232) (hd : c.data.size ≤ 140737488351232) (w : World) (hv : Vars w) :
    Calls Tryd.prog 3 #[c.agg] w fun e w' => e = .returned (.bool true) ∧ Below w.heap.size w w' := by
  have hb0 : Below w.heap.size w (w.alloc (.cells c.cells 23)) := (Below.refl _ w).alloc (Nat.le_refl _) _
  have hx0 : (w.alloc (.cells c.cells 23)).heap[w.heap.size]? = some (.cells c.cells 23 (0, 0)) := blk_new w _
  unfold Cmd.cells at hb0 hx0
  unfold Cmd.agg Cmd.cells
  by_cases hs : 1000 < c.op.size + c.data.size
  · have hs1 : (c.op.size : Int) + (c.data.size : Int) > 1000 := by omega
    go_enter Tryd.func3, Tryd.ntmps3
    go_wp2_with fail
    refine (alive_calls _ (hv.below hb0 (Nat.le_refl _))).mono ?_
    generalize w.alloc (.cells #[.string c.op, .int .i64 c.id, .int .i64 c.at_, .int .i64 c.n, .string c.data] 23) = W0 at hx0 hb0 ⊢
    rintro e W1 ⟨rfl, hb⟩
    go_wp2
    go_ret
    exact ⟨rfl, hb0.trans (hb.mono hb0.size)⟩
  · have hs1 : ¬ (c.op.size : Int) + (c.data.size : Int) > 1000 := by omega
    obtain ⟨t, n, he, hc⟩ := print_both c (by omega)
    have HC := Aside0.mk hc
    have hp := print_calls c (w.alloc (.cells c.cells 23)) (by omega) hf (hv.below hb0 (Nat.le_refl _))
    rw [he] at hp
    unfold Cmd.agg Cmd.cells at hp
    have HP := Aside0.mk hp
    clear he hc hp
    have hsz0 : (w.alloc (.cells #[.string c.op, .int .i64 c.id, .int .i64 c.at_, .int .i64 c.n, .string c.data] 23)).heap.size = w.heap.size + 1 := by simp
    go_enter Tryd.func3, Tryd.ntmps3
    go_wp2_with fail
    refine HP.out.mono ?_
    clear HP
    generalize w.alloc (.cells #[.string c.op, .int .i64 c.id, .int .i64 c.at_, .int .i64 c.n, .string c.data] 23) = W0 at hx0 hb0 hsz0 ⊢
    rintro e W1 ⟨rfl, hb1⟩
    have hx1 := blk_below hx0 hb1
    have hb1w : Below w.heap.size w W1 := hb0.trans (hb1.mono (by omega))
    clear hx0 hb0 hb1
    have c0 : W1.cell? ⟨w.heap.size, 0, none⟩ = some (.string c.op) := (blk_cell hx1 0).trans rfl
    have c1 : W1.cell? ⟨w.heap.size, 1, none⟩ = some (.int .i64 c.id) := (blk_cell hx1 1).trans rfl
    have c2 : W1.cell? ⟨w.heap.size, 2, none⟩ = some (.int .i64 c.at_) := (blk_cell hx1 2).trans rfl
    have c3 : W1.cell? ⟨w.heap.size, 3, none⟩ = some (.int .i64 c.n) := (blk_cell hx1 3).trans rfl
    have c4 : W1.cell? ⟨w.heap.size, 4, none⟩ = some (.string c.data) := (blk_cell hx1 4).trans rfl
    go_wp2_with fail
    refine (HC.out _).mono ?_
    clear HC
    rintro e W2 ⟨rfl, hb2⟩
    have hb2w : Below w.heap.size w W2 := hb1w.trans (hb2.mono hb1w.size)
    clear hb2
    go_wp2_with fail
    refine (alive_calls _ (hv.below hb2w (Nat.le_refl _))).mono ?_
    rintro e W3 ⟨rfl, hb3⟩
    have hb3w : Below w.heap.size w W3 := hb2w.trans (hb3.mono hb2w.size)
    go_wp2
    go_ret
    exact ⟨rfl, hb3w⟩
end Go.Proofs.YtlinnmllbbmnpaaDoor
