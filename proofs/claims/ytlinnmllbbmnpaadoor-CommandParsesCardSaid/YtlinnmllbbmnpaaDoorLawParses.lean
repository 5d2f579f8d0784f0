/- The law CommandParses: walked; at every text it answers true. -/
import Derived.Test.YtlinnmllbbmnpaaDoorPlainC
import Derived.Test.YtlinnmllbbmnpaaDoorAlive
namespace Go.Proofs.YtlinnmllbbmnpaaDoor
open Go.RowKit Go.Maps Go.Proofs.YtlinnmllbbmnpaaDoorW.PrintWords Go.Proofs.YtlinnmllbbmnpaaDoorW.PrintLast Go.Proofs.YtlinnmllbbmnpaaDoorW.PrintMore

theorem parse_both (s : ByteArray) (hs : s.size ≤ 10000) : ∃ (p0 : ByteArray) (p1 p2 p3 : Int) (p4 : ByteArray) (p5 : Int), parseVal (parseOf s) = .tuple #[.agg #[.string p0, .int .i64 p1, .int .i64 p2, .int .i64 p3, .string p4], .int .i64 p5] ∧
    ∀ w, Calls Tryd.prog 9 #[.string s] w fun e w' => e = .returned (.tuple #[.agg #[.string p0, .int .i64 p1, .int .i64 p2, .int .i64 p3, .string p4], .int .i64 p5]) ∧ Below w.heap.size w w' := by
  obtain ⟨k, hk⟩ := (PCmd.Parse_ev s hs).rounds
  cases h : parseOf s with
  | none => rw [h] at hk; exact ⟨_, _, _, _, _, _, rfl, fun w => PCmd.oakumref21_Parse.calls k s _ _ _ _ _ _ w hk⟩
  | some c => rw [h] at hk; exact ⟨_, _, _, _, _, _, rfl, fun w => PCmd.oakumref21_Parse.calls k s _ _ _ _ _ _ w hk⟩

set_option maxHeartbeats 8000000 in
set_option maxRecDepth 1000000 in
theorem parses_calls (s : ByteArray) (w : World) (hv : Vars w) :
    Calls Tryd.prog 4 #[.string s] w fun e w' => e = .returned (.bool true) ∧ Below w.heap.size w w' := by
  by_cases hs : 1000 < s.size
  · go_enter Tryd.func4, Tryd.ntmps4
    go_wp2_with (go_at_call 5; refine (alive_calls w hv).mono ?_)
    rintro e W1 ⟨rfl, hb⟩
    go_wp2
    go_ret
    exact ⟨rfl, hb⟩
  · obtain ⟨p0, p1, p2, p3, p4, p5, he, hc⟩ := parse_both s (by omega)
    have HC := Aside0.mk hc
    have hp := parse_calls s w (by omega) hv
    rw [he] at hp
    have HP := Aside0.mk hp
    clear he hc hp
    go_enter Tryd.func4, Tryd.ntmps4
    go_wp2_with fail
    refine HP.out.mono ?_
    clear HP
    rintro e W1 ⟨rfl, hb1⟩
    have hsz1 : w.heap.size ≤ W1.heap.size := hb1.size
    have hx1 : (W1.alloc (.cells #[.string p0, .int .i64 p1, .int .i64 p2, .int .i64 p3, .string p4] 23)).heap[W1.heap.size]? = some (.cells #[.string p0, .int .i64 p1, .int .i64 p2, .int .i64 p3, .string p4] 23 (0, 0)) := blk_new W1 _
    have hb2 : Below w.heap.size w (W1.alloc (.cells #[.string p0, .int .i64 p1, .int .i64 p2, .int .i64 p3, .string p4] 23)) := hb1.alloc hsz1 _
    have hsz2 : (W1.alloc (.cells #[.string p0, .int .i64 p1, .int .i64 p2, .int .i64 p3, .string p4] 23)).heap.size = W1.heap.size + 1 := by simp
    go_wp2_with fail
    refine (HC.out _).mono ?_
    clear HC
    generalize W1.alloc (.cells #[.string p0, .int .i64 p1, .int .i64 p2, .int .i64 p3, .string p4] 23) = W2 at hx1 hb2 hsz2 ⊢
    rintro e W3 ⟨rfl, hb3⟩
    have hx3 := blk_below hx1 hb3
    have hb3w : Below w.heap.size w W3 := hb2.trans (hb3.mono (by omega))
    have hsz3 : W2.heap.size ≤ W3.heap.size := hb3.size
    clear hx1 hb2 hb3
    have hy4 : (W3.alloc (.cells #[.string p0, .int .i64 p1, .int .i64 p2, .int .i64 p3, .string p4] 23)).heap[W3.heap.size]? = some (.cells #[.string p0, .int .i64 p1, .int .i64 p2, .int .i64 p3, .string p4] 23 (0, 0)) := blk_new W3 _
    have hx4 := blk_alloc hx3 (.cells #[.string p0, .int .i64 p1, .int .i64 p2, .int .i64 p3, .string p4] 23)
    have hb4 : Below w.heap.size w (W3.alloc (.cells #[.string p0, .int .i64 p1, .int .i64 p2, .int .i64 p3, .string p4] 23)) := hb3w.alloc (by omega) _
    clear hx3 hb3w
    go_wp2_with fail
    refine (alive_calls _ (hv.below hb4 (Nat.le_refl _))).mono ?_
    generalize W3.alloc (.cells #[.string p0, .int .i64 p1, .int .i64 p2, .int .i64 p3, .string p4] 23) = W4 at hx4 hy4 hb4 ⊢
    rintro e W5 ⟨rfl, hb5⟩
    have hx5 := blk_below hx4 hb5
    have hy5 := blk_below hy4 hb5
    have hb5w : Below w.heap.size w W5 := hb4.trans (hb5.mono hb4.size)
    clear hx4 hy4 hb4 hb5
    have c0 : W5.cell? ⟨W1.heap.size, 0, none⟩ = some (.string p0) := (blk_cell hx5 0).trans rfl
    have c1 : W5.cell? ⟨W1.heap.size, 1, none⟩ = some (.int .i64 p1) := (blk_cell hx5 1).trans rfl
    have c2 : W5.cell? ⟨W1.heap.size, 2, none⟩ = some (.int .i64 p2) := (blk_cell hx5 2).trans rfl
    have c3 : W5.cell? ⟨W1.heap.size, 3, none⟩ = some (.int .i64 p3) := (blk_cell hx5 3).trans rfl
    have c4 : W5.cell? ⟨W1.heap.size, 4, none⟩ = some (.string p4) := (blk_cell hx5 4).trans rfl
    have d0 : W5.cell? ⟨W3.heap.size, 0, none⟩ = some (.string p0) := (blk_cell hy5 0).trans rfl
    have d1 : W5.cell? ⟨W3.heap.size, 1, none⟩ = some (.int .i64 p1) := (blk_cell hy5 1).trans rfl
    have d2 : W5.cell? ⟨W3.heap.size, 2, none⟩ = some (.int .i64 p2) := (blk_cell hy5 2).trans rfl
    have d3 : W5.cell? ⟨W3.heap.size, 3, none⟩ = some (.int .i64 p3) := (blk_cell hy5 3).trans rfl
    have d4 : W5.cell? ⟨W3.heap.size, 4, none⟩ = some (.string p4) := (blk_cell hy5 4).trans rfl
    go_wp2
    go_ret
    exact ⟨rfl, hb5w⟩
end Go.Proofs.YtlinnmllbbmnpaaDoor
