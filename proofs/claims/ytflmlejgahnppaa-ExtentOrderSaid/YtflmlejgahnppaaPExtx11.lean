/- Written by a program of this session out of the translation: the kit's print, run from a copy in which some functions are given by hand. -/
import Derived.Test.YtflmlejgahnppaaPExtx0
import Derived.Test.YtflmlejgahnppaaPExtx8
namespace Go.Proofs.Ytflmlejgahnppaa.PExt
open Go.RowKit Go.Proofs.YtflmlejgahnppaaW.PrintWords Go.Proofs.YtflmlejgahnppaaW.PrintLast Go.Proofs.YtflmlejgahnppaaW.PrintMore
attribute [local go_sem] max2_int min2_int max_two min_two max_three min_three max_four min_four   -- for this text's walks alone
set_option linter.unusedVariables false
set_option linter.unusedSimpArgs false

/-! ### oakumref11_Free: function 15 -/
def oakumref11_Free.l0 : Nat → List (S23) → Int → Int → Option (Int)
  | 0, _, _, _ => none
  | k + 1, x5, x7, x8 => if x8 < (x5.length : Int) then (if 0 ≤ x8 then (oakumref11_Free.l0 k x5 (wrap64 (x7 + ((rd_T23 x5 x8).f1))) (wrap64 (x8 + 1))) else (none)) else (some x7)
def oakumref11_Free.f (k : Nat) (a0_0 : Int) (a0_1 : Int) (l1 : List (S23)) : Option (Int) := (oakumref11_Gaps.f k a0_0 a0_1 l1).bind fun bt168 => (oakumref11_Free.l0 k bt168.1 0 0)
theorem oakumref11_Free.mono_l : ∀ k, (∀ y0 y1 y2, LeO (oakumref11_Free.l0 k y0 y1 y2) (oakumref11_Free.l0 (k + 1) y0 y1 y2))
  | 0 => fun _ _ _ r h => by simp [oakumref11_Free.l0] at h
  | k + 1 => by
    have ih0 := oakumref11_Free.mono_l k
    · intro y0 y1 y2
      unfold oakumref11_Free.l0
      repeat' first
      | (with_reducible exact ih0 _ _ _)
      | (with_reducible exact oakumref11_Gaps.mono _ _ _ _)
      | (with_reducible exact LeO.refl _)
      | (with_reducible exact LeO.none _)
      | (with_reducible refine LeO.ite ?_ ?_)
      | (with_reducible refine LeO.bind ?_ (fun _ => ?_))
      | exact ih0 _ _ _
      | exact oakumref11_Gaps.mono _ _ _ _
      | exact LeO.none _
      | refine LeO.ite ?_ ?_
      | refine LeO.bind ?_ (fun _ => ?_)
theorem oakumref11_Free.mono : ∀ a0 a1 a2 k, LeO (oakumref11_Free.f k a0 a1 a2) (oakumref11_Free.f (k + 1) a0 a1 a2) := by
  intro a0 a1 a2 k
  have ih0 := oakumref11_Free.mono_l k
  unfold oakumref11_Free.f
  repeat' first
      | (with_reducible exact ih0 _ _ _)
      | (with_reducible exact oakumref11_Gaps.mono _ _ _ _)
      | (with_reducible exact LeO.refl _)
      | (with_reducible exact LeO.none _)
      | (with_reducible refine LeO.ite ?_ ?_)
      | (with_reducible refine LeO.bind ?_ (fun _ => ?_))
      | exact ih0 _ _ _
      | exact oakumref11_Gaps.mono _ _ _ _
      | exact LeO.none _
      | refine LeO.ite ?_ ?_
      | refine LeO.bind ?_ (fun _ => ?_)
set_option maxHeartbeats 8000000 in
set_option maxRecDepth 100000 in
theorem oakumref11_Free.calls (k : Nat) (a0_0 : Int) (a0_1 : Int) (A1 : Option Addr) (c1 : Nat) (l1 : List (S23)) (r : Int) (w : World) (hr1 : Kd.C k23 w A1 l1.length l1) (hc1 : l1.length ≤ c1) (h : oakumref11_Free.f k a0_0 a0_1 l1 = some r) :
    Calls Try.prog 15 #[.agg #[.int .i64 a0_0, .int .i64 a0_1], .slice A1 l1.length c1] w fun e w' => e = .returned (.int .i64 r) ∧ Below w.heap.size w w' := by
  have hu23 := Try.underlying23
  have HR1 := Aside0.mk hr1
  have HC1 := Aside0.mk hc1
  clear hr1 hc1
  have HB := Aside0.mk (Below.refl w.heap.size w)
  have H : ((oakumref11_Gaps.f k a0_0 a0_1 l1).bind fun bt168 => (oakumref11_Free.l0 k bt168.1 0 0)) = some r := h
  clear h
  replace H := Option.bind_eq_some_iff.mp H
  obtain ⟨⟨t168, t171⟩, A30, H⟩ := H
  replace H : (oakumref11_Free.l0 k t168 0 0) = some r := H
  have A3 := Aside0.mk A30
  clear A30
  have H' := Aside0.mk H
  clear H
  go_enter Try.func15, Try.ntmps15
  go_wp2_with (first | ((with_reducible refine gate_dst (N := 2) rfl ?_); refine box_event ?hg (N := 2) ?hd (cs := #[.int .i64 a0_0, .int .i64 a0_1]) (t := 23) ?hr ?_; (case hd => rfl); (case hg => rfl); (case hr => first | (go_simp; done) | (go_simp; rfl)); intro gb167 hg w4 hbox hb; have n0_ := Aside0.mk (below_step (by repeat (first | (with_reducible first | exact HB.out | apply below_alloc | apply pw_below_drewN | apply below_drew1) | exact HB.out)) hb); have n1_ := Aside0.mk (hbox); have n2_ := Aside0.mk ((by rw [hg]; exact (below_size (by repeat (first | (with_reducible first | exact HB.out | apply below_alloc | apply pw_below_drewN | apply below_drew1) | exact HB.out))) : w.heap.size ≤ gb167)); have n3_ := Aside0.mk ((by rw [hg]; exact (below_size (by repeat (first | (with_reducible first | exact HB.out | apply below_alloc | apply pw_below_drewN | apply below_drew1) | exact HB.out))) : w.heap.size ≤ gb167)); clear HB; have HB := n0_; have BK167 := n1_; have GW167 := n2_; have GE167 := n3_; clear n0_ n1_ n2_ n3_; clear hb hbox hg; have hcz5_0 : w4.cell? ⟨gb167, 0, none⟩ = some (.int .i64 a0_0) := (blk_cell BK167.out 0).trans rfl; have hcz5_1 : w4.cell? ⟨gb167, 1, none⟩ = some (.int .i64 a0_1) := (blk_cell BK167.out 1).trans rfl; have hfz5_0 := blk_frozen BK167.out 0; have hfz5_1 := blk_frozen BK167.out 1) | ((with_reducible refine gate_callee (f := 8) rfl ?_); refine goesL_ (some 12) rfl rfl Try.func8 (by kernel_rfl) rfl #[.agg #[.int .i64 a0_0, .int .i64 a0_1], .slice A1 l1.length c1] rfl (by (try simp only [List.map_toArray, List.map_cons, List.map_nil]); first | done | rfl | (simp only [List.length_drop, List.length_take]; rfl)) ?_; (with_reducible refine (oakumref11_Gaps.calls k a0_0 a0_1 _ _ l1 t168 t171 _ ?side1 ?side2 A3.out).mono ?_); (case side1 => repeat (first | exact (Kd.C_below HR1.out HB.out) | (with_reducible refine Kd.C_alloc ?_ _) | (with_reducible refine Kd.C_drewN ?_ _) | (with_reducible refine Kd.C_drew ?_))); (case side2 => exact HC1.out); rintro e w6 ⟨v169, rfl, ho0, hb⟩; refine ⟨_, rfl, ?_⟩; have n0_ := Aside0.mk (Kd.R_lower (Kd.R_newB ho0 (g := gb167) (o := .cells #[.int .i64 a0_0, .int .i64 a0_1] 23 (0, 0)) (by (with_reducible repeat (first | refine blk_drewN ?_ _ | refine blk_drew ?_ | refine blk_alloc ?_ _)); exact BK167.out)) (below_size (by repeat (first | (with_reducible first | exact HB.out | apply below_alloc | apply pw_below_drewN | apply below_drew1 | refine below_set ?_ GE167.out) | exact HB.out)))); have n1_ := Aside0.mk (blk_below (g := gb167) (o := .cells #[.int .i64 a0_0, .int .i64 a0_1] 23 (0, 0)) (by (with_reducible repeat (first | refine blk_drewN ?_ _ | refine blk_drew ?_ | refine blk_alloc ?_ _)); exact BK167.out) hb); have n2_ := Aside0.mk (below_step (by repeat (first | (with_reducible first | exact HB.out | apply below_alloc | apply pw_below_drewN | apply below_drew1 | refine below_set ?_ GE167.out) | exact HB.out)) hb); clear BK167; clear HB; have HO170 := n0_; have BK167 := n1_; have HB := n2_; clear n0_ n1_ n2_; (try clear hb); (try clear hb2); (try clear hk); (try clear hi); (try clear ho0)))
  go_loopg [7, 8] k (fun kq v7 v8 w' => ∃ (x7_1 : Int) (x8_1 : Int), v7 = .int .i64 x7_1 ∧ v8 = .int .i64 x8_1 ∧ Aside0 (oakumref11_Free.l0 kq t168 x7_1 x8_1 = some r) ∧ Aside0 (kq ≤ k) ∧ Aside0 (Kd.R k23 23 w' w.heap.size (fun k_ => k_ ≠ gb167) v169 t168) ∧ Aside0 (w'.heap[gb167]? = some (.cells #[.int .i64 a0_0, .int .i64 a0_1] 23 (0, 0))) ∧ Aside0 (Below w.heap.size w w'))
  case atStart => exact ⟨(0), (0), (by first | rfl | (simp; done) | (simp [*]; done)), (by first | rfl | (simp; done) | (simp [*]; done)), H', ⟨Nat.le_refl _⟩, ⟨by (with_reducible repeat (first | apply Kd.R_alloc | apply Kd.R_drewN | apply Kd.R_drew)); exact Kd.R_mono HO170.out (fun _ hk => hk.2)⟩, ⟨by (with_reducible repeat (first | refine blk_drewN ?_ _ | refine blk_drew ?_ | refine blk_alloc ?_ _)); exact BK167.out⟩, ⟨by repeat (first | (with_reducible first | exact HB.out | apply below_alloc | apply pw_below_drewN | apply below_drew1 | refine below_set ?_ GE167.out) | exact HB.out)⟩⟩
  case round =>
    clear H'
    try clear c1
    try clear p2
    try clear hcz5_0
    try clear hcz5_1
    try clear hfz5_0
    try clear hfz5_1
    obtain ⟨x7_1, x8_1, rfl, rfl, HA, HK1, HO_5, BK167, HB⟩ := hrel
    cases gk with
    | zero => exact absurd HA.out (by simp [oakumref11_Free.l0])
    | succ k1 =>
      have H := HA.out
      clear HA
      simp only [oakumref11_Free.l0] at H
      by_cases c7 : x8_1 < (t168.length : Int)
      · rw [if_pos c7] at H
        have c7b0 : decide (x8_1 < (t168.length : Int)) = true := decide_eq_true c7
        clear c7
        by_cases c8 : 0 ≤ x8_1
        · rw [if_pos c8] at H
          have c8b0 : decide (0 ≤ x8_1) = true := decide_eq_true c8
          clear c8
          have H' := Aside0.mk H
          clear H
          obtain ⟨Ao9, co9, eo9⟩ := Kd.R_slice HO_5.out
          subst eo9
          have p172 : 0 ≤ (x8_1 : Int) := of_decide_eq_true (by first | (with_reducible assumption) | assumption)
          have q172 : x8_1 < (t168.length : Int) := of_decide_eq_true (by first | (with_reducible assumption) | assumption)
          obtain ⟨ad172, e172, hx172_0, hx172_1⟩ := at_T23 (Kd.R_reads' HO_5.out).2.2 x8_1 p172 q172
          cases e172
          replace p172 := eq_true p172
          replace q172 := eq_true q172
          go_wp2
          go_roundg k1
          case measure => have := HK1.out; omega
          case rel => exact ⟨(wrap64 (x7_1 + ((rd_T23 t168 x8_1).f1))), (wrap64 (x8_1 + 1)), (by first | rfl | (simp; done) | (simp [*]; done)), (by first | rfl | (simp; done) | (simp [*]; done)), H', ⟨by have := HK1.out; omega⟩, ⟨by (with_reducible repeat (first | apply Kd.R_alloc | apply Kd.R_drewN | apply Kd.R_drew)); exact HO_5.out⟩, ⟨by (with_reducible repeat (first | refine blk_drewN ?_ _ | refine blk_drew ?_ | refine blk_alloc ?_ _)); exact BK167.out⟩, ⟨by repeat (first | (with_reducible first | exact HB.out | apply below_alloc | apply pw_below_drewN | apply below_drew1 | refine below_set ?_ GE167.out) | exact HB.out)⟩⟩
        · rw [if_neg c8] at H
          exact absurd H (by simp)
      · rw [if_neg c7] at H
        have c7b0 : decide (x8_1 < (t168.length : Int)) = false := decide_eq_false c7
        clear c7
        obtain rfl := Option.some.inj H
        obtain ⟨Ao10, co10, eo10⟩ := Kd.R_slice HO_5.out
        subst eo10
        go_wp2
        go_ret
        exact ⟨by first | rfl | (simp [errW_none, errW_some] <;> rfl) | (simp [*, errW_none, errW_some] <;> rfl), by repeat (first | (with_reducible first | exact HB.out | apply below_alloc | apply pw_below_drewN | apply below_drew1 | refine below_set ?_ GE167.out) | exact HB.out)⟩

end Go.Proofs.Ytflmlejgahnppaa.PExt
