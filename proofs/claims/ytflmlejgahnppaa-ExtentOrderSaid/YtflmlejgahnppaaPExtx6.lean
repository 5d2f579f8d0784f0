/- Written by a program of this session out of the translation: the kit's print, run from a copy in which some functions are given by hand. -/
import Derived.Test.YtflmlejgahnppaaPExtx0
import Derived.Test.YtflmlejgahnppaaPExtx5
namespace Go.Proofs.Ytflmlejgahnppaa.PExt
open Go.RowKit Go.Proofs.YtflmlejgahnppaaW.PrintWords Go.Proofs.YtflmlejgahnppaaW.PrintLast Go.Proofs.YtflmlejgahnppaaW.PrintMore
attribute [local go_sem] max2_int min2_int max_two min_two max_three min_three max_four min_four   -- for this text's walks alone
set_option linter.unusedVariables false
set_option linter.unusedSimpArgs false

/-! ### oakumref11_Right: function 13 -/
mutual
def oakumref11_Right.l0 : Nat → List (S23) → Int → Int → Int → Option (Bool)
  | 0, _, _, _, _ => none
  | k + 1, x1, x6, x141000, x141001 => if x6 < (x1.length : Int) then (if 0 ≤ x6 then (if ((rd_T23 x1 x6).f1) < 1 then (oakumref11_Right.j1 k x1 x6 true x141000 x141001 ((rd_T23 x1 x6).f0) ((rd_T23 x1 x6).f1)) else (if ((rd_T23 x1 x6).f0) < x141000 then (oakumref11_Right.j1 k x1 x6 true x141000 x141001 ((rd_T23 x1 x6).f0) ((rd_T23 x1 x6).f1)) else (if ((rd_T23 x1 x6).f0) ≥ (wrap64 (x141000 + x141001)) then (oakumref11_Right.j1 k x1 x6 true x141000 x141001 ((rd_T23 x1 x6).f0) ((rd_T23 x1 x6).f1)) else (oakumref11_Right.j1 k x1 x6 (decide (((rd_T23 x1 x6).f1) > (wrap64 ((wrap64 (x141000 + x141001)) - ((rd_T23 x1 x6).f0))))) x141000 x141001 ((rd_T23 x1 x6).f0) ((rd_T23 x1 x6).f1))))) else (none)) else (some true)
def oakumref11_Right.j1 : Nat → List (S23) → Int → Bool → Int → Int → Int → Int → Option (Bool)
  | 0, _, _, _, _, _, _, _ => none
  | k + 1, x1, x6, x56, x141000, x141001, x144000, x144001 => if x56 = true then (some false) else (oakumref11_Right.l1 k x1 x6 0 x141000 x141001 x144000 x144001)
def oakumref11_Right.l1 : Nat → List (S23) → Int → Int → Int → Int → Int → Int → Option (Bool)
  | 0, _, _, _, _, _, _, _ => none
  | k + 1, x1, x6, x8, x141000, x141001, x144000, x144001 => if x8 < x6 then (if 0 ≤ x8 then (if x8 < (x1.length : Int) then ((oakumref11_apart.f ((rd_T23 x1 x8).f0) ((rd_T23 x1 x8).f1) x144000 x144001).bind fun t145 => (if t145 = true then (oakumref11_Right.l1 k x1 x6 (wrap64 (x8 + 1)) x141000 x141001 x144000 x144001) else (some false))) else (none)) else (none)) else (oakumref11_Right.l0 k x1 (wrap64 (x6 + 1)) x141000 x141001)
end
def oakumref11_Right.f (k : Nat) (a0_0 : Int) (a0_1 : Int) (l1 : List (S23)) : Option (Bool) := (oakumref11_small.f a0_0 a0_1).bind fun t141 => (if t141 = true then (oakumref11_Right.l0 k l1 0 a0_0 a0_1) else (some false))
theorem oakumref11_Right.mono_l : ∀ k, (∀ y0 y1 y2 y3, LeO (oakumref11_Right.l0 k y0 y1 y2 y3) (oakumref11_Right.l0 (k + 1) y0 y1 y2 y3)) ∧ (∀ y0 y1 y2 y3 y4 y5 y6, LeO (oakumref11_Right.j1 k y0 y1 y2 y3 y4 y5 y6) (oakumref11_Right.j1 (k + 1) y0 y1 y2 y3 y4 y5 y6)) ∧ (∀ y0 y1 y2 y3 y4 y5 y6, LeO (oakumref11_Right.l1 k y0 y1 y2 y3 y4 y5 y6) (oakumref11_Right.l1 (k + 1) y0 y1 y2 y3 y4 y5 y6))
  | 0 => ⟨fun _ _ _ _ r h => by simp [oakumref11_Right.l0] at h, fun _ _ _ _ _ _ _ r h => by simp [oakumref11_Right.j1] at h, fun _ _ _ _ _ _ _ r h => by simp [oakumref11_Right.l1] at h⟩
  | k + 1 => by
    obtain ⟨ih0, ih1, ih2⟩ := oakumref11_Right.mono_l k
    refine ⟨?_, ?_, ?_⟩
    · intro y0 y1 y2 y3
      unfold oakumref11_Right.l0
      repeat' first
      | (with_reducible exact ih0 _ _ _ _)
      | (with_reducible exact ih1 _ _ _ _ _ _ _)
      | (with_reducible exact ih2 _ _ _ _ _ _ _)
      | (with_reducible exact LeO.refl _)
      | (with_reducible exact LeO.none _)
      | (with_reducible refine LeO.ite ?_ ?_)
      | (with_reducible refine LeO.bind ?_ (fun _ => ?_))
      | exact ih0 _ _ _ _
      | exact ih1 _ _ _ _ _ _ _
      | exact ih2 _ _ _ _ _ _ _
      | exact LeO.none _
      | refine LeO.ite ?_ ?_
      | refine LeO.bind ?_ (fun _ => ?_)
    · intro y0 y1 y2 y3 y4 y5 y6
      unfold oakumref11_Right.j1
      repeat' first
      | (with_reducible exact ih0 _ _ _ _)
      | (with_reducible exact ih1 _ _ _ _ _ _ _)
      | (with_reducible exact ih2 _ _ _ _ _ _ _)
      | (with_reducible exact LeO.refl _)
      | (with_reducible exact LeO.none _)
      | (with_reducible refine LeO.ite ?_ ?_)
      | (with_reducible refine LeO.bind ?_ (fun _ => ?_))
      | exact ih0 _ _ _ _
      | exact ih1 _ _ _ _ _ _ _
      | exact ih2 _ _ _ _ _ _ _
      | exact LeO.none _
      | refine LeO.ite ?_ ?_
      | refine LeO.bind ?_ (fun _ => ?_)
    · intro y0 y1 y2 y3 y4 y5 y6
      unfold oakumref11_Right.l1
      repeat' first
      | (with_reducible exact ih0 _ _ _ _)
      | (with_reducible exact ih1 _ _ _ _ _ _ _)
      | (with_reducible exact ih2 _ _ _ _ _ _ _)
      | (with_reducible exact LeO.refl _)
      | (with_reducible exact LeO.none _)
      | (with_reducible refine LeO.ite ?_ ?_)
      | (with_reducible refine LeO.bind ?_ (fun _ => ?_))
      | exact ih0 _ _ _ _
      | exact ih1 _ _ _ _ _ _ _
      | exact ih2 _ _ _ _ _ _ _
      | exact LeO.none _
      | refine LeO.ite ?_ ?_
      | refine LeO.bind ?_ (fun _ => ?_)
theorem oakumref11_Right.mono : ∀ a0 a1 a2 k, LeO (oakumref11_Right.f k a0 a1 a2) (oakumref11_Right.f (k + 1) a0 a1 a2) := by
  intro a0 a1 a2 k
  obtain ⟨ih0, ih1, ih2⟩ := oakumref11_Right.mono_l k
  unfold oakumref11_Right.f
  repeat' first
      | (with_reducible exact ih0 _ _ _ _)
      | (with_reducible exact ih1 _ _ _ _ _ _ _)
      | (with_reducible exact ih2 _ _ _ _ _ _ _)
      | (with_reducible exact LeO.refl _)
      | (with_reducible exact LeO.none _)
      | (with_reducible refine LeO.ite ?_ ?_)
      | (with_reducible refine LeO.bind ?_ (fun _ => ?_))
      | exact ih0 _ _ _ _
      | exact ih1 _ _ _ _ _ _ _
      | exact ih2 _ _ _ _ _ _ _
      | exact LeO.none _
      | refine LeO.ite ?_ ?_
      | refine LeO.bind ?_ (fun _ => ?_)
set_option maxHeartbeats 8000000 in
set_option maxRecDepth 100000 in
theorem oakumref11_Right.calls (k : Nat) (a0_0 : Int) (a0_1 : Int) (A1 : Option Addr) (c1 : Nat) (l1 : List (S23)) (r : Bool) (w : World) (hr1 : Kd.C k23 w A1 l1.length l1) (hc1 : l1.length ≤ c1) (h : oakumref11_Right.f k a0_0 a0_1 l1 = some r) :
    Calls Try.prog 13 #[.agg #[.int .i64 a0_0, .int .i64 a0_1], .slice A1 l1.length c1] w fun e w' => e = .returned (.bool r) ∧ Below w.heap.size w w' := by
  have hu23 := Try.underlying23
  have HR1 := Aside0.mk hr1
  have HC1 := Aside0.mk hc1
  clear hr1 hc1
  have HB := Aside0.mk (Below.refl w.heap.size w)
  have H : ((oakumref11_small.f a0_0 a0_1).bind fun t141 => (if t141 = true then (oakumref11_Right.l0 k l1 0 a0_0 a0_1) else (some false))) = some r := h
  clear h
  replace H := Option.bind_eq_some_iff.mp H
  obtain ⟨t141, A30, H⟩ := H
  replace H : (if t141 = true then (oakumref11_Right.l0 k l1 0 a0_0 a0_1) else (some false)) = some r := H
  have A3 := Aside0.mk A30
  clear A30
  by_cases c4 : t141 = true
  · subst c4
    have H1 : (oakumref11_Right.l0 k l1 0 a0_0 a0_1) = some r := by rw [if_pos rfl] at H; exact H
    clear H
    have H := H1
    clear H1
    have H' := Aside0.mk H
    clear H
    go_enter Try.func13, Try.ntmps13
    go_wp2_with (first | ((with_reducible refine gate_dst (N := 2) rfl ?_); refine box_event ?hg (N := 2) ?hd (cs := #[.int .i64 a0_0, .int .i64 a0_1]) (t := 23) ?hr ?_; (case hd => rfl); (case hg => rfl); (case hr => first | (go_simp; done) | (go_simp; rfl)); intro gb140 hg w5 hbox hb; have n0_ := Aside0.mk (below_step (by repeat (first | (with_reducible first | exact HB.out | apply below_alloc | apply pw_below_drewN | apply below_drew1) | exact HB.out)) hb); have n1_ := Aside0.mk (hbox); have n2_ := Aside0.mk ((by rw [hg]; exact (below_size (by repeat (first | (with_reducible first | exact HB.out | apply below_alloc | apply pw_below_drewN | apply below_drew1) | exact HB.out))) : w.heap.size ≤ gb140)); have n3_ := Aside0.mk ((by rw [hg]; exact (below_size (by repeat (first | (with_reducible first | exact HB.out | apply below_alloc | apply pw_below_drewN | apply below_drew1) | exact HB.out))) : w.heap.size ≤ gb140)); clear HB; have HB := n0_; have BK140 := n1_; have GW140 := n2_; have GE140 := n3_; clear n0_ n1_ n2_ n3_; clear hb hbox hg; have hcz6_0 : w5.cell? ⟨gb140, 0, none⟩ = some (.int .i64 a0_0) := (blk_cell BK140.out 0).trans rfl; have hcz6_1 : w5.cell? ⟨gb140, 1, none⟩ = some (.int .i64 a0_1) := (blk_cell BK140.out 1).trans rfl; have hfz6_0 := blk_frozen BK140.out 0; have hfz6_1 := blk_frozen BK140.out 1) | ((with_reducible refine gate_callee (f := 21) rfl ?_); refine goesL_ (some 11) rfl rfl Try.func21 (by kernel_rfl) rfl #[.agg #[.int .i64 a0_0, .int .i64 a0_1]] rfl (by (try simp only [List.map_toArray, List.map_cons, List.map_nil]); first | done | rfl | (simp only [List.length_drop, List.length_take]; rfl)) ?_; (with_reducible refine (oakumref11_small.calls a0_0 a0_1 true _ A3.out).mono ?_); rintro e w7 ⟨rfl, hb⟩; refine ⟨_, rfl, ?_⟩; have n0_ := Aside0.mk (blk_below (g := gb140) (o := .cells #[.int .i64 a0_0, .int .i64 a0_1] 23 (0, 0)) (by (with_reducible repeat (first | refine blk_drewN ?_ _ | refine blk_drew ?_ | refine blk_alloc ?_ _)); exact BK140.out) hb); have n1_ := Aside0.mk (below_step (by repeat (first | (with_reducible first | exact HB.out | apply below_alloc | apply pw_below_drewN | apply below_drew1 | refine below_set ?_ GE140.out) | exact HB.out)) hb); clear BK140; clear HB; have BK140 := n0_; have HB := n1_; clear n0_ n1_; (try clear hb); (try clear hb2); (try clear hk); (try clear hi)))
    go_loopg [6] k (fun kq v6 w' => ∃ (x6_1 : Int), v6 = .int .i64 x6_1 ∧ Aside0 (oakumref11_Right.l0 kq l1 x6_1 a0_0 a0_1 = some r) ∧ Aside0 (kq ≤ k) ∧ Aside0 (w'.heap[gb140]? = some (.cells #[.int .i64 a0_0, .int .i64 a0_1] 23 (0, 0))) ∧ Aside0 (Below w.heap.size w w'))
    case atStart => exact ⟨(0), (by first | rfl | (simp; done) | (simp [*]; done)), H', ⟨Nat.le_refl _⟩, ⟨by (with_reducible repeat (first | refine blk_drewN ?_ _ | refine blk_drew ?_ | refine blk_alloc ?_ _)); exact BK140.out⟩, ⟨by repeat (first | (with_reducible first | exact HB.out | apply below_alloc | apply pw_below_drewN | apply below_drew1 | refine below_set ?_ GE140.out) | exact HB.out)⟩⟩
    case round =>
      clear H'
      try clear c1
      try clear c2
      try clear p2
      try clear c4
      try clear hcz6_0
      try clear hcz6_1
      try clear hfz6_0
      try clear hfz6_1
      obtain ⟨x6_1, rfl, HA, HK1, BK140, HB⟩ := hrel
      cases gk with
      | zero => exact absurd HA.out (by simp [oakumref11_Right.l0])
      | succ k1 =>
        have H := HA.out
        clear HA
        simp only [oakumref11_Right.l0] at H
        by_cases c8 : x6_1 < (l1.length : Int)
        · rw [if_pos c8] at H
          have c8b0 : decide (x6_1 < (l1.length : Int)) = true := decide_eq_true c8
          clear c8
          by_cases c9 : 0 ≤ x6_1
          · rw [if_pos c9] at H
            have c9b0 : decide (0 ≤ x6_1) = true := decide_eq_true c9
            clear c9
            have HC10 := Aside0.mk H
            clear H
            have p142 : 0 ≤ (x6_1 : Int) := of_decide_eq_true (by first | (with_reducible assumption) | assumption)
            have q142 : x6_1 < (l1.length : Int) := of_decide_eq_true (by first | (with_reducible assumption) | assumption)
            obtain ⟨ad142, e142, hx142_0, hx142_1⟩ := at_T23 HR1.out x6_1 p142 q142
            cases e142
            replace hx142_0 := (HB.out.cell (World.block_lt_of_cell? w _ hx142_0)).trans hx142_0
            replace hx142_1 := (HB.out.cell (World.block_lt_of_cell? w _ hx142_1)).trans hx142_1
            replace p142 := eq_true p142
            replace q142 := eq_true q142
            go_upto_region 8 with (first | ((with_reducible refine gate_dst (N := 7) rfl ?_); refine box_event ?hg (N := 7) ?hd (cs := #[.int .i64 0, .int .i64 0]) (t := 23) ?hr ?_; (case hd => rfl); (case hg => rfl); (case hr => first | (go_simp; done) | (go_simp; rfl)); intro gb143 hg w11 hbox hb; have n0_ := Aside0.mk (blk_below (g := gb140) (o := .cells #[.int .i64 a0_0, .int .i64 a0_1] 23 (0, 0)) (by (with_reducible repeat (first | refine blk_drewN ?_ _ | refine blk_drew ?_ | refine blk_alloc ?_ _)); exact BK140.out) hb); have n1_ := Aside0.mk (below_step (by repeat (first | (with_reducible first | exact HB.out | apply below_alloc | apply pw_below_drewN | apply below_drew1 | refine below_set ?_ GE140.out) | exact HB.out)) hb); have n2_ := Aside0.mk (hbox); have n3_ := Aside0.mk ((by rw [hg]; exact (below_size (by repeat (first | (with_reducible first | exact HB.out | apply below_alloc | apply pw_below_drewN | apply below_drew1 | refine below_set ?_ GE140.out) | exact HB.out))) : w.heap.size ≤ gb143)); have n4_ := Aside0.mk ((by rw [hg]; exact (below_size (by repeat (first | (with_reducible first | exact HB.out | apply below_alloc | apply pw_below_drewN | apply below_drew1 | refine below_set ?_ GE140.out) | exact HB.out))) : w.heap.size ≤ gb143)); have n5_ := Aside0.mk ((by rw [hg]; exact Nat.ne_of_lt (blk_lt (g := gb140) (o := .cells #[.int .i64 a0_0, .int .i64 a0_1] 23 (0, 0)) (by (with_reducible repeat (first | refine blk_drewN ?_ _ | refine blk_drew ?_ | refine blk_alloc ?_ _)); exact BK140.out)) : gb140 ≠ gb143)); have n6_ := Aside0.mk ((by rw [hg]; exact Nat.ne_of_gt (blk_lt (g := gb140) (o := .cells #[.int .i64 a0_0, .int .i64 a0_1] 23 (0, 0)) (by (with_reducible repeat (first | refine blk_drewN ?_ _ | refine blk_drew ?_ | refine blk_alloc ?_ _)); exact BK140.out)) : gb143 ≠ gb140)); clear BK140; clear HB; have BK140 := n0_; have HB := n1_; have BK143 := n2_; have GW143 := n3_; have GE143 := n4_; have NB140_143 := n5_; have NB143_140 := n6_; clear n0_ n1_ n2_ n3_ n4_ n5_ n6_; clear hb hbox hg; have hnb12 := NB143_140.out; have hnc12 := NB140_143.out; have hcz13_0 : w11.cell? ⟨gb143, 0, none⟩ = some (.int .i64 0) := (blk_cell BK143.out 0).trans rfl; have hcz13_1 : w11.cell? ⟨gb143, 1, none⟩ = some (.int .i64 0) := (blk_cell BK143.out 1).trans rfl; have hfz13_0 := blk_frozen BK143.out 0; have hfz13_1 := blk_frozen BK143.out 1))
            (try simp only [Act.put, List.setIfInBounds_toArray, List.set_cons_zero, List.set_cons_succ])
            go_cut [56] (fun v56 wc => ∃ (kq : Nat) (x56_9 : Bool), v56 = .bool x56_9 ∧ Aside0 (oakumref11_Right.j1 kq l1 x6_1 x56_9 a0_0 a0_1 ((rd_T23 l1 x6_1).f0) ((rd_T23 l1 x6_1).f1) = some r) ∧ Aside0 (kq ≤ k1) ∧ Aside0 (wc.heap[gb140]? = some (.cells #[.int .i64 a0_0, .int .i64 a0_1] 23 (0, 0))) ∧ Aside0 (wc.heap[gb143]? = some (.cells #[.int .i64 ((rd_T23 l1 x6_1).f0), .int .i64 ((rd_T23 l1 x6_1).f1)] 23 (0, 0))) ∧ Aside0 (Below w.heap.size w wc))
            case first =>
              have H := HC10.out
              clear HC10
              by_cases c14 : ((rd_T23 l1 x6_1).f1) < 1
              · rw [if_pos c14] at H
                have c14b0 : decide (((rd_T23 l1 x6_1).f1) < 1) = true := decide_eq_true c14
                clear c14
                (first | rw [c14b0] | (simp only [i64_w, i32_w]; rw [c14b0]) | skip)
                have H' := Aside0.mk H
                clear H
                have hnb15 := NB143_140.out
                have hnc15 := NB140_143.out
                have hcz16_0 : w11.cell? ⟨gb143, 0, none⟩ = some (.int .i64 0) := (blk_cell BK143.out 0).trans rfl
                have hcz16_1 : w11.cell? ⟨gb143, 1, none⟩ = some (.int .i64 0) := (blk_cell BK143.out 1).trans rfl
                have hfz16_0 := blk_frozen BK143.out 0
                have hfz16_1 := blk_frozen BK143.out 1
                go_wp2
                go_meet
                case rel => exact ⟨_, (true), (by first | rfl | (simp; done) | (simp [*]; done)), H', ⟨by have := HK1.out; first | omega | exact Nat.le_refl _⟩, ⟨by (with_reducible repeat (first | refine blk_drewN ?_ _ | refine blk_drew ?_ | refine blk_alloc ?_ _)); refine blk_far ?_ NB140_143.out _; (with_reducible repeat (first | refine blk_drewN ?_ _ | refine blk_drew ?_ | refine blk_alloc ?_ _)); refine blk_far ?_ NB140_143.out _; (with_reducible repeat (first | refine blk_drewN ?_ _ | refine blk_drew ?_ | refine blk_alloc ?_ _)); exact BK140.out⟩, ⟨by (with_reducible repeat (first | refine blk_drewN ?_ _ | refine blk_drew ?_ | refine blk_alloc ?_ _)); refine blk_put (cs := #[.int .i64 ((rd_T23 l1 x6_1).f0), .int .i64 0]) ?_ 1 _ rfl; (with_reducible repeat (first | refine blk_drewN ?_ _ | refine blk_drew ?_ | refine blk_alloc ?_ _)); refine blk_put (cs := #[.int .i64 0, .int .i64 0]) ?_ 0 _ rfl; (with_reducible repeat (first | refine blk_drewN ?_ _ | refine blk_drew ?_ | refine blk_alloc ?_ _)); exact BK143.out⟩, ⟨by repeat (first | (with_reducible first | exact HB.out | apply below_alloc | apply pw_below_drewN | apply below_drew1 | refine below_set ?_ GE140.out | refine below_set ?_ GE143.out) | exact HB.out)⟩⟩
              · rw [if_neg c14] at H
                have c14b0 : decide (((rd_T23 l1 x6_1).f1) < 1) = false := decide_eq_false c14
                clear c14
                (first | rw [c14b0] | (simp only [i64_w, i32_w]; rw [c14b0]) | skip)
                by_cases c17 : ((rd_T23 l1 x6_1).f0) < a0_0
                · rw [if_pos c17] at H
                  have c17b0 : decide (((rd_T23 l1 x6_1).f0) < a0_0) = true := decide_eq_true c17
                  clear c17
                  have H' := Aside0.mk H
                  clear H
                  have hnb18 := NB143_140.out
                  have hnc18 := NB140_143.out
                  have hcz19_0 : w11.cell? ⟨gb143, 0, none⟩ = some (.int .i64 0) := (blk_cell BK143.out 0).trans rfl
                  have hcz19_1 : w11.cell? ⟨gb143, 1, none⟩ = some (.int .i64 0) := (blk_cell BK143.out 1).trans rfl
                  have hfz19_0 := blk_frozen BK143.out 0
                  have hfz19_1 := blk_frozen BK143.out 1
                  have hcz20_0 : w11.cell? ⟨gb140, 0, none⟩ = some (.int .i64 a0_0) := (blk_cell BK140.out 0).trans rfl
                  have hcz20_1 : w11.cell? ⟨gb140, 1, none⟩ = some (.int .i64 a0_1) := (blk_cell BK140.out 1).trans rfl
                  have hfz20_0 := blk_frozen BK140.out 0
                  have hfz20_1 := blk_frozen BK140.out 1
                  go_wp2
                  go_meet
                  case rel => exact ⟨_, (true), (by first | rfl | (simp; done) | (simp [*]; done)), H', ⟨by have := HK1.out; first | omega | exact Nat.le_refl _⟩, ⟨by (with_reducible repeat (first | refine blk_drewN ?_ _ | refine blk_drew ?_ | refine blk_alloc ?_ _)); refine blk_far ?_ NB140_143.out _; (with_reducible repeat (first | refine blk_drewN ?_ _ | refine blk_drew ?_ | refine blk_alloc ?_ _)); refine blk_far ?_ NB140_143.out _; (with_reducible repeat (first | refine blk_drewN ?_ _ | refine blk_drew ?_ | refine blk_alloc ?_ _)); exact BK140.out⟩, ⟨by (with_reducible repeat (first | refine blk_drewN ?_ _ | refine blk_drew ?_ | refine blk_alloc ?_ _)); refine blk_put (cs := #[.int .i64 ((rd_T23 l1 x6_1).f0), .int .i64 0]) ?_ 1 _ rfl; (with_reducible repeat (first | refine blk_drewN ?_ _ | refine blk_drew ?_ | refine blk_alloc ?_ _)); refine blk_put (cs := #[.int .i64 0, .int .i64 0]) ?_ 0 _ rfl; (with_reducible repeat (first | refine blk_drewN ?_ _ | refine blk_drew ?_ | refine blk_alloc ?_ _)); exact BK143.out⟩, ⟨by repeat (first | (with_reducible first | exact HB.out | apply below_alloc | apply pw_below_drewN | apply below_drew1 | refine below_set ?_ GE140.out | refine below_set ?_ GE143.out) | exact HB.out)⟩⟩
                · rw [if_neg c17] at H
                  have c17b0 : decide (((rd_T23 l1 x6_1).f0) < a0_0) = false := decide_eq_false c17
                  clear c17
                  by_cases c21 : ((rd_T23 l1 x6_1).f0) ≥ (wrap64 (a0_0 + a0_1))
                  · rw [if_pos c21] at H
                    have c21b0 : decide ((wrap64 (a0_0 + a0_1)) ≤ ((rd_T23 l1 x6_1).f0)) = true := decide_eq_true c21
                    clear c21
                    have H' := Aside0.mk H
                    clear H
                    have hnb22 := NB143_140.out
                    have hnc22 := NB140_143.out
                    have hcz23_0 : w11.cell? ⟨gb143, 0, none⟩ = some (.int .i64 0) := (blk_cell BK143.out 0).trans rfl
                    have hcz23_1 : w11.cell? ⟨gb143, 1, none⟩ = some (.int .i64 0) := (blk_cell BK143.out 1).trans rfl
                    have hfz23_0 := blk_frozen BK143.out 0
                    have hfz23_1 := blk_frozen BK143.out 1
                    have hcz24_0 : w11.cell? ⟨gb140, 0, none⟩ = some (.int .i64 a0_0) := (blk_cell BK140.out 0).trans rfl
                    have hcz24_1 : w11.cell? ⟨gb140, 1, none⟩ = some (.int .i64 a0_1) := (blk_cell BK140.out 1).trans rfl
                    have hfz24_0 := blk_frozen BK140.out 0
                    have hfz24_1 := blk_frozen BK140.out 1
                    go_wp2
                    go_meet
                    case rel => exact ⟨_, (true), (by first | rfl | (simp; done) | (simp [*]; done)), H', ⟨by have := HK1.out; first | omega | exact Nat.le_refl _⟩, ⟨by (with_reducible repeat (first | refine blk_drewN ?_ _ | refine blk_drew ?_ | refine blk_alloc ?_ _)); refine blk_far ?_ NB140_143.out _; (with_reducible repeat (first | refine blk_drewN ?_ _ | refine blk_drew ?_ | refine blk_alloc ?_ _)); refine blk_far ?_ NB140_143.out _; (with_reducible repeat (first | refine blk_drewN ?_ _ | refine blk_drew ?_ | refine blk_alloc ?_ _)); exact BK140.out⟩, ⟨by (with_reducible repeat (first | refine blk_drewN ?_ _ | refine blk_drew ?_ | refine blk_alloc ?_ _)); refine blk_put (cs := #[.int .i64 ((rd_T23 l1 x6_1).f0), .int .i64 0]) ?_ 1 _ rfl; (with_reducible repeat (first | refine blk_drewN ?_ _ | refine blk_drew ?_ | refine blk_alloc ?_ _)); refine blk_put (cs := #[.int .i64 0, .int .i64 0]) ?_ 0 _ rfl; (with_reducible repeat (first | refine blk_drewN ?_ _ | refine blk_drew ?_ | refine blk_alloc ?_ _)); exact BK143.out⟩, ⟨by repeat (first | (with_reducible first | exact HB.out | apply below_alloc | apply pw_below_drewN | apply below_drew1 | refine below_set ?_ GE140.out | refine below_set ?_ GE143.out) | exact HB.out)⟩⟩
                  · rw [if_neg c21] at H
                    have c21b0 : decide ((wrap64 (a0_0 + a0_1)) ≤ ((rd_T23 l1 x6_1).f0)) = false := decide_eq_false c21
                    clear c21
                    have H' := Aside0.mk H
                    clear H
                    have hnb25 := NB143_140.out
                    have hnc25 := NB140_143.out
                    have hcz26_0 : w11.cell? ⟨gb143, 0, none⟩ = some (.int .i64 0) := (blk_cell BK143.out 0).trans rfl
                    have hcz26_1 : w11.cell? ⟨gb143, 1, none⟩ = some (.int .i64 0) := (blk_cell BK143.out 1).trans rfl
                    have hfz26_0 := blk_frozen BK143.out 0
                    have hfz26_1 := blk_frozen BK143.out 1
                    have hcz27_0 : w11.cell? ⟨gb140, 0, none⟩ = some (.int .i64 a0_0) := (blk_cell BK140.out 0).trans rfl
                    have hcz27_1 : w11.cell? ⟨gb140, 1, none⟩ = some (.int .i64 a0_1) := (blk_cell BK140.out 1).trans rfl
                    have hfz27_0 := blk_frozen BK140.out 0
                    have hfz27_1 := blk_frozen BK140.out 1
                    go_wp2
                    go_meet
                    case rel => exact ⟨_, (decide (((rd_T23 l1 x6_1).f1) > (wrap64 ((wrap64 (a0_0 + a0_1)) - ((rd_T23 l1 x6_1).f0))))), (by first | rfl | (simp; done) | (simp [*]; done)), H', ⟨by have := HK1.out; first | omega | exact Nat.le_refl _⟩, ⟨by (with_reducible repeat (first | refine blk_drewN ?_ _ | refine blk_drew ?_ | refine blk_alloc ?_ _)); refine blk_far ?_ NB140_143.out _; (with_reducible repeat (first | refine blk_drewN ?_ _ | refine blk_drew ?_ | refine blk_alloc ?_ _)); refine blk_far ?_ NB140_143.out _; (with_reducible repeat (first | refine blk_drewN ?_ _ | refine blk_drew ?_ | refine blk_alloc ?_ _)); exact BK140.out⟩, ⟨by (with_reducible repeat (first | refine blk_drewN ?_ _ | refine blk_drew ?_ | refine blk_alloc ?_ _)); refine blk_put (cs := #[.int .i64 ((rd_T23 l1 x6_1).f0), .int .i64 0]) ?_ 1 _ rfl; (with_reducible repeat (first | refine blk_drewN ?_ _ | refine blk_drew ?_ | refine blk_alloc ?_ _)); refine blk_put (cs := #[.int .i64 0, .int .i64 0]) ?_ 0 _ rfl; (with_reducible repeat (first | refine blk_drewN ?_ _ | refine blk_drew ?_ | refine blk_alloc ?_ _)); exact BK143.out⟩, ⟨by repeat (first | (with_reducible first | exact HB.out | apply below_alloc | apply pw_below_drewN | apply below_drew1 | refine below_set ?_ GE140.out | refine below_set ?_ GE143.out) | exact HB.out)⟩⟩
            case rest =>
              clear HC10
              try clear c1
              try clear p1
              try clear q1
              try clear hx1
              try clear c2
              try clear p2
              try clear c4
              try clear p6
              try clear c8
              try clear c8b0
              try clear c9
              try clear c9b0
              try clear c12
              try clear c13
              try clear c14
              try clear c14b0
              try clear p14
              try clear q14
              try clear hx14
              try clear c15
              try clear c17
              try clear c17b0
              try clear c18
              try clear c21
              try clear c21b0
              try clear c22
              try clear c25
              try clear hcz13_0
              try clear hcz13_1
              try clear hcz16_0
              try clear hcz16_1
              try clear hcz19_0
              try clear hcz19_1
              try clear hcz20_0
              try clear hcz20_1
              try clear hcz23_0
              try clear hcz23_1
              try clear hcz24_0
              try clear hcz24_1
              try clear hcz26_0
              try clear hcz26_1
              try clear hcz27_0
              try clear hcz27_1
              try clear hcz6_0
              try clear hcz6_1
              try clear hfz13_0
              try clear hfz13_1
              try clear hfz16_0
              try clear hfz16_1
              try clear hfz19_0
              try clear hfz19_1
              try clear hfz20_0
              try clear hfz20_1
              try clear hfz23_0
              try clear hfz23_1
              try clear hfz24_0
              try clear hfz24_1
              try clear hfz26_0
              try clear hfz26_1
              try clear hfz27_0
              try clear hfz27_1
              try clear hfz6_0
              try clear hfz6_1
              try clear hx142_0
              try clear hx142_1
              try clear p142
              try clear p2
              try clear q142
              obtain ⟨kq, x56_9, rfl, HA, HJ9, BK140, BK143, HB⟩ := hcut
              cases kq with
              | zero => exact absurd HA.out (by simp [oakumref11_Right.j1])
              | succ kj9 =>
                have H := HA.out
                clear HA
                simp only [oakumref11_Right.j1] at H
                by_cases c28 : x56_9 = true
                · subst c28
                  have H1 : (some false) = some r := by rw [if_pos rfl] at H; exact H
                  clear H
                  have H := H1
                  clear H1
                  obtain rfl := Option.some.inj H
                  go_wp2
                  go_ret
                  exact ⟨by first | rfl | (simp [errW_none, errW_some] <;> rfl) | (simp [*, errW_none, errW_some] <;> rfl), by repeat (first | (with_reducible first | exact HB.out | apply below_alloc | apply pw_below_drewN | apply below_drew1 | refine below_set ?_ GE140.out | refine below_set ?_ GE143.out) | exact HB.out)⟩
                · replace c28 := Bool.eq_false_iff.mpr c28
                  subst c28
                  have H1 : (oakumref11_Right.l1 kj9 l1 x6_1 0 a0_0 a0_1 ((rd_T23 l1 x6_1).f0) ((rd_T23 l1 x6_1).f1)) = some r := by rw [if_neg (show ¬ (false = true) by decide)] at H; exact H
                  clear H
                  have H := H1
                  clear H1
                  have H' := Aside0.mk H
                  clear H
                  go_wp2
                  go_loopg [8] kj9 (fun kq v8 w' => ∃ (x8_3 : Int), v8 = .int .i64 x8_3 ∧ Aside0 (oakumref11_Right.l1 kq l1 x6_1 x8_3 a0_0 a0_1 ((rd_T23 l1 x6_1).f0) ((rd_T23 l1 x6_1).f1) = some r) ∧ Aside0 (kq ≤ kj9) ∧ Aside0 (w'.heap[gb140]? = some (.cells #[.int .i64 a0_0, .int .i64 a0_1] 23 (0, 0))) ∧ Aside0 (w'.heap[gb143]? = some (.cells #[.int .i64 ((rd_T23 l1 x6_1).f0), .int .i64 ((rd_T23 l1 x6_1).f1)] 23 (0, 0))) ∧ Aside0 (Below w.heap.size w w'))
                  case atStart => exact ⟨(0), (by first | rfl | (simp; done) | (simp [*]; done)), H', ⟨Nat.le_refl _⟩, ⟨by (with_reducible repeat (first | refine blk_drewN ?_ _ | refine blk_drew ?_ | refine blk_alloc ?_ _)); exact BK140.out⟩, ⟨by (with_reducible repeat (first | refine blk_drewN ?_ _ | refine blk_drew ?_ | refine blk_alloc ?_ _)); exact BK143.out⟩, ⟨by repeat (first | (with_reducible first | exact HB.out | apply below_alloc | apply pw_below_drewN | apply below_drew1 | refine below_set ?_ GE140.out | refine below_set ?_ GE143.out) | exact HB.out)⟩⟩
                  case round =>
                    clear H'
                    try clear c1
                    try clear p1
                    try clear q1
                    try clear hx1
                    try clear c2
                    try clear p2
                    try clear c4
                    try clear p6
                    try clear c8
                    try clear c8b0
                    try clear c9
                    try clear c9b0
                    try clear c12
                    try clear c13
                    try clear c14
                    try clear c14b0
                    try clear p14
                    try clear q14
                    try clear hx14
                    try clear c15
                    try clear c17
                    try clear c17b0
                    try clear c18
                    try clear c21
                    try clear c21b0
                    try clear c22
                    try clear c25
                    try clear c28
                    try clear hcz13_0
                    try clear hcz13_1
                    try clear hcz16_0
                    try clear hcz16_1
                    try clear hcz19_0
                    try clear hcz19_1
                    try clear hcz20_0
                    try clear hcz20_1
                    try clear hcz23_0
                    try clear hcz23_1
                    try clear hcz24_0
                    try clear hcz24_1
                    try clear hcz26_0
                    try clear hcz26_1
                    try clear hcz27_0
                    try clear hcz27_1
                    try clear hcz6_0
                    try clear hcz6_1
                    try clear hfz13_0
                    try clear hfz13_1
                    try clear hfz16_0
                    try clear hfz16_1
                    try clear hfz19_0
                    try clear hfz19_1
                    try clear hfz20_0
                    try clear hfz20_1
                    try clear hfz23_0
                    try clear hfz23_1
                    try clear hfz24_0
                    try clear hfz24_1
                    try clear hfz26_0
                    try clear hfz26_1
                    try clear hfz27_0
                    try clear hfz27_1
                    try clear hfz6_0
                    try clear hfz6_1
                    try clear hx142_0
                    try clear hx142_1
                    try clear p1
                    try clear p14
                    try clear p142
                    try clear p2
                    try clear p6
                    try clear q1
                    try clear q14
                    try clear q142
                    obtain ⟨x8_3, rfl, HA, HK3, BK140, BK143, HB⟩ := hrel
                    cases gk with
                    | zero => exact absurd HA.out (by simp [oakumref11_Right.l1])
                    | succ k3 =>
                      have H := HA.out
                      clear HA
                      simp only [oakumref11_Right.l1] at H
                      by_cases c29 : x8_3 < x6_1
                      · rw [if_pos c29] at H
                        have c29b0 : decide (x8_3 < x6_1) = true := decide_eq_true c29
                        clear c29
                        by_cases c30 : 0 ≤ x8_3
                        · rw [if_pos c30] at H
                          have c30b0 : decide (0 ≤ x8_3) = true := decide_eq_true c30
                          clear c30
                          by_cases c31 : x8_3 < (l1.length : Int)
                          · rw [if_pos c31] at H
                            have c31b0 : decide (x8_3 < (l1.length : Int)) = true := decide_eq_true c31
                            clear c31
                            replace H := Option.bind_eq_some_iff.mp H
                            obtain ⟨t145, A320, H⟩ := H
                            replace H : (if t145 = true then (oakumref11_Right.l1 k3 l1 x6_1 (wrap64 (x8_3 + 1)) a0_0 a0_1 ((rd_T23 l1 x6_1).f0) ((rd_T23 l1 x6_1).f1)) else (some false)) = some r := H
                            have A32 := Aside0.mk A320
                            clear A320
                            by_cases c33 : t145 = true
                            · subst c33
                              have H1 : (oakumref11_Right.l1 k3 l1 x6_1 (wrap64 (x8_3 + 1)) a0_0 a0_1 ((rd_T23 l1 x6_1).f0) ((rd_T23 l1 x6_1).f1)) = some r := by rw [if_pos rfl] at H; exact H
                              clear H
                              have H := H1
                              clear H1
                              have H' := Aside0.mk H
                              clear H
                              try go_wp2
                              have n0_ := Aside0.mk (blk_drew BK140.out)
                              have n1_ := Aside0.mk (blk_drew BK143.out)
                              have n2_ := Aside0.mk (below_drew1 HB.out)
                              clear BK140
                              clear BK143
                              clear HB
                              have BK140 := n0_
                              have BK143 := n1_
                              have HB := n2_
                              clear n0_ n1_ n2_
                              have p144 : 0 ≤ (x8_3 : Int) := of_decide_eq_true (by first | (with_reducible assumption) | assumption)
                              have q144 : x8_3 < (l1.length : Int) := of_decide_eq_true (by first | (with_reducible assumption) | assumption)
                              obtain ⟨ad144, e144, hx144_0, hx144_1⟩ := at_T23 HR1.out x8_3 p144 q144
                              have hw144_1 := hx144_1
                              have hw144_0 := hx144_0
                              obtain rfl : ad142 = ad144 := (by injection e144)
                              replace hx144_0 := (HB.out.cell (World.block_lt_of_cell? w _ hx144_0)).trans hx144_0
                              replace hx144_1 := (HB.out.cell (World.block_lt_of_cell? w _ hx144_1)).trans hx144_1
                              replace p144 := eq_true p144
                              replace q144 := eq_true q144
                              refine start_ (n := 7) (S := fun w' => w'.cell? ⟨gb143, 0, none⟩ = some (.int .i64 ((rd_T23 l1 x6_1).f0)) ∧ w'.cell? ⟨gb143, 1, none⟩ = some (.int .i64 ((rd_T23 l1 x6_1).f1)) ∧ w'.cell? (ad142.add ((x8_3).toNat * 2)) = some (.int .i64 ((rd_T23 l1 x8_3).f0)) ∧ w'.cell? ⟨(ad142.add ((x8_3).toNat * 2)).block, (ad142.add ((x8_3).toNat * 2)).off + 1, none⟩ = some (.int .i64 ((rd_T23 l1 x8_3).f1))) (ds := []) #[false, false, false, false, false, false, false] (by kernel_rfl) rfl rfl ⟨(blk_cell BK143.out 0).trans rfl, (blk_cell BK143.out 1).trans rfl, ((HB.out.cell (World.block_lt_of_cell? w _ hw144_0)).trans hw144_0), ((HB.out.cell (World.block_lt_of_cell? w _ hw144_1)).trans hw144_1)⟩ (fun hHeld => ?_)
                              generalize wr.drew = w34 at BK140 BK143 HB hx144_0 hx144_1 hHeld ⊢
                              refine pure_ (i := 0) (N := some 62) (v := ?_) (a' := ?_) #[true, false, false, false, false, false, false] rfl rfl (by kernel_rfl) (fun _ _ _ h => h) (Or.inl ⟨by rfl, ?_⟩) ?_ ?_
                              rotate_left
                              · intro w'
                                go_simp
                                with_reducible rfl
                              rotate_left
                              · simp only [Act.put, List.setIfInBounds_toArray, List.set_cons_zero, List.set_cons_succ, i64_w, i32_w]
                                rfl
                              refine pure_ (i := 1) (N := some 63) (v := ?_) (a' := ?_) #[true, true, false, false, false, false, false] rfl rfl (by kernel_rfl) (fun _ _ _ h => h) (Or.inl ⟨by rfl, ?_⟩) ?_ ?_
                              rotate_left
                              · intro w'
                                go_simp
                                with_reducible rfl
                              rotate_left
                              · simp only [Act.put, List.setIfInBounds_toArray, List.set_cons_zero, List.set_cons_succ, i64_w, i32_w]
                                rfl
                              refine pure_ (i := 2) (N := some 64) (v := ?_) (a' := ?_) #[true, true, true, false, false, false, false] rfl rfl (by kernel_rfl) (fun _ _ _ h => h) (Or.inl ⟨by rfl, ?_⟩) ?_ ?_
                              rotate_left
                              · intro w'
                                go_simp
                                with_reducible rfl
                              rotate_left
                              · simp only [Act.put, List.setIfInBounds_toArray, List.set_cons_zero, List.set_cons_succ, i64_w, i32_w]
                                rfl
                              refine take_ (i := 3) (N := some 65) (v := ?_) (a' := ?_) #[true, true, true, true, false, false, false] rfl rfl (by kernel_rfl) (fun _ _ _ h => h) (Or.inl ⟨by rfl, ?_⟩) hHeld ?_ ?_
                              rotate_left
                              · rintro w' ⟨s0, s1, s2, s3⟩
                                go_simp
                                with_reducible rfl
                              rotate_left
                              · simp only [Act.put, List.setIfInBounds_toArray, List.set_cons_zero, List.set_cons_succ, i64_w, i32_w]
                                rfl
                              refine take_ (i := 4) (N := some 66) (v := ?_) (a' := ?_) #[true, true, true, true, true, false, false] rfl rfl (by kernel_rfl) (fun _ _ _ h => h) (Or.inl ⟨by rfl, ?_⟩) hHeld ?_ ?_
                              rotate_left
                              · rintro w' ⟨s0, s1, s2, s3⟩
                                go_simp
                                with_reducible rfl
                              rotate_left
                              · simp only [Act.put, List.setIfInBounds_toArray, List.set_cons_zero, List.set_cons_succ, i64_w, i32_w]
                                rfl
                              refine one_ (i := 5) (N := some 67) #[true, true, true, true, true, true, false] rfl rfl (by kernel_rfl) (by decide) (fun K hK => ?_)
                              refine goes_ Try.func22 (by kernel_rfl) rfl #[.agg #[.int .i64 ((rd_T23 l1 x8_3).f0), .int .i64 ((rd_T23 l1 x8_3).f1)], .agg #[.int .i64 ((rd_T23 l1 x6_1).f0), .int .i64 ((rd_T23 l1 x6_1).f1)]] (by rfl) rfl rfl (by (try simp only [List.map_toArray, List.map_cons, List.map_nil]); first | done | rfl | (simp only [List.length_drop, List.length_take]; rfl)) ?_
                              with_reducible refine (oakumref11_apart.calls ((rd_T23 l1 x8_3).f0) ((rd_T23 l1 x8_3).f1) ((rd_T23 l1 x6_1).f0) ((rd_T23 l1 x6_1).f1) true _ A32.out).mono ?_
                              rintro e w35 ⟨rfl, hb⟩
                              refine ⟨_, rfl, ?_⟩
                              have n0_ := Aside0.mk (blk_below (g := gb140) (o := .cells #[.int .i64 a0_0, .int .i64 a0_1] 23 (0, 0)) (by (with_reducible repeat (first | refine blk_drewN ?_ _ | refine blk_drew ?_ | refine blk_alloc ?_ _)); exact BK140.out) hb)
                              have n1_ := Aside0.mk (blk_below (g := gb143) (o := .cells #[.int .i64 ((rd_T23 l1 x6_1).f0), .int .i64 ((rd_T23 l1 x6_1).f1)] 23 (0, 0)) (by (with_reducible repeat (first | refine blk_drewN ?_ _ | refine blk_drew ?_ | refine blk_alloc ?_ _)); exact BK143.out) hb)
                              have n2_ := Aside0.mk (below_step (by repeat (first | (with_reducible first | exact HB.out | apply below_alloc | apply pw_below_drewN | apply below_drew1 | refine below_set ?_ GE140.out | refine below_set ?_ GE143.out) | exact HB.out)) hb)
                              clear BK140
                              clear BK143
                              clear HB
                              have BK140 := n0_
                              have BK143 := n1_
                              have HB := n2_
                              clear n0_ n1_ n2_
                              (try clear hb)
                              (try clear hb2)
                              (try clear hk)
                              (try clear hi)
                              refine hK.out _ _ ⟨(blk_cell BK143.out 0).trans rfl, (blk_cell BK143.out 1).trans rfl, ((HB.out.cell (World.block_lt_of_cell? w _ hw144_0)).trans hw144_0), ((HB.out.cell (World.block_lt_of_cell? w _ hw144_1)).trans hw144_1)⟩ (fun hHeld => ?_)
                              clear hK K
                              refine norm_ (a' := ?_) ?_ ?_
                              rotate_left
                              · show Act.put _ (some 67) _ = _
                                simp only [Act.put, List.setIfInBounds_toArray, List.set_cons_zero, List.set_cons_succ, i64_w, i32_w]
                                rfl
                              refine pure_ (i := 6) (N := some 9) (v := ?_) (a' := ?_) #[true, true, true, true, true, true, true] rfl rfl (by kernel_rfl) (fun _ _ _ h => h) (Or.inl ⟨by rfl, ?_⟩) ?_ ?_
                              rotate_left
                              · intro w'
                                go_simp
                                with_reducible rfl
                              rotate_left
                              · simp only [Act.put, List.setIfInBounds_toArray, List.set_cons_zero, List.set_cons_succ, i64_w, i32_w]
                                rfl
                              refine done_ (by kernel_rfl) ?_
                              try go_wp2
                              go_roundg k3
                              case measure => have := HK1.out; have := HJ9.out; have := HK3.out; omega
                              case rel => exact ⟨(wrap64 (x8_3 + 1)), (by first | rfl | (simp; done) | (simp [*]; done)), H', ⟨by have := HK1.out; have := HJ9.out; have := HK3.out; omega⟩, ⟨by (with_reducible repeat (first | refine blk_drewN ?_ _ | refine blk_drew ?_ | refine blk_alloc ?_ _)); exact BK140.out⟩, ⟨by (with_reducible repeat (first | refine blk_drewN ?_ _ | refine blk_drew ?_ | refine blk_alloc ?_ _)); exact BK143.out⟩, ⟨by repeat (first | (with_reducible first | exact HB.out | apply below_alloc | apply pw_below_drewN | apply below_drew1 | refine below_set ?_ GE140.out | refine below_set ?_ GE143.out) | exact HB.out)⟩⟩
                            · replace c33 := Bool.eq_false_iff.mpr c33
                              subst c33
                              have H1 : (some false) = some r := by rw [if_neg (show ¬ (false = true) by decide)] at H; exact H
                              clear H
                              have H := H1
                              clear H1
                              obtain rfl := Option.some.inj H
                              try go_wp2
                              have n0_ := Aside0.mk (blk_drew BK140.out)
                              have n1_ := Aside0.mk (blk_drew BK143.out)
                              have n2_ := Aside0.mk (below_drew1 HB.out)
                              clear BK140
                              clear BK143
                              clear HB
                              have BK140 := n0_
                              have BK143 := n1_
                              have HB := n2_
                              clear n0_ n1_ n2_
                              have p144 : 0 ≤ (x8_3 : Int) := of_decide_eq_true (by first | (with_reducible assumption) | assumption)
                              have q144 : x8_3 < (l1.length : Int) := of_decide_eq_true (by first | (with_reducible assumption) | assumption)
                              obtain ⟨ad144, e144, hx144_0, hx144_1⟩ := at_T23 HR1.out x8_3 p144 q144
                              have hw144_1 := hx144_1
                              have hw144_0 := hx144_0
                              obtain rfl : ad142 = ad144 := (by injection e144)
                              replace hx144_0 := (HB.out.cell (World.block_lt_of_cell? w _ hx144_0)).trans hx144_0
                              replace hx144_1 := (HB.out.cell (World.block_lt_of_cell? w _ hx144_1)).trans hx144_1
                              replace p144 := eq_true p144
                              replace q144 := eq_true q144
                              refine start_ (n := 7) (S := fun w' => w'.cell? ⟨gb143, 0, none⟩ = some (.int .i64 ((rd_T23 l1 x6_1).f0)) ∧ w'.cell? ⟨gb143, 1, none⟩ = some (.int .i64 ((rd_T23 l1 x6_1).f1)) ∧ w'.cell? (ad142.add ((x8_3).toNat * 2)) = some (.int .i64 ((rd_T23 l1 x8_3).f0)) ∧ w'.cell? ⟨(ad142.add ((x8_3).toNat * 2)).block, (ad142.add ((x8_3).toNat * 2)).off + 1, none⟩ = some (.int .i64 ((rd_T23 l1 x8_3).f1))) (ds := []) #[false, false, false, false, false, false, false] (by kernel_rfl) rfl rfl ⟨(blk_cell BK143.out 0).trans rfl, (blk_cell BK143.out 1).trans rfl, ((HB.out.cell (World.block_lt_of_cell? w _ hw144_0)).trans hw144_0), ((HB.out.cell (World.block_lt_of_cell? w _ hw144_1)).trans hw144_1)⟩ (fun hHeld => ?_)
                              generalize wr.drew = w36 at BK140 BK143 HB hx144_0 hx144_1 hHeld ⊢
                              refine pure_ (i := 0) (N := some 62) (v := ?_) (a' := ?_) #[true, false, false, false, false, false, false] rfl rfl (by kernel_rfl) (fun _ _ _ h => h) (Or.inl ⟨by rfl, ?_⟩) ?_ ?_
                              rotate_left
                              · intro w'
                                go_simp
                                with_reducible rfl
                              rotate_left
                              · simp only [Act.put, List.setIfInBounds_toArray, List.set_cons_zero, List.set_cons_succ, i64_w, i32_w]
                                rfl
                              refine pure_ (i := 1) (N := some 63) (v := ?_) (a' := ?_) #[true, true, false, false, false, false, false] rfl rfl (by kernel_rfl) (fun _ _ _ h => h) (Or.inl ⟨by rfl, ?_⟩) ?_ ?_
                              rotate_left
                              · intro w'
                                go_simp
                                with_reducible rfl
                              rotate_left
                              · simp only [Act.put, List.setIfInBounds_toArray, List.set_cons_zero, List.set_cons_succ, i64_w, i32_w]
                                rfl
                              refine pure_ (i := 2) (N := some 64) (v := ?_) (a' := ?_) #[true, true, true, false, false, false, false] rfl rfl (by kernel_rfl) (fun _ _ _ h => h) (Or.inl ⟨by rfl, ?_⟩) ?_ ?_
                              rotate_left
                              · intro w'
                                go_simp
                                with_reducible rfl
                              rotate_left
                              · simp only [Act.put, List.setIfInBounds_toArray, List.set_cons_zero, List.set_cons_succ, i64_w, i32_w]
                                rfl
                              refine take_ (i := 3) (N := some 65) (v := ?_) (a' := ?_) #[true, true, true, true, false, false, false] rfl rfl (by kernel_rfl) (fun _ _ _ h => h) (Or.inl ⟨by rfl, ?_⟩) hHeld ?_ ?_
                              rotate_left
                              · rintro w' ⟨s0, s1, s2, s3⟩
                                go_simp
                                with_reducible rfl
                              rotate_left
                              · simp only [Act.put, List.setIfInBounds_toArray, List.set_cons_zero, List.set_cons_succ, i64_w, i32_w]
                                rfl
                              refine take_ (i := 4) (N := some 66) (v := ?_) (a' := ?_) #[true, true, true, true, true, false, false] rfl rfl (by kernel_rfl) (fun _ _ _ h => h) (Or.inl ⟨by rfl, ?_⟩) hHeld ?_ ?_
                              rotate_left
                              · rintro w' ⟨s0, s1, s2, s3⟩
                                go_simp
                                with_reducible rfl
                              rotate_left
                              · simp only [Act.put, List.setIfInBounds_toArray, List.set_cons_zero, List.set_cons_succ, i64_w, i32_w]
                                rfl
                              refine one_ (i := 5) (N := some 67) #[true, true, true, true, true, true, false] rfl rfl (by kernel_rfl) (by decide) (fun K hK => ?_)
                              refine goes_ Try.func22 (by kernel_rfl) rfl #[.agg #[.int .i64 ((rd_T23 l1 x8_3).f0), .int .i64 ((rd_T23 l1 x8_3).f1)], .agg #[.int .i64 ((rd_T23 l1 x6_1).f0), .int .i64 ((rd_T23 l1 x6_1).f1)]] (by rfl) rfl rfl (by (try simp only [List.map_toArray, List.map_cons, List.map_nil]); first | done | rfl | (simp only [List.length_drop, List.length_take]; rfl)) ?_
                              with_reducible refine (oakumref11_apart.calls ((rd_T23 l1 x8_3).f0) ((rd_T23 l1 x8_3).f1) ((rd_T23 l1 x6_1).f0) ((rd_T23 l1 x6_1).f1) false _ A32.out).mono ?_
                              rintro e w37 ⟨rfl, hb⟩
                              refine ⟨_, rfl, ?_⟩
                              have n0_ := Aside0.mk (blk_below (g := gb140) (o := .cells #[.int .i64 a0_0, .int .i64 a0_1] 23 (0, 0)) (by (with_reducible repeat (first | refine blk_drewN ?_ _ | refine blk_drew ?_ | refine blk_alloc ?_ _)); exact BK140.out) hb)
                              have n1_ := Aside0.mk (blk_below (g := gb143) (o := .cells #[.int .i64 ((rd_T23 l1 x6_1).f0), .int .i64 ((rd_T23 l1 x6_1).f1)] 23 (0, 0)) (by (with_reducible repeat (first | refine blk_drewN ?_ _ | refine blk_drew ?_ | refine blk_alloc ?_ _)); exact BK143.out) hb)
                              have n2_ := Aside0.mk (below_step (by repeat (first | (with_reducible first | exact HB.out | apply below_alloc | apply pw_below_drewN | apply below_drew1 | refine below_set ?_ GE140.out | refine below_set ?_ GE143.out) | exact HB.out)) hb)
                              clear BK140
                              clear BK143
                              clear HB
                              have BK140 := n0_
                              have BK143 := n1_
                              have HB := n2_
                              clear n0_ n1_ n2_
                              (try clear hb)
                              (try clear hb2)
                              (try clear hk)
                              (try clear hi)
                              refine hK.out _ _ ⟨(blk_cell BK143.out 0).trans rfl, (blk_cell BK143.out 1).trans rfl, ((HB.out.cell (World.block_lt_of_cell? w _ hw144_0)).trans hw144_0), ((HB.out.cell (World.block_lt_of_cell? w _ hw144_1)).trans hw144_1)⟩ (fun hHeld => ?_)
                              clear hK K
                              refine norm_ (a' := ?_) ?_ ?_
                              rotate_left
                              · show Act.put _ (some 67) _ = _
                                simp only [Act.put, List.setIfInBounds_toArray, List.set_cons_zero, List.set_cons_succ, i64_w, i32_w]
                                rfl
                              refine pure_ (i := 6) (N := some 9) (v := ?_) (a' := ?_) #[true, true, true, true, true, true, true] rfl rfl (by kernel_rfl) (fun _ _ _ h => h) (Or.inl ⟨by rfl, ?_⟩) ?_ ?_
                              rotate_left
                              · intro w'
                                go_simp
                                with_reducible rfl
                              rotate_left
                              · simp only [Act.put, List.setIfInBounds_toArray, List.set_cons_zero, List.set_cons_succ, i64_w, i32_w]
                                rfl
                              refine done_ (by kernel_rfl) ?_
                              try go_wp2
                              go_ret
                              exact ⟨by first | rfl | (simp [errW_none, errW_some] <;> rfl) | (simp [*, errW_none, errW_some] <;> rfl), by repeat (first | (with_reducible first | exact HB.out | apply below_alloc | apply pw_below_drewN | apply below_drew1 | refine below_set ?_ GE140.out | refine below_set ?_ GE143.out) | exact HB.out)⟩
                          · rw [if_neg c31] at H
                            exact absurd H (by simp)
                        · rw [if_neg c30] at H
                          exact absurd H (by simp)
                      · rw [if_neg c29] at H
                        have c29b0 : decide (x8_3 < x6_1) = false := decide_eq_false c29
                        clear c29
                        have H' := Aside0.mk H
                        clear H
                        go_wp2
                        go_roundg k3
                        case measure => have := HK1.out; have := HJ9.out; have := HK3.out; omega
                        case rel => exact ⟨(wrap64 (x6_1 + 1)), (by first | rfl | (simp; done) | (simp [*]; done)), H', ⟨by have := HK1.out; have := HJ9.out; have := HK3.out; omega⟩, ⟨by (with_reducible repeat (first | refine blk_drewN ?_ _ | refine blk_drew ?_ | refine blk_alloc ?_ _)); exact BK140.out⟩, ⟨by repeat (first | (with_reducible first | exact HB.out | apply below_alloc | apply pw_below_drewN | apply below_drew1 | refine below_set ?_ GE140.out | refine below_set ?_ GE143.out) | exact HB.out)⟩⟩
          · rw [if_neg c9] at H
            exact absurd H (by simp)
        · rw [if_neg c8] at H
          have c8b0 : decide (x6_1 < (l1.length : Int)) = false := decide_eq_false c8
          clear c8
          obtain rfl := Option.some.inj H
          go_wp2
          go_ret
          exact ⟨by first | rfl | (simp [errW_none, errW_some] <;> rfl) | (simp [*, errW_none, errW_some] <;> rfl), by repeat (first | (with_reducible first | exact HB.out | apply below_alloc | apply pw_below_drewN | apply below_drew1 | refine below_set ?_ GE140.out) | exact HB.out)⟩
  · replace c4 := Bool.eq_false_iff.mpr c4
    subst c4
    have H1 : (some false) = some r := by rw [if_neg (show ¬ (false = true) by decide)] at H; exact H
    clear H
    have H := H1
    clear H1
    obtain rfl := Option.some.inj H
    go_enter Try.func13, Try.ntmps13
    go_wp2_with (first | ((with_reducible refine gate_dst (N := 2) rfl ?_); refine box_event ?hg (N := 2) ?hd (cs := #[.int .i64 a0_0, .int .i64 a0_1]) (t := 23) ?hr ?_; (case hd => rfl); (case hg => rfl); (case hr => first | (go_simp; done) | (go_simp; rfl)); intro gb140 hg w38 hbox hb; have n0_ := Aside0.mk (below_step (by repeat (first | (with_reducible first | exact HB.out | apply below_alloc | apply pw_below_drewN | apply below_drew1) | exact HB.out)) hb); have n1_ := Aside0.mk (hbox); have n2_ := Aside0.mk ((by rw [hg]; exact (below_size (by repeat (first | (with_reducible first | exact HB.out | apply below_alloc | apply pw_below_drewN | apply below_drew1) | exact HB.out))) : w.heap.size ≤ gb140)); have n3_ := Aside0.mk ((by rw [hg]; exact (below_size (by repeat (first | (with_reducible first | exact HB.out | apply below_alloc | apply pw_below_drewN | apply below_drew1) | exact HB.out))) : w.heap.size ≤ gb140)); clear HB; have HB := n0_; have BK140 := n1_; have GW140 := n2_; have GE140 := n3_; clear n0_ n1_ n2_ n3_; clear hb hbox hg; have hcz39_0 : w38.cell? ⟨gb140, 0, none⟩ = some (.int .i64 a0_0) := (blk_cell BK140.out 0).trans rfl; have hcz39_1 : w38.cell? ⟨gb140, 1, none⟩ = some (.int .i64 a0_1) := (blk_cell BK140.out 1).trans rfl; have hfz39_0 := blk_frozen BK140.out 0; have hfz39_1 := blk_frozen BK140.out 1) | ((with_reducible refine gate_callee (f := 21) rfl ?_); refine goesL_ (some 11) rfl rfl Try.func21 (by kernel_rfl) rfl #[.agg #[.int .i64 a0_0, .int .i64 a0_1]] rfl (by (try simp only [List.map_toArray, List.map_cons, List.map_nil]); first | done | rfl | (simp only [List.length_drop, List.length_take]; rfl)) ?_; (with_reducible refine (oakumref11_small.calls a0_0 a0_1 false _ A3.out).mono ?_); rintro e w40 ⟨rfl, hb⟩; refine ⟨_, rfl, ?_⟩; have n0_ := Aside0.mk (blk_below (g := gb140) (o := .cells #[.int .i64 a0_0, .int .i64 a0_1] 23 (0, 0)) (by (with_reducible repeat (first | refine blk_drewN ?_ _ | refine blk_drew ?_ | refine blk_alloc ?_ _)); exact BK140.out) hb); have n1_ := Aside0.mk (below_step (by repeat (first | (with_reducible first | exact HB.out | apply below_alloc | apply pw_below_drewN | apply below_drew1 | refine below_set ?_ GE140.out) | exact HB.out)) hb); clear BK140; clear HB; have BK140 := n0_; have HB := n1_; clear n0_ n1_; (try clear hb); (try clear hb2); (try clear hk); (try clear hi)))
    go_ret
    exact ⟨by first | rfl | (simp [errW_none, errW_some] <;> rfl) | (simp [*, errW_none, errW_some] <;> rfl), by repeat (first | (with_reducible first | exact HB.out | apply below_alloc | apply pw_below_drewN | apply below_drew1 | refine below_set ?_ GE140.out) | exact HB.out)⟩

end Go.Proofs.Ytflmlejgahnppaa.PExt
