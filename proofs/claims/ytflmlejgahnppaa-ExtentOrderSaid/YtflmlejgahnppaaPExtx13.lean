/- Written by a program of this session out of the translation: the kit's print, run from a copy in which some functions are given by hand. -/
import Derived.Test.YtflmlejgahnppaaPExtx0
import Derived.Test.YtflmlejgahnppaaPExtx3
import Derived.Test.YtflmlejgahnppaaPExtx4
import Derived.Test.YtflmlejgahnppaaPExtx5
import Derived.Test.YtflmlejgahnppaaFit
import Derived.Test.YtflmlejgahnppaaGaps
namespace Go.Proofs.Ytflmlejgahnppaa.PExt
open Go.RowKit Go.Proofs.YtflmlejgahnppaaW.PrintWords Go.Proofs.YtflmlejgahnppaaW.PrintLast Go.Proofs.YtflmlejgahnppaaW.PrintMore
attribute [local go_sem] max2_int min2_int max_two min_two max_three min_three max_four min_four   -- for this text's walks alone
set_option linter.unusedVariables false
set_option linter.unusedSimpArgs false

/-! ### oakumlaw11_ExtentWhole: function 4 -/
mutual
def oakumlaw11_ExtentWhole.j0 : Nat → List (S23) → Int → List (S23) → Bool → Int → Int → Option (Bool)
  | 0, _, _, _, _, _, _ => none
  | k + 1, x1, x2, x7, x28, x198000, x198001 => if x28 = true then ((oakumlaw11_alive.f k).bind fun t202 => (some t202)) else ((extent_Fit.f k x198000 x198001 x2 x1).bind fun bt203 => (oakumlaw11_ExtentWhole.l0 k x1 x2 x7 bt203.2.2 false 0 x198000 x198001 bt203.1 bt203.2.1))
def oakumlaw11_ExtentWhole.l0 : Nat → List (S23) → Int → List (S23) → Int → Bool → Int → Int → Int → Int → Int → Option (Bool)
  | 0, _, _, _, _, _, _, _, _, _, _ => none
  | k + 1, x1, x2, x7, x10, x11, x12, x198000, x198001, x207000, x207001 => if x12 < (x7.length : Int) then (if x11 = true then (oakumlaw11_ExtentWhole.l0 k x1 x2 x7 x10 true (wrap64 (x12 + 1)) x198000 x198001 x207000 x207001) else (if x2 ≥ 1 then (if 0 ≤ x12 then (oakumlaw11_ExtentWhole.l0 k x1 x2 x7 x10 (decide (((rd_T23 x7 x12).f1) ≥ x2)) (wrap64 (x12 + 1)) x198000 x198001 x207000 x207001) else (none)) else (oakumlaw11_ExtentWhole.l0 k x1 x2 x7 x10 false (wrap64 (x12 + 1)) x198000 x198001 x207000 x207001))) else ((some (([] : List (S23)) : List (S23))).bind fun y208 => (if y208.length + x1.length < 8796093022208 then ((some (y208 ++ x1 : List (S23))).bind fun y211 => (if y211.length < 8796093022208 then ((some (y211 ++ [(⟨x207000, x207001⟩ : S23)] : List (S23))).bind fun y214 => ((some (([] : List (S23)) : List (S23))).bind fun y217 => (if y217.length + x1.length < 8796093022208 then ((some (y217 ++ x1 : List (S23))).bind fun y220 => (if y220.length + x7.length < 8796093022208 then ((some (y220 ++ x7 : List (S23))).bind fun y223 => ((extent_Free.f k x198000 x198001 x1).bind fun t226 => (if x10 = 0 then ((extent_Right.f k x198000 x198001 y214).bind fun t227 => (if t227 = true then ((extent_Free.f k x198000 x198001 y214).bind fun t228 => (oakumlaw11_ExtentWhole.j2 k x10 x11 y223 (t228 != (wrap64 (t226 - x2))) x198000 x198001)) else (oakumlaw11_ExtentWhole.j2 k x10 x11 y223 true x198000 x198001))) else (oakumlaw11_ExtentWhole.j2 k x10 x11 y223 false x198000 x198001)))) else (none))) else (none)))) else (none))) else (none)))
def oakumlaw11_ExtentWhole.j2 : Nat → Int → Bool → List (S23) → Bool → Int → Int → Option (Bool)
  | 0, _, _, _, _, _, _ => none
  | k + 1, x10, x11, x14, x89, x198000, x198001 => if x89 = true then (none) else ((oakumlaw11_alive.f k).bind fun t229 => (if t229 = true then (if ((x10 == 0) == x11) = true then ((extent_Right.f k x198000 x198001 x14).bind fun t230 => (if t230 = true then ((extent_Free.f k x198000 x198001 x14).bind fun t231 => (some (t231 == 0))) else (none))) else (none)) else (none)))
end
def oakumlaw11_ExtentWhole.f (k : Nat) (a0_0 : Int) (a0_1 : Int) (l1 : List (S23)) (a2 : Int) : Option (Bool) := (extent_Gaps.f k a0_0 a0_1 l1).bind fun bt198 => (if (l1.length : Int) > 20 then (oakumlaw11_ExtentWhole.j0 k l1 a2 bt198.1 true a0_0 a0_1) else (oakumlaw11_ExtentWhole.j0 k l1 a2 bt198.1 (bt198.2 != 0) a0_0 a0_1))
theorem oakumlaw11_ExtentWhole.mono_l : ∀ k, (∀ y0 y1 y2 y3 y4 y5, LeO (oakumlaw11_ExtentWhole.j0 k y0 y1 y2 y3 y4 y5) (oakumlaw11_ExtentWhole.j0 (k + 1) y0 y1 y2 y3 y4 y5)) ∧ (∀ y0 y1 y2 y3 y4 y5 y6 y7 y8 y9, LeO (oakumlaw11_ExtentWhole.l0 k y0 y1 y2 y3 y4 y5 y6 y7 y8 y9) (oakumlaw11_ExtentWhole.l0 (k + 1) y0 y1 y2 y3 y4 y5 y6 y7 y8 y9)) ∧ (∀ y0 y1 y2 y3 y4 y5, LeO (oakumlaw11_ExtentWhole.j2 k y0 y1 y2 y3 y4 y5) (oakumlaw11_ExtentWhole.j2 (k + 1) y0 y1 y2 y3 y4 y5))
  | 0 => ⟨fun _ _ _ _ _ _ r h => by simp [oakumlaw11_ExtentWhole.j0] at h, fun _ _ _ _ _ _ _ _ _ _ r h => by simp [oakumlaw11_ExtentWhole.l0] at h, fun _ _ _ _ _ _ r h => by simp [oakumlaw11_ExtentWhole.j2] at h⟩
  | k + 1 => by
    obtain ⟨ih0, ih1, ih2⟩ := oakumlaw11_ExtentWhole.mono_l k
    refine ⟨?_, ?_, ?_⟩
    · intro y0 y1 y2 y3 y4 y5
      unfold oakumlaw11_ExtentWhole.j0
      repeat' first
      | (with_reducible exact ih0 _ _ _ _ _ _)
      | (with_reducible exact ih1 _ _ _ _ _ _ _ _ _ _)
      | (with_reducible exact ih2 _ _ _ _ _ _)
      | (with_reducible exact extent_Fit.mono _ _ _ _ _)
      | (with_reducible exact extent_Free.mono _ _ _ _)
      | (with_reducible exact extent_Gaps.mono _ _ _ _)
      | (with_reducible exact extent_Right.mono _ _ _ _)
      | (with_reducible exact oakumlaw11_alive.mono _)
      | (with_reducible exact LeO.refl _)
      | (with_reducible exact LeO.none _)
      | (with_reducible refine LeO.ite ?_ ?_)
      | (with_reducible refine LeO.bind ?_ (fun _ => ?_))
      | exact ih0 _ _ _ _ _ _
      | exact ih1 _ _ _ _ _ _ _ _ _ _
      | exact ih2 _ _ _ _ _ _
      | exact extent_Fit.mono _ _ _ _ _
      | exact extent_Free.mono _ _ _ _
      | exact extent_Gaps.mono _ _ _ _
      | exact extent_Right.mono _ _ _ _
      | exact oakumlaw11_alive.mono _
      | exact LeO.none _
      | refine LeO.ite ?_ ?_
      | refine LeO.bind ?_ (fun _ => ?_)
    · intro y0 y1 y2 y3 y4 y5 y6 y7 y8 y9
      unfold oakumlaw11_ExtentWhole.l0
      repeat' first
      | (with_reducible exact ih0 _ _ _ _ _ _)
      | (with_reducible exact ih1 _ _ _ _ _ _ _ _ _ _)
      | (with_reducible exact ih2 _ _ _ _ _ _)
      | (with_reducible exact extent_Fit.mono _ _ _ _ _)
      | (with_reducible exact extent_Free.mono _ _ _ _)
      | (with_reducible exact extent_Gaps.mono _ _ _ _)
      | (with_reducible exact extent_Right.mono _ _ _ _)
      | (with_reducible exact oakumlaw11_alive.mono _)
      | (with_reducible exact LeO.refl _)
      | (with_reducible exact LeO.none _)
      | (with_reducible refine LeO.ite ?_ ?_)
      | (with_reducible refine LeO.bind ?_ (fun _ => ?_))
      | exact ih0 _ _ _ _ _ _
      | exact ih1 _ _ _ _ _ _ _ _ _ _
      | exact ih2 _ _ _ _ _ _
      | exact extent_Fit.mono _ _ _ _ _
      | exact extent_Free.mono _ _ _ _
      | exact extent_Gaps.mono _ _ _ _
      | exact extent_Right.mono _ _ _ _
      | exact oakumlaw11_alive.mono _
      | exact LeO.none _
      | refine LeO.ite ?_ ?_
      | refine LeO.bind ?_ (fun _ => ?_)
    · intro y0 y1 y2 y3 y4 y5
      unfold oakumlaw11_ExtentWhole.j2
      repeat' first
      | (with_reducible exact ih0 _ _ _ _ _ _)
      | (with_reducible exact ih1 _ _ _ _ _ _ _ _ _ _)
      | (with_reducible exact ih2 _ _ _ _ _ _)
      | (with_reducible exact extent_Fit.mono _ _ _ _ _)
      | (with_reducible exact extent_Free.mono _ _ _ _)
      | (with_reducible exact extent_Gaps.mono _ _ _ _)
      | (with_reducible exact extent_Right.mono _ _ _ _)
      | (with_reducible exact oakumlaw11_alive.mono _)
      | (with_reducible exact LeO.refl _)
      | (with_reducible exact LeO.none _)
      | (with_reducible refine LeO.ite ?_ ?_)
      | (with_reducible refine LeO.bind ?_ (fun _ => ?_))
      | exact ih0 _ _ _ _ _ _
      | exact ih1 _ _ _ _ _ _ _ _ _ _
      | exact ih2 _ _ _ _ _ _
      | exact extent_Fit.mono _ _ _ _ _
      | exact extent_Free.mono _ _ _ _
      | exact extent_Gaps.mono _ _ _ _
      | exact extent_Right.mono _ _ _ _
      | exact oakumlaw11_alive.mono _
      | exact LeO.none _
      | refine LeO.ite ?_ ?_
      | refine LeO.bind ?_ (fun _ => ?_)
theorem oakumlaw11_ExtentWhole.mono : ∀ a0 a1 a2 a3 k, LeO (oakumlaw11_ExtentWhole.f k a0 a1 a2 a3) (oakumlaw11_ExtentWhole.f (k + 1) a0 a1 a2 a3) := by
  intro a0 a1 a2 a3 k
  obtain ⟨ih0, ih1, ih2⟩ := oakumlaw11_ExtentWhole.mono_l k
  unfold oakumlaw11_ExtentWhole.f
  repeat' first
      | (with_reducible exact ih0 _ _ _ _ _ _)
      | (with_reducible exact ih1 _ _ _ _ _ _ _ _ _ _)
      | (with_reducible exact ih2 _ _ _ _ _ _)
      | (with_reducible exact extent_Fit.mono _ _ _ _ _)
      | (with_reducible exact extent_Free.mono _ _ _ _)
      | (with_reducible exact extent_Gaps.mono _ _ _ _)
      | (with_reducible exact extent_Right.mono _ _ _ _)
      | (with_reducible exact oakumlaw11_alive.mono _)
      | (with_reducible exact LeO.refl _)
      | (with_reducible exact LeO.none _)
      | (with_reducible refine LeO.ite ?_ ?_)
      | (with_reducible refine LeO.bind ?_ (fun _ => ?_))
      | exact ih0 _ _ _ _ _ _
      | exact ih1 _ _ _ _ _ _ _ _ _ _
      | exact ih2 _ _ _ _ _ _
      | exact extent_Fit.mono _ _ _ _ _
      | exact extent_Free.mono _ _ _ _
      | exact extent_Gaps.mono _ _ _ _
      | exact extent_Right.mono _ _ _ _
      | exact oakumlaw11_alive.mono _
      | exact LeO.none _
      | refine LeO.ite ?_ ?_
      | refine LeO.bind ?_ (fun _ => ?_)
set_option maxHeartbeats 8000000 in
set_option maxRecDepth 100000 in
theorem oakumlaw11_ExtentWhole.calls (k : Nat) (a0_0 : Int) (a0_1 : Int) (A1 : Option Addr) (c1 : Nat) (l1 : List (S23)) (a2 : Int) (r : Bool) (w : World) (hr1 : Kd.C k23 w A1 l1.length l1) (hc1 : l1.length ≤ c1) (h : oakumlaw11_ExtentWhole.f k a0_0 a0_1 l1 a2 = some r) :
    Calls Try.prog 4 #[.agg #[.int .i64 a0_0, .int .i64 a0_1], .slice A1 l1.length c1, .int .i64 a2] w fun e w' => e = .returned (.bool r) ∧ Below w.heap.size w w' := by
  have hu23 := Try.underlying23
  have HR1 := Aside0.mk hr1
  have HC1 := Aside0.mk hc1
  clear hr1 hc1
  have HB := Aside0.mk (Below.refl w.heap.size w)
  have H : ((extent_Gaps.f k a0_0 a0_1 l1).bind fun bt198 => (if (l1.length : Int) > 20 then (oakumlaw11_ExtentWhole.j0 k l1 a2 bt198.1 true a0_0 a0_1) else (oakumlaw11_ExtentWhole.j0 k l1 a2 bt198.1 (bt198.2 != 0) a0_0 a0_1))) = some r := h
  clear h
  replace H := Option.bind_eq_some_iff.mp H
  obtain ⟨⟨t198, t201⟩, A40, H⟩ := H
  replace H : (if (l1.length : Int) > 20 then (oakumlaw11_ExtentWhole.j0 k l1 a2 t198 true a0_0 a0_1) else (oakumlaw11_ExtentWhole.j0 k l1 a2 t198 (t201 != 0) a0_0 a0_1)) = some r := H
  have A4 := Aside0.mk A40
  clear A40
  have HC5 := Aside0.mk H
  clear H
  go_enter Try.func4, Try.ntmps4
  go_upto_region 2 with (first | ((with_reducible refine gate_dst (N := 3) rfl ?_); refine box_event ?hg (N := 3) ?hd (cs := #[.int .i64 a0_0, .int .i64 a0_1]) (t := 23) ?hr ?_; (case hd => rfl); (case hg => rfl); (case hr => first | (go_simp; done) | (go_simp; rfl)); intro gb197 hg w6 hbox hb; have n0_ := Aside0.mk (below_step (by repeat (first | (with_reducible first | exact HB.out | apply below_alloc | apply pw_below_drewN | apply below_drew1) | exact HB.out)) hb); have n1_ := Aside0.mk (hbox); have n2_ := Aside0.mk ((by rw [hg]; exact (below_size (by repeat (first | (with_reducible first | exact HB.out | apply below_alloc | apply pw_below_drewN | apply below_drew1) | exact HB.out))) : w.heap.size ≤ gb197)); have n3_ := Aside0.mk ((by rw [hg]; exact (below_size (by repeat (first | (with_reducible first | exact HB.out | apply below_alloc | apply pw_below_drewN | apply below_drew1) | exact HB.out))) : w.heap.size ≤ gb197)); clear HB; have HB := n0_; have BK197 := n1_; have GW197 := n2_; have GE197 := n3_; clear n0_ n1_ n2_ n3_; clear hb hbox hg; have hcz7_0 : w6.cell? ⟨gb197, 0, none⟩ = some (.int .i64 a0_0) := (blk_cell BK197.out 0).trans rfl; have hcz7_1 : w6.cell? ⟨gb197, 1, none⟩ = some (.int .i64 a0_1) := (blk_cell BK197.out 1).trans rfl; have hfz7_0 := blk_frozen BK197.out 0; have hfz7_1 := blk_frozen BK197.out 1) | ((with_reducible refine gate_callee (f := 7) rfl ?_); refine goesL_ (some 19) rfl rfl Try.func7 (by kernel_rfl) rfl #[.agg #[.int .i64 a0_0, .int .i64 a0_1], .slice A1 l1.length c1] rfl (by (try simp only [List.map_toArray, List.map_cons, List.map_nil]); first | done | rfl | (simp only [List.length_drop, List.length_take]; rfl)) ?_; (with_reducible refine (extent_Gaps.calls k a0_0 a0_1 _ _ l1 t198 t201 _ ?side1 ?side2 A4.out).mono ?_); (case side1 => repeat (first | exact (Kd.C_below HR1.out HB.out) | (with_reducible refine Kd.C_alloc ?_ _) | (with_reducible refine Kd.C_drewN ?_ _) | (with_reducible refine Kd.C_drew ?_))); (case side2 => exact HC1.out); rintro e w8 ⟨v199, rfl, ho0, hb⟩; refine ⟨_, rfl, ?_⟩; have n0_ := Aside0.mk (Kd.R_lower (Kd.R_newB ho0 (g := gb197) (o := .cells #[.int .i64 a0_0, .int .i64 a0_1] 23 (0, 0)) (by (with_reducible repeat (first | refine blk_drewN ?_ _ | refine blk_drew ?_ | refine blk_alloc ?_ _)); exact BK197.out)) (below_size (by repeat (first | (with_reducible first | exact HB.out | apply below_alloc | apply pw_below_drewN | apply below_drew1 | refine below_set ?_ GE197.out) | exact HB.out)))); have n1_ := Aside0.mk (blk_below (g := gb197) (o := .cells #[.int .i64 a0_0, .int .i64 a0_1] 23 (0, 0)) (by (with_reducible repeat (first | refine blk_drewN ?_ _ | refine blk_drew ?_ | refine blk_alloc ?_ _)); exact BK197.out) hb); have n2_ := Aside0.mk (below_step (by repeat (first | (with_reducible first | exact HB.out | apply below_alloc | apply pw_below_drewN | apply below_drew1 | refine below_set ?_ GE197.out) | exact HB.out)) hb); clear BK197; clear HB; have HO200 := n0_; have BK197 := n1_; have HB := n2_; clear n0_ n1_ n2_; (try clear hb); (try clear hb2); (try clear hk); (try clear hi); (try clear ho0)))
  (try simp only [Act.put, List.setIfInBounds_toArray, List.set_cons_zero, List.set_cons_succ])
  go_cut [28] (fun v28 wc => ∃ (kq : Nat) (x28_4 : Bool), v28 = .bool x28_4 ∧ Aside0 (oakumlaw11_ExtentWhole.j0 kq l1 a2 t198 x28_4 a0_0 a0_1 = some r) ∧ Aside0 (kq ≤ k) ∧ Aside0 (Kd.R k23 23 wc w.heap.size (fun k_ => k_ ≠ gb197) v199 t198) ∧ Aside0 (wc.heap[gb197]? = some (.cells #[.int .i64 a0_0, .int .i64 a0_1] 23 (0, 0))) ∧ Aside0 (Below w.heap.size w wc))
  case first =>
    have H := HC5.out
    clear HC5
    by_cases c9 : (l1.length : Int) > 20
    · rw [if_pos c9] at H
      have c9b0 : decide (20 < (l1.length : Int)) = true := decide_eq_true c9
      have c9b1 : decide (20 < l1.length) = true := decide_eq_true (by omega)
      clear c9
      (first | rw [c9b0] | (simp only [i64_w, i32_w]; rw [c9b0]) | skip)
      have H' := Aside0.mk H
      clear H
      go_wp2
      go_meet
      case rel => exact ⟨_, (true), (by first | rfl | (simp; done) | (simp [*]; done)), H', ⟨by first | omega | exact Nat.le_refl _⟩, ⟨by (with_reducible repeat (first | apply Kd.R_alloc | apply Kd.R_drewN | apply Kd.R_drew)); exact Kd.R_mono HO200.out (fun _ hk => hk.2)⟩, ⟨by (with_reducible repeat (first | refine blk_drewN ?_ _ | refine blk_drew ?_ | refine blk_alloc ?_ _)); exact BK197.out⟩, ⟨by repeat (first | (with_reducible first | exact HB.out | apply below_alloc | apply pw_below_drewN | apply below_drew1 | refine below_set ?_ GE197.out) | exact HB.out)⟩⟩
    · rw [if_neg c9] at H
      have c9b0 : decide (20 < (l1.length : Int)) = false := decide_eq_false c9
      have c9b1 : decide (20 < l1.length) = false := decide_eq_false (by omega)
      clear c9
      (first | rw [c9b0] | (simp only [i64_w, i32_w]; rw [c9b0]) | skip)
      have H' := Aside0.mk H
      clear H
      go_wp2
      go_meet
      case rel => exact ⟨_, ((t201 != 0)), (by first | rfl | (simp; done) | (simp [*]; done)), H', ⟨by first | omega | exact Nat.le_refl _⟩, ⟨by (with_reducible repeat (first | apply Kd.R_alloc | apply Kd.R_drewN | apply Kd.R_drew)); exact Kd.R_mono HO200.out (fun _ hk => hk.2)⟩, ⟨by (with_reducible repeat (first | refine blk_drewN ?_ _ | refine blk_drew ?_ | refine blk_alloc ?_ _)); exact BK197.out⟩, ⟨by repeat (first | (with_reducible first | exact HB.out | apply below_alloc | apply pw_below_drewN | apply below_drew1 | refine below_set ?_ GE197.out) | exact HB.out)⟩⟩
  case rest =>
    clear HC5
    try clear c1
    try clear p2
    try clear c4
    try clear c7
    try clear c9
    try clear c9b0
    try clear c9b1
    try clear hcz7_0
    try clear hcz7_1
    try clear hfz7_0
    try clear hfz7_1
    obtain ⟨kq, x28_4, rfl, HA, HJ4, HO_7, BK197, HB⟩ := hcut
    cases kq with
    | zero => exact absurd HA.out (by simp [oakumlaw11_ExtentWhole.j0])
    | succ kj4 =>
      have H := HA.out
      clear HA
      simp only [oakumlaw11_ExtentWhole.j0] at H
      by_cases c10 : x28_4 = true
      · subst c10
        have H1 : ((oakumlaw11_alive.f kj4).bind fun t202 => (some t202)) = some r := by rw [if_pos rfl] at H; exact H
        clear H
        have H := H1
        clear H1
        replace H := Option.bind_eq_some_iff.mp H
        obtain ⟨t202, A110, H⟩ := H
        replace H : (some t202) = some r := H
        have A11 := Aside0.mk A110
        clear A110
        obtain rfl := Option.some.inj H
        go_wp2_with (first | ((with_reducible refine gate_callee (f := 6) rfl ?_); refine goesL_ (some 29) rfl rfl Try.func6 (by kernel_rfl) rfl #[] rfl (by (try simp only [List.map_toArray, List.map_cons, List.map_nil]); first | done | rfl | (simp only [List.length_drop, List.length_take]; rfl)) ?_; (with_reducible refine (oakumlaw11_alive.calls kj4  t202 _ A11.out).mono ?_); rintro e w12 ⟨rfl, hb⟩; refine ⟨_, rfl, ?_⟩; have n0_ := Aside0.mk (Kd.R_below (by (with_reducible repeat (first | apply Kd.R_alloc | apply Kd.R_drewN | apply Kd.R_drew)); exact HO_7.out) hb); have n1_ := Aside0.mk (blk_below (g := gb197) (o := .cells #[.int .i64 a0_0, .int .i64 a0_1] 23 (0, 0)) (by (with_reducible repeat (first | refine blk_drewN ?_ _ | refine blk_drew ?_ | refine blk_alloc ?_ _)); exact BK197.out) hb); have n2_ := Aside0.mk (below_step (by repeat (first | (with_reducible first | exact HB.out | apply below_alloc | apply pw_below_drewN | apply below_drew1 | refine below_set ?_ GE197.out) | exact HB.out)) hb); clear HO_7; clear BK197; clear HB; have HO_7 := n0_; have BK197 := n1_; have HB := n2_; clear n0_ n1_ n2_; (try clear hb); (try clear hb2); (try clear hk); (try clear hi)))
        go_ret
        exact ⟨by first | rfl | (simp [errW_none, errW_some] <;> rfl) | (simp [*, errW_none, errW_some] <;> rfl), by repeat (first | (with_reducible first | exact HB.out | apply below_alloc | apply pw_below_drewN | apply below_drew1 | refine below_set ?_ GE197.out) | exact HB.out)⟩
      · replace c10 := Bool.eq_false_iff.mpr c10
        subst c10
        have H1 : ((extent_Fit.f kj4 a0_0 a0_1 a2 l1).bind fun bt203 => (oakumlaw11_ExtentWhole.l0 kj4 l1 a2 t198 bt203.2.2 false 0 a0_0 a0_1 bt203.1 bt203.2.1)) = some r := by rw [if_neg (show ¬ (false = true) by decide)] at H; exact H
        clear H
        have H := H1
        clear H1
        replace H := Option.bind_eq_some_iff.mp H
        obtain ⟨⟨t203, t204, t205⟩, A130, H⟩ := H
        replace H : (oakumlaw11_ExtentWhole.l0 kj4 l1 a2 t198 t205 false 0 a0_0 a0_1 t203 t204) = some r := H
        have A13 := Aside0.mk A130
        clear A130
        have H' := Aside0.mk H
        clear H
        have hcz14_0 : wc.cell? ⟨gb197, 0, none⟩ = some (.int .i64 a0_0) := (blk_cell BK197.out 0).trans rfl
        have hcz14_1 : wc.cell? ⟨gb197, 1, none⟩ = some (.int .i64 a0_1) := (blk_cell BK197.out 1).trans rfl
        have hfz14_0 := blk_frozen BK197.out 0
        have hfz14_1 := blk_frozen BK197.out 1
        go_wp2_with (first | ((with_reducible refine gate_callee (f := 9) rfl ?_); refine goesL_ (some 34) rfl rfl Try.func9 (by kernel_rfl) rfl #[.agg #[.int .i64 a0_0, .int .i64 a0_1], .int .i64 a2, .slice A1 l1.length c1] rfl (by (try simp only [List.map_toArray, List.map_cons, List.map_nil]); first | done | rfl | (simp only [List.length_drop, List.length_take]; rfl)) ?_; (with_reducible refine (extent_Fit.calls kj4 a0_0 a0_1 a2 _ _ l1 t203 t204 t205 _ ?side1 ?side2 A13.out).mono ?_); (case side1 => repeat (first | exact (Kd.C_below HR1.out HB.out) | (with_reducible refine Kd.C_alloc ?_ _) | (with_reducible refine Kd.C_drewN ?_ _) | (with_reducible refine Kd.C_drew ?_))); (case side2 => exact HC1.out); rintro e w15 ⟨rfl, hb⟩; refine ⟨_, rfl, ?_⟩; have n0_ := Aside0.mk (Kd.R_below (by (with_reducible repeat (first | apply Kd.R_alloc | apply Kd.R_drewN | apply Kd.R_drew)); exact HO_7.out) hb); have n1_ := Aside0.mk (blk_below (g := gb197) (o := .cells #[.int .i64 a0_0, .int .i64 a0_1] 23 (0, 0)) (by (with_reducible repeat (first | refine blk_drewN ?_ _ | refine blk_drew ?_ | refine blk_alloc ?_ _)); exact BK197.out) hb); have n2_ := Aside0.mk (below_step (by repeat (first | (with_reducible first | exact HB.out | apply below_alloc | apply pw_below_drewN | apply below_drew1 | refine below_set ?_ GE197.out) | exact HB.out)) hb); clear HO_7; clear BK197; clear HB; have HO_7 := n0_; have BK197 := n1_; have HB := n2_; clear n0_ n1_ n2_; (try clear hb); (try clear hb2); (try clear hk); (try clear hi)) | ((with_reducible refine gate_dst (N := 9) rfl ?_); refine box_event ?hg (N := 9) ?hd (cs := #[.int .i64 0, .int .i64 0]) (t := 23) ?hr ?_; (case hd => rfl); (case hg => rfl); (case hr => first | (go_simp; done) | (go_simp; rfl)); intro gb206 hg w16 hbox hb; have n0_ := Aside0.mk (Kd.R_below (Kd.R_elderB (by (with_reducible repeat (first | apply Kd.R_alloc | apply Kd.R_drewN | apply Kd.R_drew)); exact HO_7.out) gb206 (Nat.le_of_eq hg.symm)) hb); have n1_ := Aside0.mk (blk_below (g := gb197) (o := .cells #[.int .i64 a0_0, .int .i64 a0_1] 23 (0, 0)) (by (with_reducible repeat (first | refine blk_drewN ?_ _ | refine blk_drew ?_ | refine blk_alloc ?_ _)); exact BK197.out) hb); have n2_ := Aside0.mk (below_step (by repeat (first | (with_reducible first | exact HB.out | apply below_alloc | apply pw_below_drewN | apply below_drew1 | refine below_set ?_ GE197.out) | exact HB.out)) hb); have n3_ := Aside0.mk (hbox); have n4_ := Aside0.mk ((by rw [hg]; exact (below_size (by repeat (first | (with_reducible first | exact HB.out | apply below_alloc | apply pw_below_drewN | apply below_drew1 | refine below_set ?_ GE197.out) | exact HB.out))) : w.heap.size ≤ gb206)); have n5_ := Aside0.mk ((by rw [hg]; exact (below_size (by repeat (first | (with_reducible first | exact HB.out | apply below_alloc | apply pw_below_drewN | apply below_drew1 | refine below_set ?_ GE197.out) | exact HB.out))) : w.heap.size ≤ gb206)); have n6_ := Aside0.mk ((by rw [hg]; exact Nat.ne_of_lt (blk_lt (g := gb197) (o := .cells #[.int .i64 a0_0, .int .i64 a0_1] 23 (0, 0)) (by (with_reducible repeat (first | refine blk_drewN ?_ _ | refine blk_drew ?_ | refine blk_alloc ?_ _)); exact BK197.out)) : gb197 ≠ gb206)); have n7_ := Aside0.mk ((by rw [hg]; exact Nat.ne_of_gt (blk_lt (g := gb197) (o := .cells #[.int .i64 a0_0, .int .i64 a0_1] 23 (0, 0)) (by (with_reducible repeat (first | refine blk_drewN ?_ _ | refine blk_drew ?_ | refine blk_alloc ?_ _)); exact BK197.out)) : gb206 ≠ gb197)); clear HO_7; clear BK197; clear HB; have HO_7 := n0_; have BK197 := n1_; have HB := n2_; have BK206 := n3_; have GW206 := n4_; have GE206 := n5_; have NB197_206 := n6_; have NB206_197 := n7_; clear n0_ n1_ n2_ n3_ n4_ n5_ n6_ n7_; clear hb hbox hg; have hnb17 := NB206_197.out; have hnc17 := NB197_206.out; have hcz18_0 : w16.cell? ⟨gb206, 0, none⟩ = some (.int .i64 0) := (blk_cell BK206.out 0).trans rfl; have hcz18_1 : w16.cell? ⟨gb206, 1, none⟩ = some (.int .i64 0) := (blk_cell BK206.out 1).trans rfl; have hfz18_0 := blk_frozen BK206.out 0; have hfz18_1 := blk_frozen BK206.out 1))
        go_loopg [11, 12] kj4 (fun kq v11 v12 w' => ∃ (x11_2 : Bool) (x12_2 : Int), v11 = .bool x11_2 ∧ v12 = .int .i64 x12_2 ∧ Aside0 (oakumlaw11_ExtentWhole.l0 kq l1 a2 t198 t205 x11_2 x12_2 a0_0 a0_1 t203 t204 = some r) ∧ Aside0 (kq ≤ kj4) ∧ Aside0 (Kd.R k23 23 w' w.heap.size (fun k_ => k_ ≠ gb197 ∧ k_ ≠ gb206) v199 t198) ∧ Aside0 (w'.heap[gb197]? = some (.cells #[.int .i64 a0_0, .int .i64 a0_1] 23 (0, 0))) ∧ Aside0 (w'.heap[gb206]? = some (.cells #[.int .i64 t203, .int .i64 t204] 23 (0, 0))) ∧ Aside0 (Below w.heap.size w w'))
        case atStart => exact ⟨(false), (0), (by first | rfl | (simp; done) | (simp [*]; done)), (by first | rfl | (simp; done) | (simp [*]; done)), H', ⟨Nat.le_refl _⟩, ⟨by (with_reducible repeat (first | apply Kd.R_alloc | apply Kd.R_drewN | apply Kd.R_drew)); exact Kd.R_mono (Kd.R_far (p := ⟨gb206, 1, none⟩) (Kd.R_far (p := ⟨gb206, 0, none⟩) (Kd.R_mono HO_7.out (fun k_ hk => (⟨hk, hk.2⟩ : _ ∧ k_ ≠ gb206))) (fun _ hk => hk.2) (.int .i64 t203)) (fun _ hk => hk.2) (.int .i64 t204)) (fun _ hk => ⟨hk.1.1, hk.1.2⟩)⟩, ⟨by (with_reducible repeat (first | refine blk_drewN ?_ _ | refine blk_drew ?_ | refine blk_alloc ?_ _)); refine blk_far ?_ NB197_206.out _; (with_reducible repeat (first | refine blk_drewN ?_ _ | refine blk_drew ?_ | refine blk_alloc ?_ _)); refine blk_far ?_ NB197_206.out _; (with_reducible repeat (first | refine blk_drewN ?_ _ | refine blk_drew ?_ | refine blk_alloc ?_ _)); exact BK197.out⟩, ⟨by (with_reducible repeat (first | refine blk_drewN ?_ _ | refine blk_drew ?_ | refine blk_alloc ?_ _)); refine blk_put (cs := #[.int .i64 t203, .int .i64 0]) ?_ 1 _ rfl; (with_reducible repeat (first | refine blk_drewN ?_ _ | refine blk_drew ?_ | refine blk_alloc ?_ _)); refine blk_put (cs := #[.int .i64 0, .int .i64 0]) ?_ 0 _ rfl; (with_reducible repeat (first | refine blk_drewN ?_ _ | refine blk_drew ?_ | refine blk_alloc ?_ _)); exact BK206.out⟩, ⟨by repeat (first | (with_reducible first | exact HB.out | apply below_alloc | apply pw_below_drewN | apply below_drew1 | refine below_set ?_ GE197.out | refine below_set ?_ GE206.out) | exact HB.out)⟩⟩
        case round =>
          clear H'
          try clear c1
          try clear p2
          try clear c4
          try clear c6
          try clear c7
          try clear c9
          try clear c9b0
          try clear c9b1
          try clear c10
          try clear c17
          try clear hcz14_0
          try clear hcz14_1
          try clear hcz18_0
          try clear hcz18_1
          try clear hcz7_0
          try clear hcz7_1
          try clear hfz14_0
          try clear hfz14_1
          try clear hfz18_0
          try clear hfz18_1
          try clear hfz7_0
          try clear hfz7_1
          try clear p2
          obtain ⟨x11_2, x12_2, rfl, rfl, HA, HK2, HO_7, BK197, BK206, HB⟩ := hrel
          cases gk with
          | zero => exact absurd HA.out (by simp [oakumlaw11_ExtentWhole.l0])
          | succ k2 =>
            have H := HA.out
            clear HA
            simp only [oakumlaw11_ExtentWhole.l0] at H
            by_cases c19 : x12_2 < (t198.length : Int)
            · rw [if_pos c19] at H
              have c19b0 : decide (x12_2 < (t198.length : Int)) = true := decide_eq_true c19
              clear c19
              by_cases c20 : x11_2 = true
              · subst c20
                have H1 : (oakumlaw11_ExtentWhole.l0 k2 l1 a2 t198 t205 true (wrap64 (x12_2 + 1)) a0_0 a0_1 t203 t204) = some r := by rw [if_pos rfl] at H; exact H
                clear H
                have H := H1
                clear H1
                have H' := Aside0.mk H
                clear H
                obtain ⟨Ao21, co21, eo21⟩ := Kd.R_slice HO_7.out
                subst eo21
                go_wp2
                go_roundg k2
                case measure => have := HJ4.out; have := HK2.out; omega
                case rel => exact ⟨(true), (wrap64 (x12_2 + 1)), (by first | rfl | (simp; done) | (simp [*]; done)), (by first | rfl | (simp; done) | (simp [*]; done)), H', ⟨by have := HJ4.out; have := HK2.out; omega⟩, ⟨by (with_reducible repeat (first | apply Kd.R_alloc | apply Kd.R_drewN | apply Kd.R_drew)); exact HO_7.out⟩, ⟨by (with_reducible repeat (first | refine blk_drewN ?_ _ | refine blk_drew ?_ | refine blk_alloc ?_ _)); exact BK197.out⟩, ⟨by (with_reducible repeat (first | refine blk_drewN ?_ _ | refine blk_drew ?_ | refine blk_alloc ?_ _)); exact BK206.out⟩, ⟨by repeat (first | (with_reducible first | exact HB.out | apply below_alloc | apply pw_below_drewN | apply below_drew1 | refine below_set ?_ GE197.out | refine below_set ?_ GE206.out) | exact HB.out)⟩⟩
              · replace c20 := Bool.eq_false_iff.mpr c20
                subst c20
                have H1 : (if a2 ≥ 1 then (if 0 ≤ x12_2 then (oakumlaw11_ExtentWhole.l0 k2 l1 a2 t198 t205 (decide (((rd_T23 t198 x12_2).f1) ≥ a2)) (wrap64 (x12_2 + 1)) a0_0 a0_1 t203 t204) else (none)) else (oakumlaw11_ExtentWhole.l0 k2 l1 a2 t198 t205 false (wrap64 (x12_2 + 1)) a0_0 a0_1 t203 t204)) = some r := by rw [if_neg (show ¬ (false = true) by decide)] at H; exact H
                clear H
                have H := H1
                clear H1
                by_cases c22 : a2 ≥ 1
                · rw [if_pos c22] at H
                  have c22b0 : decide (1 ≤ a2) = true := decide_eq_true c22
                  clear c22
                  by_cases c23 : 0 ≤ x12_2
                  · rw [if_pos c23] at H
                    have c23b0 : decide (0 ≤ x12_2) = true := decide_eq_true c23
                    clear c23
                    have H' := Aside0.mk H
                    clear H
                    obtain ⟨Ao24, co24, eo24⟩ := Kd.R_slice HO_7.out
                    subst eo24
                    have p207 : 0 ≤ (x12_2 : Int) := of_decide_eq_true (by first | (with_reducible assumption) | assumption)
                    have q207 : x12_2 < (t198.length : Int) := of_decide_eq_true (by first | (with_reducible assumption) | assumption)
                    obtain ⟨ad207, e207, hx207_0, hx207_1⟩ := at_T23 (Kd.R_reads' HO_7.out).2.2 x12_2 p207 q207
                    cases e207
                    replace p207 := eq_true p207
                    replace q207 := eq_true q207
                    go_wp2
                    go_roundg k2
                    case measure => have := HJ4.out; have := HK2.out; omega
                    case rel => exact ⟨(decide (((rd_T23 t198 x12_2).f1) ≥ a2)), (wrap64 (x12_2 + 1)), (by first | rfl | (simp; done) | (simp [*]; done)), (by first | rfl | (simp; done) | (simp [*]; done)), H', ⟨by have := HJ4.out; have := HK2.out; omega⟩, ⟨by (with_reducible repeat (first | apply Kd.R_alloc | apply Kd.R_drewN | apply Kd.R_drew)); exact HO_7.out⟩, ⟨by (with_reducible repeat (first | refine blk_drewN ?_ _ | refine blk_drew ?_ | refine blk_alloc ?_ _)); exact BK197.out⟩, ⟨by (with_reducible repeat (first | refine blk_drewN ?_ _ | refine blk_drew ?_ | refine blk_alloc ?_ _)); exact BK206.out⟩, ⟨by repeat (first | (with_reducible first | exact HB.out | apply below_alloc | apply pw_below_drewN | apply below_drew1 | refine below_set ?_ GE197.out | refine below_set ?_ GE206.out) | exact HB.out)⟩⟩
                  · rw [if_neg c23] at H
                    exact absurd H (by simp)
                · rw [if_neg c22] at H
                  have c22b0 : decide (1 ≤ a2) = false := decide_eq_false c22
                  clear c22
                  have H' := Aside0.mk H
                  clear H
                  obtain ⟨Ao25, co25, eo25⟩ := Kd.R_slice HO_7.out
                  subst eo25
                  go_wp2
                  go_roundg k2
                  case measure => have := HJ4.out; have := HK2.out; omega
                  case rel => exact ⟨(false), (wrap64 (x12_2 + 1)), (by first | rfl | (simp; done) | (simp [*]; done)), (by first | rfl | (simp; done) | (simp [*]; done)), H', ⟨by have := HJ4.out; have := HK2.out; omega⟩, ⟨by (with_reducible repeat (first | apply Kd.R_alloc | apply Kd.R_drewN | apply Kd.R_drew)); exact HO_7.out⟩, ⟨by (with_reducible repeat (first | refine blk_drewN ?_ _ | refine blk_drew ?_ | refine blk_alloc ?_ _)); exact BK197.out⟩, ⟨by (with_reducible repeat (first | refine blk_drewN ?_ _ | refine blk_drew ?_ | refine blk_alloc ?_ _)); exact BK206.out⟩, ⟨by repeat (first | (with_reducible first | exact HB.out | apply below_alloc | apply pw_below_drewN | apply below_drew1 | refine below_set ?_ GE197.out | refine below_set ?_ GE206.out) | exact HB.out)⟩⟩
            · rw [if_neg c19] at H
              have c19b0 : decide (x12_2 < (t198.length : Int)) = false := decide_eq_false c19
              clear c19
              obtain ⟨y208, hy208⟩ : ∃ y_ : List (S23), y_ = (([] : List (S23))) := ⟨_, rfl⟩
              replace H : (if y208.length + l1.length < 8796093022208 then ((some (y208 ++ l1 : List (S23))).bind fun y211 => (if y211.length < 8796093022208 then ((some (y211 ++ [(⟨t203, t204⟩ : S23)] : List (S23))).bind fun y214 => ((some (([] : List (S23)) : List (S23))).bind fun y217 => (if y217.length + l1.length < 8796093022208 then ((some (y217 ++ l1 : List (S23))).bind fun y220 => (if y220.length + t198.length < 8796093022208 then ((some (y220 ++ t198 : List (S23))).bind fun y223 => ((extent_Free.f k2 a0_0 a0_1 l1).bind fun t226 => (if t205 = 0 then ((extent_Right.f k2 a0_0 a0_1 y214).bind fun t227 => (if t227 = true then ((extent_Free.f k2 a0_0 a0_1 y214).bind fun t228 => (oakumlaw11_ExtentWhole.j2 k2 t205 x11_2 y223 (t228 != (wrap64 (t226 - a2))) a0_0 a0_1)) else (oakumlaw11_ExtentWhole.j2 k2 t205 x11_2 y223 true a0_0 a0_1))) else (oakumlaw11_ExtentWhole.j2 k2 t205 x11_2 y223 false a0_0 a0_1)))) else (none))) else (none)))) else (none))) else (none)) = some r := by first | (rw [hy208]; with_reducible exact H) | (have H2_ := (Option.bind_some _ _).symm.trans H; rw [hy208]; with_reducible exact H2_) | (have H2_ := (Option.bind_some _ _).symm.trans H; with_reducible exact H2_) | with_reducible exact H | (rw [hy208]; exact H) | exact H
              have Ny208 := Aside0.mk hy208
              clear hy208
              by_cases c26 : y208.length + l1.length < 8796093022208
              · rw [if_pos c26] at H
                have LMc26 := Aside0.mk c26
                clear c26
                obtain ⟨y211, hy211⟩ : ∃ y_ : List (S23), y_ = (y208 ++ l1) := ⟨_, rfl⟩
                replace H : (if y211.length < 8796093022208 then ((some (y211 ++ [(⟨t203, t204⟩ : S23)] : List (S23))).bind fun y214 => ((some (([] : List (S23)) : List (S23))).bind fun y217 => (if y217.length + l1.length < 8796093022208 then ((some (y217 ++ l1 : List (S23))).bind fun y220 => (if y220.length + t198.length < 8796093022208 then ((some (y220 ++ t198 : List (S23))).bind fun y223 => ((extent_Free.f k2 a0_0 a0_1 l1).bind fun t226 => (if t205 = 0 then ((extent_Right.f k2 a0_0 a0_1 y214).bind fun t227 => (if t227 = true then ((extent_Free.f k2 a0_0 a0_1 y214).bind fun t228 => (oakumlaw11_ExtentWhole.j2 k2 t205 x11_2 y223 (t228 != (wrap64 (t226 - a2))) a0_0 a0_1)) else (oakumlaw11_ExtentWhole.j2 k2 t205 x11_2 y223 true a0_0 a0_1))) else (oakumlaw11_ExtentWhole.j2 k2 t205 x11_2 y223 false a0_0 a0_1)))) else (none))) else (none)))) else (none)) = some r := by first | (rw [hy211]; with_reducible exact H) | (have H2_ := (Option.bind_some _ _).symm.trans H; rw [hy211]; with_reducible exact H2_) | (have H2_ := (Option.bind_some _ _).symm.trans H; with_reducible exact H2_) | with_reducible exact H | (rw [hy211]; exact H) | exact H
                have Ny211 := Aside0.mk hy211
                clear hy211
                by_cases c27 : y211.length < 8796093022208
                · rw [if_pos c27] at H
                  have LMc27 := Aside0.mk c27
                  clear c27
                  obtain ⟨y214, hy214⟩ : ∃ y_ : List (S23), y_ = (y211 ++ [(⟨t203, t204⟩ : S23)]) := ⟨_, rfl⟩
                  replace H : ((some (([] : List (S23)) : List (S23))).bind fun y217 => (if y217.length + l1.length < 8796093022208 then ((some (y217 ++ l1 : List (S23))).bind fun y220 => (if y220.length + t198.length < 8796093022208 then ((some (y220 ++ t198 : List (S23))).bind fun y223 => ((extent_Free.f k2 a0_0 a0_1 l1).bind fun t226 => (if t205 = 0 then ((extent_Right.f k2 a0_0 a0_1 y214).bind fun t227 => (if t227 = true then ((extent_Free.f k2 a0_0 a0_1 y214).bind fun t228 => (oakumlaw11_ExtentWhole.j2 k2 t205 x11_2 y223 (t228 != (wrap64 (t226 - a2))) a0_0 a0_1)) else (oakumlaw11_ExtentWhole.j2 k2 t205 x11_2 y223 true a0_0 a0_1))) else (oakumlaw11_ExtentWhole.j2 k2 t205 x11_2 y223 false a0_0 a0_1)))) else (none))) else (none))) = some r := by first | (rw [hy214]; with_reducible exact H) | (have H2_ := (Option.bind_some _ _).symm.trans H; rw [hy214]; with_reducible exact H2_) | (have H2_ := (Option.bind_some _ _).symm.trans H; with_reducible exact H2_) | with_reducible exact H | (rw [hy214]; exact H) | exact H
                  have Ny214 := Aside0.mk hy214
                  clear hy214
                  obtain ⟨y217, hy217⟩ : ∃ y_ : List (S23), y_ = (([] : List (S23))) := ⟨_, rfl⟩
                  replace H : (if y217.length + l1.length < 8796093022208 then ((some (y217 ++ l1 : List (S23))).bind fun y220 => (if y220.length + t198.length < 8796093022208 then ((some (y220 ++ t198 : List (S23))).bind fun y223 => ((extent_Free.f k2 a0_0 a0_1 l1).bind fun t226 => (if t205 = 0 then ((extent_Right.f k2 a0_0 a0_1 y214).bind fun t227 => (if t227 = true then ((extent_Free.f k2 a0_0 a0_1 y214).bind fun t228 => (oakumlaw11_ExtentWhole.j2 k2 t205 x11_2 y223 (t228 != (wrap64 (t226 - a2))) a0_0 a0_1)) else (oakumlaw11_ExtentWhole.j2 k2 t205 x11_2 y223 true a0_0 a0_1))) else (oakumlaw11_ExtentWhole.j2 k2 t205 x11_2 y223 false a0_0 a0_1)))) else (none))) else (none)) = some r := by first | (rw [hy217]; with_reducible exact H) | (have H2_ := (Option.bind_some _ _).symm.trans H; rw [hy217]; with_reducible exact H2_) | (have H2_ := (Option.bind_some _ _).symm.trans H; with_reducible exact H2_) | with_reducible exact H | (rw [hy217]; exact H) | exact H
                  have Ny217 := Aside0.mk hy217
                  clear hy217
                  by_cases c28 : y217.length + l1.length < 8796093022208
                  · rw [if_pos c28] at H
                    have LMc28 := Aside0.mk c28
                    clear c28
                    obtain ⟨y220, hy220⟩ : ∃ y_ : List (S23), y_ = (y217 ++ l1) := ⟨_, rfl⟩
                    replace H : (if y220.length + t198.length < 8796093022208 then ((some (y220 ++ t198 : List (S23))).bind fun y223 => ((extent_Free.f k2 a0_0 a0_1 l1).bind fun t226 => (if t205 = 0 then ((extent_Right.f k2 a0_0 a0_1 y214).bind fun t227 => (if t227 = true then ((extent_Free.f k2 a0_0 a0_1 y214).bind fun t228 => (oakumlaw11_ExtentWhole.j2 k2 t205 x11_2 y223 (t228 != (wrap64 (t226 - a2))) a0_0 a0_1)) else (oakumlaw11_ExtentWhole.j2 k2 t205 x11_2 y223 true a0_0 a0_1))) else (oakumlaw11_ExtentWhole.j2 k2 t205 x11_2 y223 false a0_0 a0_1)))) else (none)) = some r := by first | (rw [hy220]; with_reducible exact H) | (have H2_ := (Option.bind_some _ _).symm.trans H; rw [hy220]; with_reducible exact H2_) | (have H2_ := (Option.bind_some _ _).symm.trans H; with_reducible exact H2_) | with_reducible exact H | (rw [hy220]; exact H) | exact H
                    have Ny220 := Aside0.mk hy220
                    clear hy220
                    by_cases c29 : y220.length + t198.length < 8796093022208
                    · rw [if_pos c29] at H
                      have LMc29 := Aside0.mk c29
                      clear c29
                      obtain ⟨y223, hy223⟩ : ∃ y_ : List (S23), y_ = (y220 ++ t198) := ⟨_, rfl⟩
                      replace H : ((extent_Free.f k2 a0_0 a0_1 l1).bind fun t226 => (if t205 = 0 then ((extent_Right.f k2 a0_0 a0_1 y214).bind fun t227 => (if t227 = true then ((extent_Free.f k2 a0_0 a0_1 y214).bind fun t228 => (oakumlaw11_ExtentWhole.j2 k2 t205 x11_2 y223 (t228 != (wrap64 (t226 - a2))) a0_0 a0_1)) else (oakumlaw11_ExtentWhole.j2 k2 t205 x11_2 y223 true a0_0 a0_1))) else (oakumlaw11_ExtentWhole.j2 k2 t205 x11_2 y223 false a0_0 a0_1))) = some r := by first | (rw [hy223]; with_reducible exact H) | (have H2_ := (Option.bind_some _ _).symm.trans H; rw [hy223]; with_reducible exact H2_) | (have H2_ := (Option.bind_some _ _).symm.trans H; with_reducible exact H2_) | with_reducible exact H | (rw [hy223]; exact H) | exact H
                      have Ny223 := Aside0.mk hy223
                      clear hy223
                      replace H := Option.bind_eq_some_iff.mp H
                      obtain ⟨t226, A300, H⟩ := H
                      replace H : (if t205 = 0 then ((extent_Right.f k2 a0_0 a0_1 y214).bind fun t227 => (if t227 = true then ((extent_Free.f k2 a0_0 a0_1 y214).bind fun t228 => (oakumlaw11_ExtentWhole.j2 k2 t205 x11_2 y223 (t228 != (wrap64 (t226 - a2))) a0_0 a0_1)) else (oakumlaw11_ExtentWhole.j2 k2 t205 x11_2 y223 true a0_0 a0_1))) else (oakumlaw11_ExtentWhole.j2 k2 t205 x11_2 y223 false a0_0 a0_1)) = some r := H
                      have A30 := Aside0.mk A300
                      clear A300
                      have HC31 := Aside0.mk H
                      clear H
                      obtain ⟨Ao32, co32, eo32⟩ := Kd.R_slice HO_7.out
                      subst eo32
                      go_upto_region 15 with (first | ((with_reducible refine gate_dst (N := 57) rfl ?_); refine Kd.R_lit k23 _ 23 ?hg (N := 57) ?hd (xs := ([] : List (S23))) (inner := []) (ok := fun _ => True) (okp := fun _ => True) ?hr ?hp (fun _ hk => hk) trivial (Below.refl _ _) (Nat.le_refl _) (by simp) ?_; (case hd => rfl); (case hg => rfl); (case hr => first | (go_simp; done) | (go_simp; rfl)); (case hp => exact (Reps.none _ _)); intro v209 w33 ho34 hb hg_ hnew_; clear hg_ hnew_; (first | rw [← Ny208.out] at ho34 | (simp only [Int.reduceToNat] at ho34; rw [← Ny208.out] at ho34)); have n0_ := Aside0.mk (Kd.R_elder' (by (with_reducible repeat (first | apply Kd.R_alloc | apply Kd.R_drewN | apply Kd.R_drew)); exact HO_7.out) (Kd.R_base ho34) hb); have n1_ := Aside0.mk (Kd.R_lower (Kd.R_newB (Kd.R_newB (Kd.R_new' ho34 (Kd.R_lt (by (with_reducible repeat (first | apply Kd.R_alloc | apply Kd.R_drewN | apply Kd.R_drew)); exact HO_7.out))) (g := gb197) (o := .cells #[.int .i64 a0_0, .int .i64 a0_1] 23 (0, 0)) (by (with_reducible repeat (first | refine blk_drewN ?_ _ | refine blk_drew ?_ | refine blk_alloc ?_ _)); exact BK197.out)) (g := gb206) (o := .cells #[.int .i64 t203, .int .i64 t204] 23 (0, 0)) (by (with_reducible repeat (first | refine blk_drewN ?_ _ | refine blk_drew ?_ | refine blk_alloc ?_ _)); exact BK206.out)) (below_size (by repeat (first | (with_reducible first | exact HB.out | apply below_alloc | apply pw_below_drewN | apply below_drew1 | refine below_set ?_ GE197.out | refine below_set ?_ GE206.out) | exact HB.out)))); have n2_ := Aside0.mk (blk_below (g := gb197) (o := .cells #[.int .i64 a0_0, .int .i64 a0_1] 23 (0, 0)) (by (with_reducible repeat (first | refine blk_drewN ?_ _ | refine blk_drew ?_ | refine blk_alloc ?_ _)); exact BK197.out) hb); have n3_ := Aside0.mk (blk_below (g := gb206) (o := .cells #[.int .i64 t203, .int .i64 t204] 23 (0, 0)) (by (with_reducible repeat (first | refine blk_drewN ?_ _ | refine blk_drew ?_ | refine blk_alloc ?_ _)); exact BK206.out) hb); have n4_ := Aside0.mk (below_step (by repeat (first | (with_reducible first | exact HB.out | apply below_alloc | apply pw_below_drewN | apply below_drew1 | refine below_set ?_ GE197.out | refine below_set ?_ GE206.out) | exact HB.out)) hb); clear HO_7; clear BK197; clear BK206; clear HB; have HO_7 := n0_; have HO210 := n1_; have BK197 := n2_; have BK206 := n3_; have HB := n4_; clear n0_ n1_ n2_ n3_ n4_; clear hb ho34) | ((with_reducible refine gate_builtin (b := .append) (xs := #[.tmp 57, .tmp 58]) rfl ?_); at_builtin; refine Kd.R_append_rows k23 (w0 := w) w.heap.size rfl (.tmp 57) (.tmp 58) 24 23 (.agg #[(.int .i64 0), (.int .i64 0)]) 16 rfl Try.underlying24 info23 rfl (by decide) (by omega) v209 y208 l1 _ _ _ (fun k_ => some k_ ≠ (.slice Ao32 t198.length co32 : Value).ownBlock ∧ k_ ≠ gb197 ∧ k_ ≠ gb206) (fun _ => False) rfl rfl ?aO ?aR (fun _ _ h => h) (fun _ h => h.elim) ?aF ?aB ?aS ?aL ?_; (case aR => repeat (first | exact (Kd.C_below HR1.out HB.out) | (with_reducible refine Kd.C_alloc ?_ _) | (with_reducible refine Kd.C_drewN ?_ _) | (with_reducible refine Kd.C_drew ?_))); (case aB => exact (by repeat (first | (with_reducible first | exact HB.out | apply below_alloc | apply pw_below_drewN | apply below_drew1 | refine below_set ?_ GE197.out | refine below_set ?_ GE206.out) | exact HB.out))); (case aF => exact (fun k_ hk => ⟨Kd.fresh' (Kd.R_lt (by (with_reducible repeat (first | apply Kd.R_alloc | apply Kd.R_drewN | apply Kd.R_drew)); exact HO_7.out)) k_ hk, Kd.freshB (g := gb197) (o := .cells #[.int .i64 a0_0, .int .i64 a0_1] 23 (0, 0)) (by (with_reducible repeat (first | refine blk_drewN ?_ _ | refine blk_drew ?_ | refine blk_alloc ?_ _)); exact BK197.out) k_ hk, Kd.freshB (g := gb206) (o := .cells #[.int .i64 t203, .int .i64 t204] 23 (0, 0)) (by (with_reducible repeat (first | refine blk_drewN ?_ _ | refine blk_drew ?_ | refine blk_alloc ?_ _)); exact BK206.out) k_ hk⟩)); (case aO => exact (by (with_reducible repeat (first | apply Kd.R_alloc | apply Kd.R_drewN | apply Kd.R_drew)); exact Kd.R_mono HO210.out (fun _ hk => ⟨hk.1.1.2, ⟨hk.1.2, hk.2⟩⟩))); (case aS => exact (below_size (by repeat (first | (with_reducible first | exact HB.out | apply below_alloc | apply pw_below_drewN | apply below_drew1 | refine below_set ?_ GE197.out | refine below_set ?_ GE206.out) | exact HB.out)))); (case aL => have := LMc26.out; omega); intro v212 w35 ho hb hg hat; rw [← Ny211.out] at ho; have n0_ := Aside0.mk (Kd.R_after (ok := (fun k_ => k_ ≠ gb197 ∧ k_ ≠ gb206)) (by (with_reducible repeat (first | apply Kd.R_alloc | apply Kd.R_drewN | apply Kd.R_drew)); exact HO_7.out) hg hat); have n1_ := Aside0.mk (blk_grown (g := gb197) (o := .cells #[.int .i64 a0_0, .int .i64 a0_1] 23 (0, 0)) (by (with_reducible repeat (first | refine blk_drewN ?_ _ | refine blk_drew ?_ | refine blk_alloc ?_ _)); exact BK197.out) hg (Kd.R_away HO210.out (fun _ hk => hk.1.2))); have n2_ := Aside0.mk (blk_grown (g := gb206) (o := .cells #[.int .i64 t203, .int .i64 t204] 23 (0, 0)) (by (with_reducible repeat (first | refine blk_drewN ?_ _ | refine blk_drew ?_ | refine blk_alloc ?_ _)); exact BK206.out) hg (Kd.R_away HO210.out (fun _ hk => hk.2))); have n3_ := Aside0.mk (hb); have n4_ := Aside0.mk (ho); clear HO_7; clear BK197; clear BK206; clear HB; clear HO210; have HO_7 := n0_; have BK197 := n1_; have BK206 := n2_; have HB := n3_; have HO213 := n4_; clear n0_ n1_ n2_ n3_ n4_; clear ho hb hg hat; have hnb36 := NB206_197.out; have hnc36 := NB197_206.out; have hcz37_0 : w35.cell? ⟨gb206, 0, none⟩ = some (.int .i64 t203) := (blk_cell BK206.out 0).trans rfl; have hcz37_1 : w35.cell? ⟨gb206, 1, none⟩ = some (.int .i64 t204) := (blk_cell BK206.out 1).trans rfl; have hfz37_0 := blk_frozen BK206.out 0; have hfz37_1 := blk_frozen BK206.out 1) | ((with_reducible refine gate_builtin (b := .append) (xs := #[.tmp 60, .tmp 62]) rfl ?_); at_builtin; refine Kd.R_append k23 (w0 := w) w.heap.size rfl (.tmp 60) (.tmp 62) 24 23 (.agg #[(.int .i64 0), (.int .i64 0)]) 16 rfl Try.underlying24 info23 rfl (by decide) (by omega) v212 y211 (⟨t203, t204⟩ : S23) [.int .i64 t203, .int .i64 t204] (fun k_ => some k_ ≠ (.slice Ao32 t198.length co32 : Value).ownBlock ∧ k_ ≠ gb197 ∧ k_ ≠ gb206) (fun _ => False) rfl rfl ?aP (fun _ hk => hk.elim) ?aF ?aO ?aB ?aS ?aL ?_; (case aP => exact k23_mkM _ _ _ (⟨t203, t204⟩ : S23)); (case aB => exact (by repeat (first | (with_reducible first | exact HB.out | apply below_alloc | apply pw_below_drewN | apply below_drew1 | refine below_set ?_ GE197.out | refine below_set ?_ GE206.out) | exact HB.out))); (case aF => exact (fun k_ hk => ⟨Kd.fresh' (Kd.R_lt (by (with_reducible repeat (first | apply Kd.R_alloc | apply Kd.R_drewN | apply Kd.R_drew)); exact HO_7.out)) k_ hk, Kd.freshB (g := gb197) (o := .cells #[.int .i64 a0_0, .int .i64 a0_1] 23 (0, 0)) (by (with_reducible repeat (first | refine blk_drewN ?_ _ | refine blk_drew ?_ | refine blk_alloc ?_ _)); exact BK197.out) k_ hk, Kd.freshB (g := gb206) (o := .cells #[.int .i64 t203, .int .i64 t204] 23 (0, 0)) (by (with_reducible repeat (first | refine blk_drewN ?_ _ | refine blk_drew ?_ | refine blk_alloc ?_ _)); exact BK206.out) k_ hk⟩)); (case aO => exact (by (with_reducible repeat (first | apply Kd.R_alloc | apply Kd.R_drewN | apply Kd.R_drew)); exact HO213.out)); (case aS => exact (below_size (by repeat (first | (with_reducible first | exact HB.out | apply below_alloc | apply pw_below_drewN | apply below_drew1 | refine below_set ?_ GE197.out | refine below_set ?_ GE206.out) | exact HB.out)))); (case aL => have := LMc27.out; omega); intro v215 w38 ho hb hg hat; rw [← Ny214.out] at ho; have n0_ := Aside0.mk (Kd.R_after (ok := (fun k_ => k_ ≠ gb197 ∧ k_ ≠ gb206)) (by (with_reducible repeat (first | apply Kd.R_alloc | apply Kd.R_drewN | apply Kd.R_drew)); exact HO_7.out) hg hat); have n1_ := Aside0.mk (blk_grown (g := gb197) (o := .cells #[.int .i64 a0_0, .int .i64 a0_1] 23 (0, 0)) (by (with_reducible repeat (first | refine blk_drewN ?_ _ | refine blk_drew ?_ | refine blk_alloc ?_ _)); exact BK197.out) hg (Kd.R_away HO213.out (fun _ hk => hk.2.1))); have n2_ := Aside0.mk (blk_grown (g := gb206) (o := .cells #[.int .i64 t203, .int .i64 t204] 23 (0, 0)) (by (with_reducible repeat (first | refine blk_drewN ?_ _ | refine blk_drew ?_ | refine blk_alloc ?_ _)); exact BK206.out) hg (Kd.R_away HO213.out (fun _ hk => hk.2.2))); have n3_ := Aside0.mk (hb); have n4_ := Aside0.mk (ho); clear HO_7; clear BK197; clear BK206; clear HB; clear HO213; have HO_7 := n0_; have BK197 := n1_; have BK206 := n2_; have HB := n3_; have HO216 := n4_; clear n0_ n1_ n2_ n3_ n4_; clear ho hb hg hat) | ((with_reducible refine gate_dst (N := 64) rfl ?_); refine Kd.R_lit k23 _ 23 ?hg (N := 64) ?hd (xs := ([] : List (S23))) (inner := []) (ok := fun _ => True) (okp := fun _ => True) ?hr ?hp (fun _ hk => hk) trivial (Below.refl _ _) (Nat.le_refl _) (by simp) ?_; (case hd => rfl); (case hg => rfl); (case hr => first | (go_simp; done) | (go_simp; rfl)); (case hp => exact (Reps.none _ _)); intro v218 w39 ho40 hb hg_ hnew_; clear hg_ hnew_; (first | rw [← Ny217.out] at ho40 | (simp only [Int.reduceToNat] at ho40; rw [← Ny217.out] at ho40)); have n0_ := Aside0.mk (Kd.R_elder' (by (with_reducible repeat (first | apply Kd.R_alloc | apply Kd.R_drewN | apply Kd.R_drew)); exact HO_7.out) (Kd.R_base ho40) hb); have n1_ := Aside0.mk (Kd.R_elder' (by (with_reducible repeat (first | apply Kd.R_alloc | apply Kd.R_drewN | apply Kd.R_drew)); exact HO216.out) (Kd.R_base ho40) hb); have n2_ := Aside0.mk (Kd.R_lower (Kd.R_newB (Kd.R_newB (Kd.R_new' (Kd.R_new' ho40 (Kd.R_lt (by (with_reducible repeat (first | apply Kd.R_alloc | apply Kd.R_drewN | apply Kd.R_drew)); exact HO_7.out))) (Kd.R_lt (by (with_reducible repeat (first | apply Kd.R_alloc | apply Kd.R_drewN | apply Kd.R_drew)); exact HO216.out))) (g := gb197) (o := .cells #[.int .i64 a0_0, .int .i64 a0_1] 23 (0, 0)) (by (with_reducible repeat (first | refine blk_drewN ?_ _ | refine blk_drew ?_ | refine blk_alloc ?_ _)); exact BK197.out)) (g := gb206) (o := .cells #[.int .i64 t203, .int .i64 t204] 23 (0, 0)) (by (with_reducible repeat (first | refine blk_drewN ?_ _ | refine blk_drew ?_ | refine blk_alloc ?_ _)); exact BK206.out)) (below_size (by repeat (first | (with_reducible first | exact HB.out | apply below_alloc | apply pw_below_drewN | apply below_drew1 | refine below_set ?_ GE197.out | refine below_set ?_ GE206.out) | exact HB.out)))); have n3_ := Aside0.mk (blk_below (g := gb197) (o := .cells #[.int .i64 a0_0, .int .i64 a0_1] 23 (0, 0)) (by (with_reducible repeat (first | refine blk_drewN ?_ _ | refine blk_drew ?_ | refine blk_alloc ?_ _)); exact BK197.out) hb); have n4_ := Aside0.mk (blk_below (g := gb206) (o := .cells #[.int .i64 t203, .int .i64 t204] 23 (0, 0)) (by (with_reducible repeat (first | refine blk_drewN ?_ _ | refine blk_drew ?_ | refine blk_alloc ?_ _)); exact BK206.out) hb); have n5_ := Aside0.mk (below_step (by repeat (first | (with_reducible first | exact HB.out | apply below_alloc | apply pw_below_drewN | apply below_drew1 | refine below_set ?_ GE197.out | refine below_set ?_ GE206.out) | exact HB.out)) hb); clear HO_7; clear HO216; clear BK197; clear BK206; clear HB; have HO_7 := n0_; have HO216 := n1_; have HO219 := n2_; have BK197 := n3_; have BK206 := n4_; have HB := n5_; clear n0_ n1_ n2_ n3_ n4_ n5_; clear hb ho40) | ((with_reducible refine gate_builtin (b := .append) (xs := #[.tmp 64, .tmp 65]) rfl ?_); at_builtin; refine Kd.R_append_rows k23 (w0 := w) w.heap.size rfl (.tmp 64) (.tmp 65) 24 23 (.agg #[(.int .i64 0), (.int .i64 0)]) 16 rfl Try.underlying24 info23 rfl (by decide) (by omega) v218 y217 l1 _ _ _ (fun k_ => some k_ ≠ (.slice Ao32 t198.length co32 : Value).ownBlock ∧ some k_ ≠ (v215 : Value).ownBlock ∧ k_ ≠ gb197 ∧ k_ ≠ gb206) (fun _ => False) rfl rfl ?aO ?aR (fun _ _ h => h) (fun _ h => h.elim) ?aF ?aB ?aS ?aL ?_; (case aR => repeat (first | exact (Kd.C_below HR1.out HB.out) | (with_reducible refine Kd.C_alloc ?_ _) | (with_reducible refine Kd.C_drewN ?_ _) | (with_reducible refine Kd.C_drew ?_))); (case aB => exact (by repeat (first | (with_reducible first | exact HB.out | apply below_alloc | apply pw_below_drewN | apply below_drew1 | refine below_set ?_ GE197.out | refine below_set ?_ GE206.out) | exact HB.out))); (case aF => exact (fun k_ hk => ⟨Kd.fresh' (Kd.R_lt (by (with_reducible repeat (first | apply Kd.R_alloc | apply Kd.R_drewN | apply Kd.R_drew)); exact HO_7.out)) k_ hk, Kd.fresh' (Kd.R_lt (by (with_reducible repeat (first | apply Kd.R_alloc | apply Kd.R_drewN | apply Kd.R_drew)); exact HO216.out)) k_ hk, Kd.freshB (g := gb197) (o := .cells #[.int .i64 a0_0, .int .i64 a0_1] 23 (0, 0)) (by (with_reducible repeat (first | refine blk_drewN ?_ _ | refine blk_drew ?_ | refine blk_alloc ?_ _)); exact BK197.out) k_ hk, Kd.freshB (g := gb206) (o := .cells #[.int .i64 t203, .int .i64 t204] 23 (0, 0)) (by (with_reducible repeat (first | refine blk_drewN ?_ _ | refine blk_drew ?_ | refine blk_alloc ?_ _)); exact BK206.out) k_ hk⟩)); (case aO => exact (by (with_reducible repeat (first | apply Kd.R_alloc | apply Kd.R_drewN | apply Kd.R_drew)); exact Kd.R_mono HO219.out (fun _ hk => ⟨hk.1.1.1.2, ⟨hk.1.1.2, ⟨hk.1.2, hk.2⟩⟩⟩))); (case aS => exact (below_size (by repeat (first | (with_reducible first | exact HB.out | apply below_alloc | apply pw_below_drewN | apply below_drew1 | refine below_set ?_ GE197.out | refine below_set ?_ GE206.out) | exact HB.out)))); (case aL => have := LMc28.out; omega); intro v221 w41 ho hb hg hat; rw [← Ny220.out] at ho; have n0_ := Aside0.mk (Kd.R_after (ok := (fun k_ => some k_ ≠ (v215 : Value).ownBlock ∧ k_ ≠ gb197 ∧ k_ ≠ gb206)) (by (with_reducible repeat (first | apply Kd.R_alloc | apply Kd.R_drewN | apply Kd.R_drew)); exact Kd.R_mono HO_7.out (fun _ hk => ⟨⟨hk.1.2, ⟨hk.1.1.1, hk.1.1.2⟩⟩, hk.2⟩)) hg hat); have n1_ := Aside0.mk (blk_grown (g := gb197) (o := .cells #[.int .i64 a0_0, .int .i64 a0_1] 23 (0, 0)) (by (with_reducible repeat (first | refine blk_drewN ?_ _ | refine blk_drew ?_ | refine blk_alloc ?_ _)); exact BK197.out) hg (Kd.R_away HO219.out (fun _ hk => hk.1.2))); have n2_ := Aside0.mk (blk_grown (g := gb206) (o := .cells #[.int .i64 t203, .int .i64 t204] 23 (0, 0)) (by (with_reducible repeat (first | refine blk_drewN ?_ _ | refine blk_drew ?_ | refine blk_alloc ?_ _)); exact BK206.out) hg (Kd.R_away HO219.out (fun _ hk => hk.2))); have n3_ := Aside0.mk (Kd.R_after (ok := (fun k_ => some k_ ≠ (.slice Ao32 t198.length co32 : Value).ownBlock ∧ k_ ≠ gb197 ∧ k_ ≠ gb206)) (by (with_reducible repeat (first | apply Kd.R_alloc | apply Kd.R_drewN | apply Kd.R_drew)); exact HO216.out) hg hat); have n4_ := Aside0.mk (hb); have n5_ := Aside0.mk (ho); clear HO_7; clear BK197; clear BK206; clear HO216; clear HB; clear HO219; have HO_7 := n0_; have BK197 := n1_; have BK206 := n2_; have HO216 := n3_; have HB := n4_; have HO222 := n5_; clear n0_ n1_ n2_ n3_ n4_ n5_; clear ho hb hg hat) | ((with_reducible refine gate_builtin (b := .append) (xs := #[.tmp 67, .tmp 68]) rfl ?_); at_builtin; refine Kd.R_append_rows k23 (w0 := w) w.heap.size rfl (.tmp 67) (.tmp 68) 24 23 (.agg #[(.int .i64 0), (.int .i64 0)]) 16 rfl Try.underlying24 info23 rfl (by decide) (by omega) v221 y220 t198 _ _ _ (fun k_ => some k_ ≠ (.slice Ao32 t198.length co32 : Value).ownBlock ∧ some k_ ≠ (v215 : Value).ownBlock ∧ k_ ≠ gb197 ∧ k_ ≠ gb206) (fun _ => False) rfl rfl ?aO ?aR (fun _ _ h => h) (fun _ h => h.elim) ?aF ?aB ?aS ?aL ?_; (case aR => repeat (first | exact (Kd.R_reads' HO_7.out).2.2 | (with_reducible refine Kd.C_alloc ?_ _) | (with_reducible refine Kd.C_drewN ?_ _) | (with_reducible refine Kd.C_drew ?_))); (case aB => exact (by repeat (first | (with_reducible first | exact HB.out | apply below_alloc | apply pw_below_drewN | apply below_drew1 | refine below_set ?_ GE197.out | refine below_set ?_ GE206.out) | exact HB.out))); (case aF => exact (fun k_ hk => ⟨Kd.fresh' (Kd.R_lt (by (with_reducible repeat (first | apply Kd.R_alloc | apply Kd.R_drewN | apply Kd.R_drew)); exact HO_7.out)) k_ hk, Kd.fresh' (Kd.R_lt (by (with_reducible repeat (first | apply Kd.R_alloc | apply Kd.R_drewN | apply Kd.R_drew)); exact HO216.out)) k_ hk, Kd.freshB (g := gb197) (o := .cells #[.int .i64 a0_0, .int .i64 a0_1] 23 (0, 0)) (by (with_reducible repeat (first | refine blk_drewN ?_ _ | refine blk_drew ?_ | refine blk_alloc ?_ _)); exact BK197.out) k_ hk, Kd.freshB (g := gb206) (o := .cells #[.int .i64 t203, .int .i64 t204] 23 (0, 0)) (by (with_reducible repeat (first | refine blk_drewN ?_ _ | refine blk_drew ?_ | refine blk_alloc ?_ _)); exact BK206.out) k_ hk⟩)); (case aO => exact (by (with_reducible repeat (first | apply Kd.R_alloc | apply Kd.R_drewN | apply Kd.R_drew)); exact HO222.out)); (case aS => exact (below_size (by repeat (first | (with_reducible first | exact HB.out | apply below_alloc | apply pw_below_drewN | apply below_drew1 | refine below_set ?_ GE197.out | refine below_set ?_ GE206.out) | exact HB.out)))); (case aL => have := LMc29.out; omega); intro v224 w42 ho hb hg hat; rw [← Ny223.out] at ho; have n0_ := Aside0.mk (Kd.R_after (ok := (fun k_ => some k_ ≠ (v215 : Value).ownBlock ∧ k_ ≠ gb197 ∧ k_ ≠ gb206)) (by (with_reducible repeat (first | apply Kd.R_alloc | apply Kd.R_drewN | apply Kd.R_drew)); exact HO_7.out) hg hat); have n1_ := Aside0.mk (blk_grown (g := gb197) (o := .cells #[.int .i64 a0_0, .int .i64 a0_1] 23 (0, 0)) (by (with_reducible repeat (first | refine blk_drewN ?_ _ | refine blk_drew ?_ | refine blk_alloc ?_ _)); exact BK197.out) hg (Kd.R_away HO222.out (fun _ hk => hk.2.2.1))); have n2_ := Aside0.mk (blk_grown (g := gb206) (o := .cells #[.int .i64 t203, .int .i64 t204] 23 (0, 0)) (by (with_reducible repeat (first | refine blk_drewN ?_ _ | refine blk_drew ?_ | refine blk_alloc ?_ _)); exact BK206.out) hg (Kd.R_away HO222.out (fun _ hk => hk.2.2.2))); have n3_ := Aside0.mk (Kd.R_after (ok := (fun k_ => some k_ ≠ (.slice Ao32 t198.length co32 : Value).ownBlock ∧ k_ ≠ gb197 ∧ k_ ≠ gb206)) (by (with_reducible repeat (first | apply Kd.R_alloc | apply Kd.R_drewN | apply Kd.R_drew)); exact HO216.out) hg hat); have n4_ := Aside0.mk (hb); have n5_ := Aside0.mk (ho); clear HO_7; clear BK197; clear BK206; clear HO216; clear HB; clear HO222; have HO_7 := n0_; have BK197 := n1_; have BK206 := n2_; have HO216 := n3_; have HB := n4_; have HO225 := n5_; clear n0_ n1_ n2_ n3_ n4_ n5_; clear ho hb hg hat; have hcz43_0 : w42.cell? ⟨gb197, 0, none⟩ = some (.int .i64 a0_0) := (blk_cell BK197.out 0).trans rfl; have hcz43_1 : w42.cell? ⟨gb197, 1, none⟩ = some (.int .i64 a0_1) := (blk_cell BK197.out 1).trans rfl; have hfz43_0 := blk_frozen BK197.out 0; have hfz43_1 := blk_frozen BK197.out 1) | ((with_reducible refine gate_callee (f := 14) rfl ?_); refine goesL_ (some 72) rfl rfl Try.func14 (by kernel_rfl) rfl #[.agg #[.int .i64 a0_0, .int .i64 a0_1], .slice A1 l1.length c1] rfl (by (try simp only [List.map_toArray, List.map_cons, List.map_nil]); first | done | rfl | (simp only [List.length_drop, List.length_take]; rfl)) ?_; (with_reducible refine (extent_Free.calls k2 a0_0 a0_1 _ _ l1 t226 _ ?side1 ?side2 A30.out).mono ?_); (case side1 => repeat (first | exact (Kd.C_below HR1.out HB.out) | (with_reducible refine Kd.C_alloc ?_ _) | (with_reducible refine Kd.C_drewN ?_ _) | (with_reducible refine Kd.C_drew ?_))); (case side2 => exact HC1.out); rintro e w44 ⟨rfl, hb⟩; refine ⟨_, rfl, ?_⟩; have n0_ := Aside0.mk (Kd.R_below (by (with_reducible repeat (first | apply Kd.R_alloc | apply Kd.R_drewN | apply Kd.R_drew)); exact HO_7.out) hb); have n1_ := Aside0.mk (Kd.R_below (by (with_reducible repeat (first | apply Kd.R_alloc | apply Kd.R_drewN | apply Kd.R_drew)); exact HO216.out) hb); have n2_ := Aside0.mk (Kd.R_below (by (with_reducible repeat (first | apply Kd.R_alloc | apply Kd.R_drewN | apply Kd.R_drew)); exact HO225.out) hb); have n3_ := Aside0.mk (blk_below (g := gb197) (o := .cells #[.int .i64 a0_0, .int .i64 a0_1] 23 (0, 0)) (by (with_reducible repeat (first | refine blk_drewN ?_ _ | refine blk_drew ?_ | refine blk_alloc ?_ _)); exact BK197.out) hb); have n4_ := Aside0.mk (blk_below (g := gb206) (o := .cells #[.int .i64 t203, .int .i64 t204] 23 (0, 0)) (by (with_reducible repeat (first | refine blk_drewN ?_ _ | refine blk_drew ?_ | refine blk_alloc ?_ _)); exact BK206.out) hb); have n5_ := Aside0.mk (below_step (by repeat (first | (with_reducible first | exact HB.out | apply below_alloc | apply pw_below_drewN | apply below_drew1 | refine below_set ?_ GE197.out | refine below_set ?_ GE206.out) | exact HB.out)) hb); clear HO_7; clear HO216; clear HO225; clear BK197; clear BK206; clear HB; have HO_7 := n0_; have HO216 := n1_; have HO225 := n2_; have BK197 := n3_; have BK206 := n4_; have HB := n5_; clear n0_ n1_ n2_ n3_ n4_ n5_; (try clear hb); (try clear hb2); (try clear hk); (try clear hi)))
                      (try simp only [Act.put, List.setIfInBounds_toArray, List.set_cons_zero, List.set_cons_succ])
                      go_cut [89] (fun v89 wc => ∃ (kq : Nat) (x89_30 : Bool), v89 = .bool x89_30 ∧ Aside0 (oakumlaw11_ExtentWhole.j2 kq t205 x11_2 y223 x89_30 a0_0 a0_1 = some r) ∧ Aside0 (kq ≤ k2) ∧ Aside0 (Kd.R k23 23 wc w.heap.size (fun k_ => k_ ≠ gb197 ∧ k_ ≠ gb206) v224 y223) ∧ Aside0 (wc.heap[gb197]? = some (.cells #[.int .i64 a0_0, .int .i64 a0_1] 23 (0, 0))) ∧ Aside0 (wc.heap[gb206]? = some (.cells #[.int .i64 t203, .int .i64 t204] 23 (0, 0))) ∧ Aside0 (Below w.heap.size w wc))
                      case first =>
                        have H := HC31.out
                        clear HC31
                        by_cases c45 : t205 = 0
                        · rw [if_pos c45] at H
                          have c45b0 : (t205 == 0) = true := beq_iff_eq.mpr c45
                          have c45b1 : (t205 != 0) = false := bne_eq_false_iff_eq.mpr c45
                          clear c45
                          (first | rw [c45b0] | (simp only [i64_w, i32_w]; rw [c45b0]) | skip)
                          replace H := Option.bind_eq_some_iff.mp H
                          obtain ⟨t227, A460, H⟩ := H
                          replace H : (if t227 = true then ((extent_Free.f k2 a0_0 a0_1 y214).bind fun t228 => (oakumlaw11_ExtentWhole.j2 k2 t205 x11_2 y223 (t228 != (wrap64 (t226 - a2))) a0_0 a0_1)) else (oakumlaw11_ExtentWhole.j2 k2 t205 x11_2 y223 true a0_0 a0_1)) = some r := H
                          have A46 := Aside0.mk A460
                          clear A460
                          by_cases c47 : t227 = true
                          · subst c47
                            have H1 : ((extent_Free.f k2 a0_0 a0_1 y214).bind fun t228 => (oakumlaw11_ExtentWhole.j2 k2 t205 x11_2 y223 (t228 != (wrap64 (t226 - a2))) a0_0 a0_1)) = some r := by rw [if_pos rfl] at H; exact H
                            clear H
                            have H := H1
                            clear H1
                            replace H := Option.bind_eq_some_iff.mp H
                            obtain ⟨t228, A480, H⟩ := H
                            replace H : (oakumlaw11_ExtentWhole.j2 k2 t205 x11_2 y223 (t228 != (wrap64 (t226 - a2))) a0_0 a0_1) = some r := H
                            have A48 := Aside0.mk A480
                            clear A480
                            have H' := Aside0.mk H
                            clear H
                            have hnb49 := NB197_206.out
                            have hnc49 := NB206_197.out
                            have hcz50_0 : w44.cell? ⟨gb197, 0, none⟩ = some (.int .i64 a0_0) := (blk_cell BK197.out 0).trans rfl
                            have hcz50_1 : w44.cell? ⟨gb197, 1, none⟩ = some (.int .i64 a0_1) := (blk_cell BK197.out 1).trans rfl
                            have hfz50_0 := blk_frozen BK197.out 0
                            have hfz50_1 := blk_frozen BK197.out 1
                            obtain ⟨Ao51, co51, eo51⟩ := Kd.R_slice HO216.out
                            subst eo51
                            go_wp2_with (first | (go_at_call 12; (with_reducible refine (extent_Right.calls k2 a0_0 a0_1 _ _ y214 true _ ?side1 ?side2 A46.out).mono ?_); (case side1 => repeat (first | exact (Kd.R_reads' HO216.out).2.2 | (with_reducible refine Kd.C_alloc ?_ _) | (with_reducible refine Kd.C_drewN ?_ _) | (with_reducible refine Kd.C_drew ?_))); (case side2 => exact (Kd.R_reads' HO216.out).2.1); rintro e w52 ⟨rfl, hb⟩; have n0_ := Aside0.mk (Kd.R_below (by (with_reducible repeat (first | apply Kd.R_alloc | apply Kd.R_drewN | apply Kd.R_drew)); exact HO_7.out) hb); have n1_ := Aside0.mk (Kd.R_below (by (with_reducible repeat (first | apply Kd.R_alloc | apply Kd.R_drewN | apply Kd.R_drew)); exact HO216.out) hb); have n2_ := Aside0.mk (Kd.R_below (by (with_reducible repeat (first | apply Kd.R_alloc | apply Kd.R_drewN | apply Kd.R_drew)); exact HO225.out) hb); have n3_ := Aside0.mk (blk_below (g := gb197) (o := .cells #[.int .i64 a0_0, .int .i64 a0_1] 23 (0, 0)) (by (with_reducible repeat (first | refine blk_drewN ?_ _ | refine blk_drew ?_ | refine blk_alloc ?_ _)); exact BK197.out) hb); have n4_ := Aside0.mk (blk_below (g := gb206) (o := .cells #[.int .i64 t203, .int .i64 t204] 23 (0, 0)) (by (with_reducible repeat (first | refine blk_drewN ?_ _ | refine blk_drew ?_ | refine blk_alloc ?_ _)); exact BK206.out) hb); have n5_ := Aside0.mk (below_step (by repeat (first | (with_reducible first | exact HB.out | apply below_alloc | apply pw_below_drewN | apply below_drew1 | refine below_set ?_ GE197.out | refine below_set ?_ GE206.out) | exact HB.out)) hb); clear HO_7; clear HO216; clear HO225; clear BK197; clear BK206; clear HB; have HO_7 := n0_; have HO216 := n1_; have HO225 := n2_; have BK197 := n3_; have BK206 := n4_; have HB := n5_; clear n0_ n1_ n2_ n3_ n4_ n5_; (try clear hb); (try clear hb2); (try clear hk); (try clear hi); have hcz53_0 : w52.cell? ⟨gb197, 0, none⟩ = some (.int .i64 a0_0) := (blk_cell BK197.out 0).trans rfl; have hcz53_1 : w52.cell? ⟨gb197, 1, none⟩ = some (.int .i64 a0_1) := (blk_cell BK197.out 1).trans rfl; have hfz53_0 := blk_frozen BK197.out 0; have hfz53_1 := blk_frozen BK197.out 1) | (go_at_call 14; (with_reducible refine (extent_Free.calls k2 a0_0 a0_1 _ _ y214 t228 _ ?side1 ?side2 A48.out).mono ?_); (case side1 => repeat (first | exact (Kd.R_reads' HO216.out).2.2 | (with_reducible refine Kd.C_alloc ?_ _) | (with_reducible refine Kd.C_drewN ?_ _) | (with_reducible refine Kd.C_drew ?_))); (case side2 => exact (Kd.R_reads' HO216.out).2.1); rintro e w54 ⟨rfl, hb⟩; have n0_ := Aside0.mk (Kd.R_below (by (with_reducible repeat (first | apply Kd.R_alloc | apply Kd.R_drewN | apply Kd.R_drew)); exact HO_7.out) hb); have n1_ := Aside0.mk (Kd.R_below (by (with_reducible repeat (first | apply Kd.R_alloc | apply Kd.R_drewN | apply Kd.R_drew)); exact HO216.out) hb); have n2_ := Aside0.mk (Kd.R_below (by (with_reducible repeat (first | apply Kd.R_alloc | apply Kd.R_drewN | apply Kd.R_drew)); exact HO225.out) hb); have n3_ := Aside0.mk (blk_below (g := gb197) (o := .cells #[.int .i64 a0_0, .int .i64 a0_1] 23 (0, 0)) (by (with_reducible repeat (first | refine blk_drewN ?_ _ | refine blk_drew ?_ | refine blk_alloc ?_ _)); exact BK197.out) hb); have n4_ := Aside0.mk (blk_below (g := gb206) (o := .cells #[.int .i64 t203, .int .i64 t204] 23 (0, 0)) (by (with_reducible repeat (first | refine blk_drewN ?_ _ | refine blk_drew ?_ | refine blk_alloc ?_ _)); exact BK206.out) hb); have n5_ := Aside0.mk (below_step (by repeat (first | (with_reducible first | exact HB.out | apply below_alloc | apply pw_below_drewN | apply below_drew1 | refine below_set ?_ GE197.out | refine below_set ?_ GE206.out) | exact HB.out)) hb); clear HO_7; clear HO216; clear HO225; clear BK197; clear BK206; clear HB; have HO_7 := n0_; have HO216 := n1_; have HO225 := n2_; have BK197 := n3_; have BK206 := n4_; have HB := n5_; clear n0_ n1_ n2_ n3_ n4_ n5_; (try clear hb); (try clear hb2); (try clear hk); (try clear hi)))
                            go_meet
                            case rel => exact ⟨_, ((t228 != (wrap64 (t226 - a2)))), (by first | rfl | (simp; done) | (simp [*]; done)), H', ⟨by have := HJ4.out; have := HK2.out; first | omega | exact Nat.le_refl _⟩, ⟨by (with_reducible repeat (first | apply Kd.R_alloc | apply Kd.R_drewN | apply Kd.R_drew)); exact Kd.R_mono HO225.out (fun _ hk => ⟨hk.2.2.1, hk.2.2.2⟩)⟩, ⟨by (with_reducible repeat (first | refine blk_drewN ?_ _ | refine blk_drew ?_ | refine blk_alloc ?_ _)); exact BK197.out⟩, ⟨by (with_reducible repeat (first | refine blk_drewN ?_ _ | refine blk_drew ?_ | refine blk_alloc ?_ _)); exact BK206.out⟩, ⟨by repeat (first | (with_reducible first | exact HB.out | apply below_alloc | apply pw_below_drewN | apply below_drew1 | refine below_set ?_ GE197.out | refine below_set ?_ GE206.out) | exact HB.out)⟩⟩
                          · replace c47 := Bool.eq_false_iff.mpr c47
                            subst c47
                            have H1 : (oakumlaw11_ExtentWhole.j2 k2 t205 x11_2 y223 true a0_0 a0_1) = some r := by rw [if_neg (show ¬ (false = true) by decide)] at H; exact H
                            clear H
                            have H := H1
                            clear H1
                            have H' := Aside0.mk H
                            clear H
                            have hnb55 := NB197_206.out
                            have hnc55 := NB206_197.out
                            have hcz56_0 : w44.cell? ⟨gb197, 0, none⟩ = some (.int .i64 a0_0) := (blk_cell BK197.out 0).trans rfl
                            have hcz56_1 : w44.cell? ⟨gb197, 1, none⟩ = some (.int .i64 a0_1) := (blk_cell BK197.out 1).trans rfl
                            have hfz56_0 := blk_frozen BK197.out 0
                            have hfz56_1 := blk_frozen BK197.out 1
                            obtain ⟨Ao57, co57, eo57⟩ := Kd.R_slice HO216.out
                            subst eo57
                            go_wp2_with (first | (go_at_call 12; (with_reducible refine (extent_Right.calls k2 a0_0 a0_1 _ _ y214 false _ ?side1 ?side2 A46.out).mono ?_); (case side1 => repeat (first | exact (Kd.R_reads' HO216.out).2.2 | (with_reducible refine Kd.C_alloc ?_ _) | (with_reducible refine Kd.C_drewN ?_ _) | (with_reducible refine Kd.C_drew ?_))); (case side2 => exact (Kd.R_reads' HO216.out).2.1); rintro e w58 ⟨rfl, hb⟩; have n0_ := Aside0.mk (Kd.R_below (by (with_reducible repeat (first | apply Kd.R_alloc | apply Kd.R_drewN | apply Kd.R_drew)); exact HO_7.out) hb); have n1_ := Aside0.mk (Kd.R_below (by (with_reducible repeat (first | apply Kd.R_alloc | apply Kd.R_drewN | apply Kd.R_drew)); exact HO216.out) hb); have n2_ := Aside0.mk (Kd.R_below (by (with_reducible repeat (first | apply Kd.R_alloc | apply Kd.R_drewN | apply Kd.R_drew)); exact HO225.out) hb); have n3_ := Aside0.mk (blk_below (g := gb197) (o := .cells #[.int .i64 a0_0, .int .i64 a0_1] 23 (0, 0)) (by (with_reducible repeat (first | refine blk_drewN ?_ _ | refine blk_drew ?_ | refine blk_alloc ?_ _)); exact BK197.out) hb); have n4_ := Aside0.mk (blk_below (g := gb206) (o := .cells #[.int .i64 t203, .int .i64 t204] 23 (0, 0)) (by (with_reducible repeat (first | refine blk_drewN ?_ _ | refine blk_drew ?_ | refine blk_alloc ?_ _)); exact BK206.out) hb); have n5_ := Aside0.mk (below_step (by repeat (first | (with_reducible first | exact HB.out | apply below_alloc | apply pw_below_drewN | apply below_drew1 | refine below_set ?_ GE197.out | refine below_set ?_ GE206.out) | exact HB.out)) hb); clear HO_7; clear HO216; clear HO225; clear BK197; clear BK206; clear HB; have HO_7 := n0_; have HO216 := n1_; have HO225 := n2_; have BK197 := n3_; have BK206 := n4_; have HB := n5_; clear n0_ n1_ n2_ n3_ n4_ n5_; (try clear hb); (try clear hb2); (try clear hk); (try clear hi)))
                            go_meet
                            case rel => exact ⟨_, (true), (by first | rfl | (simp; done) | (simp [*]; done)), H', ⟨by have := HJ4.out; have := HK2.out; first | omega | exact Nat.le_refl _⟩, ⟨by (with_reducible repeat (first | apply Kd.R_alloc | apply Kd.R_drewN | apply Kd.R_drew)); exact Kd.R_mono HO225.out (fun _ hk => ⟨hk.2.2.1, hk.2.2.2⟩)⟩, ⟨by (with_reducible repeat (first | refine blk_drewN ?_ _ | refine blk_drew ?_ | refine blk_alloc ?_ _)); exact BK197.out⟩, ⟨by (with_reducible repeat (first | refine blk_drewN ?_ _ | refine blk_drew ?_ | refine blk_alloc ?_ _)); exact BK206.out⟩, ⟨by repeat (first | (with_reducible first | exact HB.out | apply below_alloc | apply pw_below_drewN | apply below_drew1 | refine below_set ?_ GE197.out | refine below_set ?_ GE206.out) | exact HB.out)⟩⟩
                        · rw [if_neg c45] at H
                          have c45b0 : (t205 == 0) = false := beq_eq_false_iff_ne.mpr c45
                          have c45b1 : (t205 != 0) = true := bne_iff_ne.mpr c45
                          (first | rw [c45b0] | (simp only [i64_w, i32_w]; rw [c45b0]) | skip)
                          have H' := Aside0.mk H
                          clear H
                          go_wp2
                          go_meet
                          case rel => exact ⟨_, (false), (by first | rfl | (simp; done) | (simp [*]; done)), H', ⟨by have := HJ4.out; have := HK2.out; first | omega | exact Nat.le_refl _⟩, ⟨by (with_reducible repeat (first | apply Kd.R_alloc | apply Kd.R_drewN | apply Kd.R_drew)); exact Kd.R_mono HO225.out (fun _ hk => ⟨hk.2.2.1, hk.2.2.2⟩)⟩, ⟨by (with_reducible repeat (first | refine blk_drewN ?_ _ | refine blk_drew ?_ | refine blk_alloc ?_ _)); exact BK197.out⟩, ⟨by (with_reducible repeat (first | refine blk_drewN ?_ _ | refine blk_drew ?_ | refine blk_alloc ?_ _)); exact BK206.out⟩, ⟨by repeat (first | (with_reducible first | exact HB.out | apply below_alloc | apply pw_below_drewN | apply below_drew1 | refine below_set ?_ GE197.out | refine below_set ?_ GE206.out) | exact HB.out)⟩⟩
                      case rest =>
                        clear HC31
                        try clear c1
                        try clear c2
                        try clear p2
                        try clear q2
                        try clear hx2
                        try clear c3
                        try clear c4
                        try clear c5
                        try clear c6
                        try clear p6
                        try clear c7
                        try clear c9
                        try clear c9b0
                        try clear c9b1
                        try clear c10
                        try clear c14
                        try clear c17
                        try clear c19
                        try clear c19b0
                        try clear c20
                        try clear p20
                        try clear q20
                        try clear hx20
                        try clear c22
                        try clear c22b0
                        try clear c23
                        try clear c23b0
                        try clear c26
                        try clear c27
                        try clear c28
                        try clear c29
                        try clear c36
                        try clear c45
                        try clear c45b0
                        try clear c45b1
                        try clear c47
                        try clear c49
                        try clear c55
                        try clear hcz14_0
                        try clear hcz14_1
                        try clear hcz18_0
                        try clear hcz18_1
                        try clear hcz37_0
                        try clear hcz37_1
                        try clear hcz43_0
                        try clear hcz43_1
                        try clear hcz50_0
                        try clear hcz50_1
                        try clear hcz53_0
                        try clear hcz53_1
                        try clear hcz56_0
                        try clear hcz56_1
                        try clear hcz7_0
                        try clear hcz7_1
                        try clear hfz14_0
                        try clear hfz14_1
                        try clear hfz18_0
                        try clear hfz18_1
                        try clear hfz37_0
                        try clear hfz37_1
                        try clear hfz43_0
                        try clear hfz43_1
                        try clear hfz50_0
                        try clear hfz50_1
                        try clear hfz53_0
                        try clear hfz53_1
                        try clear hfz56_0
                        try clear hfz56_1
                        try clear hfz7_0
                        try clear hfz7_1
                        try clear hx207_0
                        try clear hx207_1
                        try clear p2
                        try clear p207
                        try clear q207
                        obtain ⟨kq, x89_30, rfl, HA, HJ30, HO_14, BK197, BK206, HB⟩ := hcut
                        cases kq with
                        | zero => exact absurd HA.out (by simp [oakumlaw11_ExtentWhole.j2])
                        | succ kj30 =>
                          have H := HA.out
                          clear HA
                          simp only [oakumlaw11_ExtentWhole.j2] at H
                          by_cases c59 : x89_30 = true
                          · subst c59
                            have H1 : (none) = some r := by rw [if_pos rfl] at H; exact H
                            clear H
                            have H := H1
                            clear H1
                            exact absurd H (by simp)
                          · replace c59 := Bool.eq_false_iff.mpr c59
                            subst c59
                            have H1 : ((oakumlaw11_alive.f kj30).bind fun t229 => (if t229 = true then (if ((t205 == 0) == x11_2) = true then ((extent_Right.f kj30 a0_0 a0_1 y223).bind fun t230 => (if t230 = true then ((extent_Free.f kj30 a0_0 a0_1 y223).bind fun t231 => (some (t231 == 0))) else (none))) else (none)) else (none))) = some r := by rw [if_neg (show ¬ (false = true) by decide)] at H; exact H
                            clear H
                            have H := H1
                            clear H1
                            replace H := Option.bind_eq_some_iff.mp H
                            obtain ⟨t229, A600, H⟩ := H
                            replace H : (if t229 = true then (if ((t205 == 0) == x11_2) = true then ((extent_Right.f kj30 a0_0 a0_1 y223).bind fun t230 => (if t230 = true then ((extent_Free.f kj30 a0_0 a0_1 y223).bind fun t231 => (some (t231 == 0))) else (none))) else (none)) else (none)) = some r := H
                            have A60 := Aside0.mk A600
                            clear A600
                            by_cases c61 : t229 = true
                            · subst c61
                              have H1 : (if ((t205 == 0) == x11_2) = true then ((extent_Right.f kj30 a0_0 a0_1 y223).bind fun t230 => (if t230 = true then ((extent_Free.f kj30 a0_0 a0_1 y223).bind fun t231 => (some (t231 == 0))) else (none))) else (none)) = some r := by rw [if_pos rfl] at H; exact H
                              clear H
                              have H := H1
                              clear H1
                              by_cases c62 : ((t205 == 0) == x11_2) = true
                              · rw [if_pos c62] at H
                                have c62b0 : ((t205 == 0) == x11_2) = true := c62
                                (try (have c62b1 : decide ((t205 == 0) = x11_2) = true := by simpa using c62))
                                (try (have c62b2 : ((t205 == 0) == x11_2) = true := by simpa using c62))
                                clear c62
                                replace H := Option.bind_eq_some_iff.mp H
                                obtain ⟨t230, A630, H⟩ := H
                                replace H : (if t230 = true then ((extent_Free.f kj30 a0_0 a0_1 y223).bind fun t231 => (some (t231 == 0))) else (none)) = some r := H
                                have A63 := Aside0.mk A630
                                clear A630
                                by_cases c64 : t230 = true
                                · subst c64
                                  have H1 : ((extent_Free.f kj30 a0_0 a0_1 y223).bind fun t231 => (some (t231 == 0))) = some r := by rw [if_pos rfl] at H; exact H
                                  clear H
                                  have H := H1
                                  clear H1
                                  replace H := Option.bind_eq_some_iff.mp H
                                  obtain ⟨t231, A650, H⟩ := H
                                  replace H : (some (t231 == 0)) = some r := H
                                  have A65 := Aside0.mk A650
                                  clear A650
                                  obtain rfl := Option.some.inj H
                                  go_wp2_with (first | ((with_reducible refine gate_callee (f := 6) rfl ?_); refine goesL_ (some 90) rfl rfl Try.func6 (by kernel_rfl) rfl #[] rfl (by (try simp only [List.map_toArray, List.map_cons, List.map_nil]); first | done | rfl | (simp only [List.length_drop, List.length_take]; rfl)) ?_; (with_reducible refine (oakumlaw11_alive.calls kj30  true _ A60.out).mono ?_); rintro e w66 ⟨rfl, hb⟩; refine ⟨_, rfl, ?_⟩; have n0_ := Aside0.mk (Kd.R_below (by (with_reducible repeat (first | apply Kd.R_alloc | apply Kd.R_drewN | apply Kd.R_drew)); exact HO_14.out) hb); have n1_ := Aside0.mk (blk_below (g := gb197) (o := .cells #[.int .i64 a0_0, .int .i64 a0_1] 23 (0, 0)) (by (with_reducible repeat (first | refine blk_drewN ?_ _ | refine blk_drew ?_ | refine blk_alloc ?_ _)); exact BK197.out) hb); have n2_ := Aside0.mk (blk_below (g := gb206) (o := .cells #[.int .i64 t203, .int .i64 t204] 23 (0, 0)) (by (with_reducible repeat (first | refine blk_drewN ?_ _ | refine blk_drew ?_ | refine blk_alloc ?_ _)); exact BK206.out) hb); have n3_ := Aside0.mk (below_step (by repeat (first | (with_reducible first | exact HB.out | apply below_alloc | apply pw_below_drewN | apply below_drew1 | refine below_set ?_ GE197.out | refine below_set ?_ GE206.out) | exact HB.out)) hb); clear HO_14; clear BK197; clear BK206; clear HB; have HO_14 := n0_; have BK197 := n1_; have BK206 := n2_; have HB := n3_; clear n0_ n1_ n2_ n3_; (try clear hb); (try clear hb2); (try clear hk); (try clear hi); have hnb67 := NB197_206.out; have hnc67 := NB206_197.out; have hcz68_0 : w66.cell? ⟨gb197, 0, none⟩ = some (.int .i64 a0_0) := (blk_cell BK197.out 0).trans rfl; have hcz68_1 : w66.cell? ⟨gb197, 1, none⟩ = some (.int .i64 a0_1) := (blk_cell BK197.out 1).trans rfl; have hfz68_0 := blk_frozen BK197.out 0; have hfz68_1 := blk_frozen BK197.out 1; obtain ⟨Ao69, co69, eo69⟩ := Kd.R_slice HO_14.out; subst eo69) | (go_at_call 12; (with_reducible refine (extent_Right.calls kj30 a0_0 a0_1 _ _ y223 true _ ?side1 ?side2 A63.out).mono ?_); (case side1 => repeat (first | exact (Kd.R_reads' HO_14.out).2.2 | (with_reducible refine Kd.C_alloc ?_ _) | (with_reducible refine Kd.C_drewN ?_ _) | (with_reducible refine Kd.C_drew ?_))); (case side2 => exact (Kd.R_reads' HO_14.out).2.1); rintro e w70 ⟨rfl, hb⟩; have n0_ := Aside0.mk (Kd.R_below (by (with_reducible repeat (first | apply Kd.R_alloc | apply Kd.R_drewN | apply Kd.R_drew)); exact HO_14.out) hb); have n1_ := Aside0.mk (blk_below (g := gb197) (o := .cells #[.int .i64 a0_0, .int .i64 a0_1] 23 (0, 0)) (by (with_reducible repeat (first | refine blk_drewN ?_ _ | refine blk_drew ?_ | refine blk_alloc ?_ _)); exact BK197.out) hb); have n2_ := Aside0.mk (blk_below (g := gb206) (o := .cells #[.int .i64 t203, .int .i64 t204] 23 (0, 0)) (by (with_reducible repeat (first | refine blk_drewN ?_ _ | refine blk_drew ?_ | refine blk_alloc ?_ _)); exact BK206.out) hb); have n3_ := Aside0.mk (below_step (by repeat (first | (with_reducible first | exact HB.out | apply below_alloc | apply pw_below_drewN | apply below_drew1 | refine below_set ?_ GE197.out | refine below_set ?_ GE206.out) | exact HB.out)) hb); clear HO_14; clear BK197; clear BK206; clear HB; have HO_14 := n0_; have BK197 := n1_; have BK206 := n2_; have HB := n3_; clear n0_ n1_ n2_ n3_; (try clear hb); (try clear hb2); (try clear hk); (try clear hi); have hcz71_0 : w70.cell? ⟨gb197, 0, none⟩ = some (.int .i64 a0_0) := (blk_cell BK197.out 0).trans rfl; have hcz71_1 : w70.cell? ⟨gb197, 1, none⟩ = some (.int .i64 a0_1) := (blk_cell BK197.out 1).trans rfl; have hfz71_0 := blk_frozen BK197.out 0; have hfz71_1 := blk_frozen BK197.out 1) | (go_at_call 14; (with_reducible refine (extent_Free.calls kj30 a0_0 a0_1 _ _ y223 t231 _ ?side1 ?side2 A65.out).mono ?_); (case side1 => repeat (first | exact (Kd.R_reads' HO_14.out).2.2 | (with_reducible refine Kd.C_alloc ?_ _) | (with_reducible refine Kd.C_drewN ?_ _) | (with_reducible refine Kd.C_drew ?_))); (case side2 => exact (Kd.R_reads' HO_14.out).2.1); rintro e w72 ⟨rfl, hb⟩; have n0_ := Aside0.mk (Kd.R_below (by (with_reducible repeat (first | apply Kd.R_alloc | apply Kd.R_drewN | apply Kd.R_drew)); exact HO_14.out) hb); have n1_ := Aside0.mk (blk_below (g := gb197) (o := .cells #[.int .i64 a0_0, .int .i64 a0_1] 23 (0, 0)) (by (with_reducible repeat (first | refine blk_drewN ?_ _ | refine blk_drew ?_ | refine blk_alloc ?_ _)); exact BK197.out) hb); have n2_ := Aside0.mk (blk_below (g := gb206) (o := .cells #[.int .i64 t203, .int .i64 t204] 23 (0, 0)) (by (with_reducible repeat (first | refine blk_drewN ?_ _ | refine blk_drew ?_ | refine blk_alloc ?_ _)); exact BK206.out) hb); have n3_ := Aside0.mk (below_step (by repeat (first | (with_reducible first | exact HB.out | apply below_alloc | apply pw_below_drewN | apply below_drew1 | refine below_set ?_ GE197.out | refine below_set ?_ GE206.out) | exact HB.out)) hb); clear HO_14; clear BK197; clear BK206; clear HB; have HO_14 := n0_; have BK197 := n1_; have BK206 := n2_; have HB := n3_; clear n0_ n1_ n2_ n3_; (try clear hb); (try clear hb2); (try clear hk); (try clear hi)))
                                  go_ret
                                  exact ⟨by first | rfl | (simp [errW_none, errW_some] <;> rfl) | (simp [*, errW_none, errW_some] <;> rfl), by repeat (first | (with_reducible first | exact HB.out | apply below_alloc | apply pw_below_drewN | apply below_drew1 | refine below_set ?_ GE197.out | refine below_set ?_ GE206.out) | exact HB.out)⟩
                                · replace c64 := Bool.eq_false_iff.mpr c64
                                  subst c64
                                  have H1 : (none) = some r := by rw [if_neg (show ¬ (false = true) by decide)] at H; exact H
                                  clear H
                                  have H := H1
                                  clear H1
                                  exact absurd H (by simp)
                              · rw [if_neg c62] at H
                                exact absurd H (by simp)
                            · replace c61 := Bool.eq_false_iff.mpr c61
                              subst c61
                              have H1 : (none) = some r := by rw [if_neg (show ¬ (false = true) by decide)] at H; exact H
                              clear H
                              have H := H1
                              clear H1
                              exact absurd H (by simp)
                    · rw [if_neg c29] at H
                      exact absurd H (by simp)
                  · rw [if_neg c28] at H
                    exact absurd H (by simp)
                · rw [if_neg c27] at H
                  exact absurd H (by simp)
              · rw [if_neg c26] at H
                exact absurd H (by simp)

end Go.Proofs.Ytflmlejgahnppaa.PExt
