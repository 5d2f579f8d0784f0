/- Written by a program of this session out of the translation: the kit's print, run from a copy in which some functions are given by hand. -/
import Derived.Test.YtflmlejgahnppaaPExtx0
import Derived.Test.YtflmlejgahnppaaPExtx1
import Derived.Test.YtflmlejgahnppaaPExtx3
import Derived.Test.YtflmlejgahnppaaPExtx5
import Derived.Test.YtflmlejgahnppaaPExtx10
import Derived.Test.YtflmlejgahnppaaFit
import Derived.Test.YtflmlejgahnppaaGaps
namespace Go.Proofs.Ytflmlejgahnppaa.PExt
open Go.RowKit Go.Proofs.YtflmlejgahnppaaW.PrintWords Go.Proofs.YtflmlejgahnppaaW.PrintLast Go.Proofs.YtflmlejgahnppaaW.PrintMore
attribute [local go_sem] max2_int min2_int max_two min_two max_three min_three max_four min_four   -- for this text's walks alone
set_option linter.unusedVariables false
set_option linter.unusedSimpArgs false

attribute [local go_sem high] eqA23
/-! ### oakumlaw11_ExtentOrder: function 5 -/
mutual
def oakumlaw11_ExtentOrder.l0 : Nat → List (S23) → Int → List (S23) → Int → Int → Int → Option (Bool)
  | 0, _, _, _, _, _, _ => none
  | k + 1, x1, x2, x7, x8, x233000, x233001 => if x8 ≥ 0 then (if 0 ≤ x8 then (if x8 < (x1.length : Int) then (if x7.length < 8796093022208 then (oakumlaw11_ExtentOrder.l0 k x1 x2 (x7 ++ [(⟨(rd_T23 x1 x8).f0, (rd_T23 x1 x8).f1⟩ : S23)]) (wrap64 (x8 - 1)) x233000 x233001) else (none)) else (none)) else (none)) else ((extent_Gaps.f k x233000 x233001 x1).bind fun bt238 => ((extent_Gaps.f k x233000 x233001 x7).bind fun bt242 => ((extent_Fit.f k x233000 x233001 x2 x1).bind fun bt246 => ((extent_Fit.f k x233000 x233001 x2 x7).bind fun bt250 => ((oakumlaw11_same.f k bt238.1 bt242.1).bind fun t254 => (if (x1.length : Int) > 0 then ((some (([] : List (S23)) : List (S23))).bind fun y255 => (if y255.length + x1.length < 8796093022208 then ((some (y255 ++ x1 : List (S23))).bind fun y258 => (if 0 < (x1.length : Int) then (if y258.length < 8796093022208 then ((extent_Right.f k x233000 x233001 (y258 ++ [(⟨(rd_T23 x1 0).f0, (rd_T23 x1 0).f1⟩ : S23)])).bind fun t265 => (if t265 = true then (none) else (oakumlaw11_ExtentOrder.j1 k x1 x7 bt238.2 bt242.2 bt246.2.2 bt250.2.2 t254 x233000 x233001 bt246.1 bt246.2.1 bt250.1 bt250.2.1))) else (none)) else (none))) else (none))) else (oakumlaw11_ExtentOrder.j1 k x1 x7 bt238.2 bt242.2 bt246.2.2 bt250.2.2 t254 x233000 x233001 bt246.1 bt246.2.1 bt250.1 bt250.2.1)))))))
def oakumlaw11_ExtentOrder.j1 : Nat → List (S23) → List (S23) → Int → Int → Int → Int → Bool → Int → Int → Int → Int → Int → Int → Option (Bool)
  | 0, _, _, _, _, _, _, _, _, _, _, _, _, _ => none
  | k + 1, x1, x7, x10, x12, x14, x16, x17, x233000, x233001, x250000, x250001, x254000, x254001 => (oakumlaw11_alive.f k).bind fun t266 => (if t266 = true then (if x17 = true then (if x10 = x12 then (if (x250000 == x254000 && (x250001 == x254001)) = true then (if x14 = x16 then ((extent_Right.f k x233000 x233001 x1).bind fun t267 => ((extent_Right.f k x233000 x233001 x7).bind fun t268 => (some (t267 == t268)))) else (none)) else (none)) else (none)) else (none)) else (none))
end
def oakumlaw11_ExtentOrder.f (k : Nat) (a0_0 : Int) (a0_1 : Int) (l1 : List (S23)) (a2 : Int) : Option (Bool) := if (l1.length : Int) > 20 then ((oakumlaw11_alive.f k).bind fun t233 => (some t233)) else (oakumlaw11_ExtentOrder.l0 k l1 a2 ([] : List (S23)) (wrap64 ((l1.length : Int) - 1)) a0_0 a0_1)
theorem oakumlaw11_ExtentOrder.mono_l : ∀ k, (∀ y0 y1 y2 y3 y4 y5, LeO (oakumlaw11_ExtentOrder.l0 k y0 y1 y2 y3 y4 y5) (oakumlaw11_ExtentOrder.l0 (k + 1) y0 y1 y2 y3 y4 y5)) ∧ (∀ y0 y1 y2 y3 y4 y5 y6 y7 y8 y9 y10 y11 y12, LeO (oakumlaw11_ExtentOrder.j1 k y0 y1 y2 y3 y4 y5 y6 y7 y8 y9 y10 y11 y12) (oakumlaw11_ExtentOrder.j1 (k + 1) y0 y1 y2 y3 y4 y5 y6 y7 y8 y9 y10 y11 y12))
  | 0 => ⟨fun _ _ _ _ _ _ r h => by simp [oakumlaw11_ExtentOrder.l0] at h, fun _ _ _ _ _ _ _ _ _ _ _ _ _ r h => by simp [oakumlaw11_ExtentOrder.j1] at h⟩
  | k + 1 => by
    obtain ⟨ih0, ih1⟩ := oakumlaw11_ExtentOrder.mono_l k
    refine ⟨?_, ?_⟩
    · intro y0 y1 y2 y3 y4 y5
      unfold oakumlaw11_ExtentOrder.l0
      repeat' first
      | (with_reducible exact ih0 _ _ _ _ _ _)
      | (with_reducible exact ih1 _ _ _ _ _ _ _ _ _ _ _ _ _)
      | (with_reducible exact extent_Fit.mono _ _ _ _ _)
      | (with_reducible exact extent_Gaps.mono _ _ _ _)
      | (with_reducible exact extent_Right.mono _ _ _ _)
      | (with_reducible exact oakumlaw11_alive.mono _)
      | (with_reducible exact oakumlaw11_same.mono _ _ _)
      | (with_reducible exact LeO.refl _)
      | (with_reducible exact LeO.none _)
      | (with_reducible refine LeO.ite ?_ ?_)
      | (with_reducible refine LeO.bind ?_ (fun _ => ?_))
      | exact ih0 _ _ _ _ _ _
      | exact ih1 _ _ _ _ _ _ _ _ _ _ _ _ _
      | exact extent_Fit.mono _ _ _ _ _
      | exact extent_Gaps.mono _ _ _ _
      | exact extent_Right.mono _ _ _ _
      | exact oakumlaw11_alive.mono _
      | exact oakumlaw11_same.mono _ _ _
      | exact LeO.none _
      | refine LeO.ite ?_ ?_
      | refine LeO.bind ?_ (fun _ => ?_)
    · intro y0 y1 y2 y3 y4 y5 y6 y7 y8 y9 y10 y11 y12
      unfold oakumlaw11_ExtentOrder.j1
      repeat' first
      | (with_reducible exact ih0 _ _ _ _ _ _)
      | (with_reducible exact ih1 _ _ _ _ _ _ _ _ _ _ _ _ _)
      | (with_reducible exact extent_Fit.mono _ _ _ _ _)
      | (with_reducible exact extent_Gaps.mono _ _ _ _)
      | (with_reducible exact extent_Right.mono _ _ _ _)
      | (with_reducible exact oakumlaw11_alive.mono _)
      | (with_reducible exact oakumlaw11_same.mono _ _ _)
      | (with_reducible exact LeO.refl _)
      | (with_reducible exact LeO.none _)
      | (with_reducible refine LeO.ite ?_ ?_)
      | (with_reducible refine LeO.bind ?_ (fun _ => ?_))
      | exact ih0 _ _ _ _ _ _
      | exact ih1 _ _ _ _ _ _ _ _ _ _ _ _ _
      | exact extent_Fit.mono _ _ _ _ _
      | exact extent_Gaps.mono _ _ _ _
      | exact extent_Right.mono _ _ _ _
      | exact oakumlaw11_alive.mono _
      | exact oakumlaw11_same.mono _ _ _
      | exact LeO.none _
      | refine LeO.ite ?_ ?_
      | refine LeO.bind ?_ (fun _ => ?_)
theorem oakumlaw11_ExtentOrder.mono : ∀ a0 a1 a2 a3 k, LeO (oakumlaw11_ExtentOrder.f k a0 a1 a2 a3) (oakumlaw11_ExtentOrder.f (k + 1) a0 a1 a2 a3) := by
  intro a0 a1 a2 a3 k
  obtain ⟨ih0, ih1⟩ := oakumlaw11_ExtentOrder.mono_l k
  unfold oakumlaw11_ExtentOrder.f
  repeat' first
      | (with_reducible exact ih0 _ _ _ _ _ _)
      | (with_reducible exact ih1 _ _ _ _ _ _ _ _ _ _ _ _ _)
      | (with_reducible exact extent_Fit.mono _ _ _ _ _)
      | (with_reducible exact extent_Gaps.mono _ _ _ _)
      | (with_reducible exact extent_Right.mono _ _ _ _)
      | (with_reducible exact oakumlaw11_alive.mono _)
      | (with_reducible exact oakumlaw11_same.mono _ _ _)
      | (with_reducible exact LeO.refl _)
      | (with_reducible exact LeO.none _)
      | (with_reducible refine LeO.ite ?_ ?_)
      | (with_reducible refine LeO.bind ?_ (fun _ => ?_))
      | exact ih0 _ _ _ _ _ _
      | exact ih1 _ _ _ _ _ _ _ _ _ _ _ _ _
      | exact extent_Fit.mono _ _ _ _ _
      | exact extent_Gaps.mono _ _ _ _
      | exact extent_Right.mono _ _ _ _
      | exact oakumlaw11_alive.mono _
      | exact oakumlaw11_same.mono _ _ _
      | exact LeO.none _
      | refine LeO.ite ?_ ?_
      | refine LeO.bind ?_ (fun _ => ?_)
def oakumlaw11_ExtentOrder.T18 : Bool × List (List Nat × List Nat) := (true, [([], []), ([0, 0], [0]), ([1], [1]), ([1, 2], [1, 2]), ([3, 1], [3]), ([4], [4]), ([4], [4]), ([5, 6, 4], [4, 5, 6]), ([4, 7], [4, 7]), ([8, 4], [8]), ([9], [9]), ([9], [9]), ([10, 11, 9], [9, 10, 11]), ([9, 12], [9, 12]), ([13, 9], [13]), ([14], [14]), ([14], [14]), ([15, 16, 14], [14, 15, 16]), ([14, 17], [14, 17]), ([18, 14], [18]), ([19], [19]), ([19], [19]), ([20, 21, 19, 19], [19, 20, 21]), ([19], [19]), ([19], [19]), ([23, 24, 22, 19], [19, 23, 24]), ([22, 25, 19], [19, 22, 25]), ([19, 26], [19, 26]), ([27, 25, 0, 1, 2, 3, 4, 5, 6, 7, 8, 9, 10, 11, 12, 13, 14, 15, 16, 17, 18, 19, 20, 21, 22, 23, 24, 25, 26, 27], [27])])
def oakumlaw11_ExtentOrder.B18 : List Nat := [0, 1, 3, 7, 15, 31, 31, 127, 255, 511, 1023, 1023, 4095, 8191, 16383, 32767, 32767, 131071, 262143, 524287, 1048575, 1048575, 4194303, 1048575, 1048575, 33554431, 67108863, 134217727, 268435455]
theorem oakumlaw11_ExtentOrder.tab18 : rtab .any (opsOf Try.f5 18) = oakumlaw11_ExtentOrder.T18 := by kernel_rfl
theorem oakumlaw11_ExtentOrder.bits18 : waitsOk oakumlaw11_ExtentOrder.T18.2 oakumlaw11_ExtentOrder.B18 = true := by kernel_rfl
set_option maxHeartbeats 8000000 in
set_option maxRecDepth 100000 in
theorem oakumlaw11_ExtentOrder.calls (k : Nat) (a0_0 : Int) (a0_1 : Int) (A1 : Option Addr) (c1 : Nat) (l1 : List (S23)) (a2 : Int) (r : Bool) (w : World) (hr1 : Kd.C k23 w A1 l1.length l1) (hc1 : l1.length ≤ c1) (h : oakumlaw11_ExtentOrder.f k a0_0 a0_1 l1 a2 = some r) :
    Calls Try.prog 5 #[.agg #[.int .i64 a0_0, .int .i64 a0_1], .slice A1 l1.length c1, .int .i64 a2] w fun e w' => e = .returned (.bool r) ∧ Below w.heap.size w w' := by
  have hu23 := Try.underlying23
  have HR1 := Aside0.mk hr1
  have HC1 := Aside0.mk hc1
  clear hr1 hc1
  have HB := Aside0.mk (Below.refl w.heap.size w)
  have H : (if (l1.length : Int) > 20 then ((oakumlaw11_alive.f k).bind fun t233 => (some t233)) else (oakumlaw11_ExtentOrder.l0 k l1 a2 ([] : List (S23)) (wrap64 ((l1.length : Int) - 1)) a0_0 a0_1)) = some r := h
  clear h
  by_cases c4 : (l1.length : Int) > 20
  · rw [if_pos c4] at H
    have c4b0 : decide (20 < (l1.length : Int)) = true := decide_eq_true c4
    have c4b1 : decide (20 < l1.length) = true := decide_eq_true (by omega)
    clear c4
    replace H := Option.bind_eq_some_iff.mp H
    obtain ⟨t233, A50, H⟩ := H
    replace H : (some t233) = some r := H
    have A5 := Aside0.mk A50
    clear A50
    obtain rfl := Option.some.inj H
    go_enter Try.func5, Try.ntmps5
    go_wp2_with (first | ((with_reducible refine gate_dst (N := 3) rfl ?_); refine box_event ?hg (N := 3) ?hd (cs := #[.int .i64 a0_0, .int .i64 a0_1]) (t := 23) ?hr ?_; (case hd => rfl); (case hg => rfl); (case hr => first | (go_simp; done) | (go_simp; rfl)); intro gb232 hg w6 hbox hb; have n0_ := Aside0.mk (below_step (by repeat (first | (with_reducible first | exact HB.out | apply below_alloc | apply pw_below_drewN | apply below_drew1) | exact HB.out)) hb); have n1_ := Aside0.mk (hbox); have n2_ := Aside0.mk ((by rw [hg]; exact (below_size (by repeat (first | (with_reducible first | exact HB.out | apply below_alloc | apply pw_below_drewN | apply below_drew1) | exact HB.out))) : w.heap.size ≤ gb232)); have n3_ := Aside0.mk ((by rw [hg]; exact (below_size (by repeat (first | (with_reducible first | exact HB.out | apply below_alloc | apply pw_below_drewN | apply below_drew1) | exact HB.out))) : w.heap.size ≤ gb232)); clear HB; have HB := n0_; have BK232 := n1_; have GW232 := n2_; have GE232 := n3_; clear n0_ n1_ n2_ n3_; clear hb hbox hg) | ((with_reducible refine gate_callee (f := 6) rfl ?_); refine goesL_ (some 22) rfl rfl Try.func6 (by kernel_rfl) rfl #[] rfl (by (try simp only [List.map_toArray, List.map_cons, List.map_nil]); first | done | rfl | (simp only [List.length_drop, List.length_take]; rfl)) ?_; (with_reducible refine (oakumlaw11_alive.calls k  t233 _ A5.out).mono ?_); rintro e w7 ⟨rfl, hb⟩; refine ⟨_, rfl, ?_⟩; have n0_ := Aside0.mk (blk_below (g := gb232) (o := .cells #[.int .i64 a0_0, .int .i64 a0_1] 23 (0, 0)) (by (with_reducible repeat (first | refine blk_drewN ?_ _ | refine blk_drew ?_ | refine blk_alloc ?_ _)); exact BK232.out) hb); have n1_ := Aside0.mk (below_step (by repeat (first | (with_reducible first | exact HB.out | apply below_alloc | apply pw_below_drewN | apply below_drew1 | refine below_set ?_ GE232.out) | exact HB.out)) hb); clear BK232; clear HB; have BK232 := n0_; have HB := n1_; clear n0_ n1_; (try clear hb); (try clear hb2); (try clear hk); (try clear hi)))
    go_ret
    exact ⟨by first | rfl | (simp [errW_none, errW_some] <;> rfl) | (simp [*, errW_none, errW_some] <;> rfl), by repeat (first | (with_reducible first | exact HB.out | apply below_alloc | apply pw_below_drewN | apply below_drew1 | refine below_set ?_ GE232.out) | exact HB.out)⟩
  · rw [if_neg c4] at H
    have c4b0 : decide (20 < (l1.length : Int)) = false := decide_eq_false c4
    have c4b1 : decide (20 < l1.length) = false := decide_eq_false (by omega)
    clear c4
    have H' := Aside0.mk H
    clear H
    go_enter Try.func5, Try.ntmps5
    go_wp2_with (first | ((with_reducible refine gate_dst (N := 3) rfl ?_); refine box_event ?hg (N := 3) ?hd (cs := #[.int .i64 a0_0, .int .i64 a0_1]) (t := 23) ?hr ?_; (case hd => rfl); (case hg => rfl); (case hr => first | (go_simp; done) | (go_simp; rfl)); intro gb232 hg w8 hbox hb; have n0_ := Aside0.mk (below_step (by repeat (first | (with_reducible first | exact HB.out | apply below_alloc | apply pw_below_drewN | apply below_drew1) | exact HB.out)) hb); have n1_ := Aside0.mk (hbox); have n2_ := Aside0.mk ((by rw [hg]; exact (below_size (by repeat (first | (with_reducible first | exact HB.out | apply below_alloc | apply pw_below_drewN | apply below_drew1) | exact HB.out))) : w.heap.size ≤ gb232)); have n3_ := Aside0.mk ((by rw [hg]; exact (below_size (by repeat (first | (with_reducible first | exact HB.out | apply below_alloc | apply pw_below_drewN | apply below_drew1) | exact HB.out))) : w.heap.size ≤ gb232)); clear HB; have HB := n0_; have BK232 := n1_; have GW232 := n2_; have GE232 := n3_; clear n0_ n1_ n2_ n3_; clear hb hbox hg))
    go_loopg [7, 8] k (fun kq v7 v8 w' => ∃ (x7_1 : List (S23)) (x8_1 : Int), v8 = .int .i64 x8_1 ∧ Aside0 (oakumlaw11_ExtentOrder.l0 kq l1 a2 x7_1 x8_1 a0_0 a0_1 = some r) ∧ Aside0 (kq ≤ k) ∧ Aside0 (Kd.R k23 23 w' w.heap.size (fun k_ => k_ ≠ gb232) v7 x7_1) ∧ Aside0 (w'.heap[gb232]? = some (.cells #[.int .i64 a0_0, .int .i64 a0_1] 23 (0, 0))) ∧ Aside0 (Below w.heap.size w w'))
    case atStart => exact ⟨(([] : List (S23))), (wrap64 ((l1.length : Int) - 1)), (by first | rfl | (simp; done) | (simp [*]; done)), H', ⟨Nat.le_refl _⟩, ⟨by first | exact Kd.R_nil _ _ _ _ _ | exact Kd.N_nil _ _ _ _ _ | exact Kd.V_nil _ _ _ _ _ | exact Kd.Q_nil _ _ _ _ _ | exact Kd.S_nil _ _ _ _ _⟩, ⟨by (with_reducible repeat (first | refine blk_drewN ?_ _ | refine blk_drew ?_ | refine blk_alloc ?_ _)); exact BK232.out⟩, ⟨by repeat (first | (with_reducible first | exact HB.out | apply below_alloc | apply pw_below_drewN | apply below_drew1 | refine below_set ?_ GE232.out) | exact HB.out)⟩⟩
    case round =>
      clear H'
      try clear c1
      try clear p2
      try clear c4
      try clear c4b0
      try clear c4b1
      try clear c5
      try clear c6
      try clear p6
      obtain ⟨x7_1, x8_1, rfl, HA, HK1, HO_7, BK232, HB⟩ := hrel
      cases gk with
      | zero => exact absurd HA.out (by simp [oakumlaw11_ExtentOrder.l0])
      | succ k1 =>
        have H := HA.out
        clear HA
        simp only [oakumlaw11_ExtentOrder.l0] at H
        by_cases c9 : x8_1 ≥ 0
        · rw [if_pos c9] at H
          have c9b0 : decide (0 ≤ x8_1) = true := decide_eq_true c9
          clear c9
          by_cases c10 : 0 ≤ x8_1
          · rw [if_pos c10] at H
            have c10b0 : decide (0 ≤ x8_1) = true := decide_eq_true c10
            clear c10
            by_cases c11 : x8_1 < (l1.length : Int)
            · rw [if_pos c11] at H
              have c11b0 : decide (x8_1 < (l1.length : Int)) = true := decide_eq_true c11
              clear c11
              by_cases c12 : x7_1.length < 8796093022208
              · rw [if_pos c12] at H
                have LMc12 := Aside0.mk c12
                clear c12
                obtain ⟨y235, hy235⟩ : ∃ y_ : List (S23), y_ = (x7_1 ++ [(⟨(rd_T23 l1 x8_1).f0, (rd_T23 l1 x8_1).f1⟩ : S23)]) := ⟨_, rfl⟩
                replace H : (oakumlaw11_ExtentOrder.l0 k1 l1 a2 y235 (wrap64 (x8_1 - 1)) a0_0 a0_1) = some r := by first | (rw [hy235]; with_reducible exact H) | (have H2_ := (Option.bind_some _ _).symm.trans H; rw [hy235]; with_reducible exact H2_) | (have H2_ := (Option.bind_some _ _).symm.trans H; with_reducible exact H2_) | with_reducible exact H | (rw [hy235]; exact H) | exact H
                have Ny235 := Aside0.mk hy235
                clear hy235
                have H' := Aside0.mk H
                clear H
                have p234 : 0 ≤ (x8_1 : Int) := of_decide_eq_true (by first | (with_reducible assumption) | assumption)
                have q234 : x8_1 < (l1.length : Int) := of_decide_eq_true (by first | (with_reducible assumption) | assumption)
                obtain ⟨ad234, e234, hx234_0, hx234_1⟩ := at_T23 HR1.out x8_1 p234 q234
                cases e234
                replace hx234_0 := (HB.out.cell (World.block_lt_of_cell? w _ hx234_0)).trans hx234_0
                replace hx234_1 := (HB.out.cell (World.block_lt_of_cell? w _ hx234_1)).trans hx234_1
                replace p234 := eq_true p234
                replace q234 := eq_true q234
                go_wp2_with (first | ((with_reducible refine gate_builtin (b := .append) (xs := #[.tmp 30, .tmp 35]) rfl ?_); at_builtin; refine Kd.R_append k23 (w0 := w) w.heap.size rfl (.tmp 30) (.tmp 35) 24 23 (.agg #[(.int .i64 0), (.int .i64 0)]) 16 rfl Try.underlying24 info23 rfl (by decide) (by omega) u7 x7_1 (⟨(rd_T23 l1 x8_1).f0, (rd_T23 l1 x8_1).f1⟩ : S23) [.int .i64 ((rd_T23 l1 x8_1).f0), .int .i64 ((rd_T23 l1 x8_1).f1)] (fun k_ => k_ ≠ gb232) (fun _ => False) rfl rfl ?aP (fun _ hk => hk.elim) ?aF ?aO ?aB ?aS ?aL ?_; (case aP => exact k23_mkM _ _ _ (⟨(rd_T23 l1 x8_1).f0, (rd_T23 l1 x8_1).f1⟩ : S23)); (case aB => exact (by repeat (first | (with_reducible first | exact HB.out | apply below_alloc | apply pw_below_drewN | apply below_drew1 | refine below_set ?_ GE232.out) | exact HB.out))); (case aF => exact (fun k_ hk => Kd.freshB (g := gb232) (o := .cells #[.int .i64 a0_0, .int .i64 a0_1] 23 (0, 0)) (by (with_reducible repeat (first | refine blk_drewN ?_ _ | refine blk_drew ?_ | refine blk_alloc ?_ _)); exact BK232.out) k_ hk)); (case aO => exact (by (with_reducible repeat (first | apply Kd.R_alloc | apply Kd.R_drewN | apply Kd.R_drew)); exact HO_7.out)); (case aS => exact (below_size (by repeat (first | (with_reducible first | exact HB.out | apply below_alloc | apply pw_below_drewN | apply below_drew1 | refine below_set ?_ GE232.out) | exact HB.out)))); (case aL => have := LMc12.out; omega); intro v236 w13 ho hb hg hat; rw [← Ny235.out] at ho; have n0_ := Aside0.mk (blk_grown (g := gb232) (o := .cells #[.int .i64 a0_0, .int .i64 a0_1] 23 (0, 0)) (by (with_reducible repeat (first | refine blk_drewN ?_ _ | refine blk_drew ?_ | refine blk_alloc ?_ _)); exact BK232.out) hg (Kd.R_away HO_7.out (fun _ hk => hk))); have n1_ := Aside0.mk (hb); have n2_ := Aside0.mk (ho); clear BK232; clear HB; clear HO_7; have BK232 := n0_; have HB := n1_; have HO237 := n2_; clear n0_ n1_ n2_; clear ho hb hg hat))
                go_roundg k1
                case measure => have := HK1.out; omega
                case rel => exact ⟨(y235), (wrap64 (x8_1 - 1)), (by first | rfl | (simp; done) | (simp [*]; done)), H', ⟨by have := HK1.out; omega⟩, ⟨by (with_reducible repeat (first | apply Kd.R_alloc | apply Kd.R_drewN | apply Kd.R_drew)); exact HO237.out⟩, ⟨by (with_reducible repeat (first | refine blk_drewN ?_ _ | refine blk_drew ?_ | refine blk_alloc ?_ _)); exact BK232.out⟩, ⟨by repeat (first | (with_reducible first | exact HB.out | apply below_alloc | apply pw_below_drewN | apply below_drew1 | refine below_set ?_ GE232.out) | exact HB.out)⟩⟩
              · rw [if_neg c12] at H
                exact absurd H (by simp)
            · rw [if_neg c11] at H
              exact absurd H (by simp)
          · rw [if_neg c10] at H
            exact absurd H (by simp)
        · rw [if_neg c9] at H
          have c9b0 : decide (0 ≤ x8_1) = false := decide_eq_false c9
          clear c9
          replace H := Option.bind_eq_some_iff.mp H
          obtain ⟨⟨t238, t241⟩, A140, H⟩ := H
          replace H : ((extent_Gaps.f k1 a0_0 a0_1 x7_1).bind fun bt242 => ((extent_Fit.f k1 a0_0 a0_1 a2 l1).bind fun bt246 => ((extent_Fit.f k1 a0_0 a0_1 a2 x7_1).bind fun bt250 => ((oakumlaw11_same.f k1 t238 bt242.1).bind fun t254 => (if (l1.length : Int) > 0 then ((some (([] : List (S23)) : List (S23))).bind fun y255 => (if y255.length + l1.length < 8796093022208 then ((some (y255 ++ l1 : List (S23))).bind fun y258 => (if 0 < (l1.length : Int) then (if y258.length < 8796093022208 then ((extent_Right.f k1 a0_0 a0_1 (y258 ++ [(⟨(rd_T23 l1 0).f0, (rd_T23 l1 0).f1⟩ : S23)])).bind fun t265 => (if t265 = true then (none) else (oakumlaw11_ExtentOrder.j1 k1 l1 x7_1 t241 bt242.2 bt246.2.2 bt250.2.2 t254 a0_0 a0_1 bt246.1 bt246.2.1 bt250.1 bt250.2.1))) else (none)) else (none))) else (none))) else (oakumlaw11_ExtentOrder.j1 k1 l1 x7_1 t241 bt242.2 bt246.2.2 bt250.2.2 t254 a0_0 a0_1 bt246.1 bt246.2.1 bt250.1 bt250.2.1)))))) = some r := H
          have A14 := Aside0.mk A140
          clear A140
          replace H := Option.bind_eq_some_iff.mp H
          obtain ⟨⟨t242, t245⟩, A150, H⟩ := H
          replace H : ((extent_Fit.f k1 a0_0 a0_1 a2 l1).bind fun bt246 => ((extent_Fit.f k1 a0_0 a0_1 a2 x7_1).bind fun bt250 => ((oakumlaw11_same.f k1 t238 t242).bind fun t254 => (if (l1.length : Int) > 0 then ((some (([] : List (S23)) : List (S23))).bind fun y255 => (if y255.length + l1.length < 8796093022208 then ((some (y255 ++ l1 : List (S23))).bind fun y258 => (if 0 < (l1.length : Int) then (if y258.length < 8796093022208 then ((extent_Right.f k1 a0_0 a0_1 (y258 ++ [(⟨(rd_T23 l1 0).f0, (rd_T23 l1 0).f1⟩ : S23)])).bind fun t265 => (if t265 = true then (none) else (oakumlaw11_ExtentOrder.j1 k1 l1 x7_1 t241 t245 bt246.2.2 bt250.2.2 t254 a0_0 a0_1 bt246.1 bt246.2.1 bt250.1 bt250.2.1))) else (none)) else (none))) else (none))) else (oakumlaw11_ExtentOrder.j1 k1 l1 x7_1 t241 t245 bt246.2.2 bt250.2.2 t254 a0_0 a0_1 bt246.1 bt246.2.1 bt250.1 bt250.2.1))))) = some r := H
          have A15 := Aside0.mk A150
          clear A150
          replace H := Option.bind_eq_some_iff.mp H
          obtain ⟨⟨t246, t247, t248⟩, A160, H⟩ := H
          replace H : ((extent_Fit.f k1 a0_0 a0_1 a2 x7_1).bind fun bt250 => ((oakumlaw11_same.f k1 t238 t242).bind fun t254 => (if (l1.length : Int) > 0 then ((some (([] : List (S23)) : List (S23))).bind fun y255 => (if y255.length + l1.length < 8796093022208 then ((some (y255 ++ l1 : List (S23))).bind fun y258 => (if 0 < (l1.length : Int) then (if y258.length < 8796093022208 then ((extent_Right.f k1 a0_0 a0_1 (y258 ++ [(⟨(rd_T23 l1 0).f0, (rd_T23 l1 0).f1⟩ : S23)])).bind fun t265 => (if t265 = true then (none) else (oakumlaw11_ExtentOrder.j1 k1 l1 x7_1 t241 t245 t248 bt250.2.2 t254 a0_0 a0_1 t246 t247 bt250.1 bt250.2.1))) else (none)) else (none))) else (none))) else (oakumlaw11_ExtentOrder.j1 k1 l1 x7_1 t241 t245 t248 bt250.2.2 t254 a0_0 a0_1 t246 t247 bt250.1 bt250.2.1)))) = some r := H
          have A16 := Aside0.mk A160
          clear A160
          replace H := Option.bind_eq_some_iff.mp H
          obtain ⟨⟨t250, t251, t252⟩, A170, H⟩ := H
          replace H : ((oakumlaw11_same.f k1 t238 t242).bind fun t254 => (if (l1.length : Int) > 0 then ((some (([] : List (S23)) : List (S23))).bind fun y255 => (if y255.length + l1.length < 8796093022208 then ((some (y255 ++ l1 : List (S23))).bind fun y258 => (if 0 < (l1.length : Int) then (if y258.length < 8796093022208 then ((extent_Right.f k1 a0_0 a0_1 (y258 ++ [(⟨(rd_T23 l1 0).f0, (rd_T23 l1 0).f1⟩ : S23)])).bind fun t265 => (if t265 = true then (none) else (oakumlaw11_ExtentOrder.j1 k1 l1 x7_1 t241 t245 t248 t252 t254 a0_0 a0_1 t246 t247 t250 t251))) else (none)) else (none))) else (none))) else (oakumlaw11_ExtentOrder.j1 k1 l1 x7_1 t241 t245 t248 t252 t254 a0_0 a0_1 t246 t247 t250 t251))) = some r := H
          have A17 := Aside0.mk A170
          clear A170
          replace H := Option.bind_eq_some_iff.mp H
          obtain ⟨t254, A180, H⟩ := H
          replace H : (if (l1.length : Int) > 0 then ((some (([] : List (S23)) : List (S23))).bind fun y255 => (if y255.length + l1.length < 8796093022208 then ((some (y255 ++ l1 : List (S23))).bind fun y258 => (if 0 < (l1.length : Int) then (if y258.length < 8796093022208 then ((extent_Right.f k1 a0_0 a0_1 (y258 ++ [(⟨(rd_T23 l1 0).f0, (rd_T23 l1 0).f1⟩ : S23)])).bind fun t265 => (if t265 = true then (none) else (oakumlaw11_ExtentOrder.j1 k1 l1 x7_1 t241 t245 t248 t252 t254 a0_0 a0_1 t246 t247 t250 t251))) else (none)) else (none))) else (none))) else (oakumlaw11_ExtentOrder.j1 k1 l1 x7_1 t241 t245 t248 t252 t254 a0_0 a0_1 t246 t247 t250 t251)) = some r := H
          have A18 := Aside0.mk A180
          clear A180
          have HC19 := Aside0.mk H
          clear H
          have hcz20_0 : wr.cell? ⟨gb232, 0, none⟩ = some (.int .i64 a0_0) := (blk_cell BK232.out 0).trans rfl
          have hcz20_1 : wr.cell? ⟨gb232, 1, none⟩ = some (.int .i64 a0_1) := (blk_cell BK232.out 1).trans rfl
          have hfz20_0 := blk_frozen BK232.out 0
          have hfz20_1 := blk_frozen BK232.out 1
          go_upto_if 68 with (first | ((with_reducible refine gate_callee (f := 7) rfl ?_); refine goesL_ (some 40) rfl rfl Try.func7 (by kernel_rfl) rfl #[.agg #[.int .i64 a0_0, .int .i64 a0_1], .slice A1 l1.length c1] rfl (by (try simp only [List.map_toArray, List.map_cons, List.map_nil]); first | done | rfl | (simp only [List.length_drop, List.length_take]; rfl)) ?_; (with_reducible refine (extent_Gaps.calls k1 a0_0 a0_1 _ _ l1 t238 t241 _ ?side1 ?side2 A14.out).mono ?_); (case side1 => repeat (first | exact (Kd.C_below HR1.out HB.out) | (with_reducible refine Kd.C_alloc ?_ _) | (with_reducible refine Kd.C_drewN ?_ _) | (with_reducible refine Kd.C_drew ?_))); (case side2 => exact HC1.out); rintro e w21 ⟨v239, rfl, ho0, hb⟩; refine ⟨_, rfl, ?_⟩; have n0_ := Aside0.mk (Kd.R_elder' (by (with_reducible repeat (first | apply Kd.R_alloc | apply Kd.R_drewN | apply Kd.R_drew)); exact HO_7.out) (Kd.R_base ho0) hb); have n1_ := Aside0.mk (Kd.R_lower (Kd.R_newB (Kd.R_new' ho0 (Kd.R_lt (by (with_reducible repeat (first | apply Kd.R_alloc | apply Kd.R_drewN | apply Kd.R_drew)); exact HO_7.out))) (g := gb232) (o := .cells #[.int .i64 a0_0, .int .i64 a0_1] 23 (0, 0)) (by (with_reducible repeat (first | refine blk_drewN ?_ _ | refine blk_drew ?_ | refine blk_alloc ?_ _)); exact BK232.out)) (below_size (by repeat (first | (with_reducible first | exact HB.out | apply below_alloc | apply pw_below_drewN | apply below_drew1 | refine below_set ?_ GE232.out) | exact HB.out)))); have n2_ := Aside0.mk (blk_below (g := gb232) (o := .cells #[.int .i64 a0_0, .int .i64 a0_1] 23 (0, 0)) (by (with_reducible repeat (first | refine blk_drewN ?_ _ | refine blk_drew ?_ | refine blk_alloc ?_ _)); exact BK232.out) hb); have n3_ := Aside0.mk (below_step (by repeat (first | (with_reducible first | exact HB.out | apply below_alloc | apply pw_below_drewN | apply below_drew1 | refine below_set ?_ GE232.out) | exact HB.out)) hb); clear HO_7; clear BK232; clear HB; have HO_7 := n0_; have HO240 := n1_; have BK232 := n2_; have HB := n3_; clear n0_ n1_ n2_ n3_; (try clear hb); (try clear hb2); (try clear hk); (try clear hi); (try clear ho0); have hcz22_0 : w21.cell? ⟨gb232, 0, none⟩ = some (.int .i64 a0_0) := (blk_cell BK232.out 0).trans rfl; have hcz22_1 : w21.cell? ⟨gb232, 1, none⟩ = some (.int .i64 a0_1) := (blk_cell BK232.out 1).trans rfl; have hfz22_0 := blk_frozen BK232.out 0; have hfz22_1 := blk_frozen BK232.out 1; obtain ⟨Ao23, co23, eo23⟩ := Kd.R_slice HO_7.out; subst eo23) | ((with_reducible refine gate_callee (f := 7) rfl ?_); refine goesL_ (some 46) rfl rfl Try.func7 (by kernel_rfl) rfl #[.agg #[.int .i64 a0_0, .int .i64 a0_1], .slice Ao23 x7_1.length co23] rfl (by (try simp only [List.map_toArray, List.map_cons, List.map_nil]); first | done | rfl | (simp only [List.length_drop, List.length_take]; rfl)) ?_; (with_reducible refine (extent_Gaps.calls k1 a0_0 a0_1 _ _ x7_1 t242 t245 _ ?side1 ?side2 A15.out).mono ?_); (case side1 => repeat (first | exact (Kd.R_reads' HO_7.out).2.2 | (with_reducible refine Kd.C_alloc ?_ _) | (with_reducible refine Kd.C_drewN ?_ _) | (with_reducible refine Kd.C_drew ?_))); (case side2 => exact (Kd.R_reads' HO_7.out).2.1); rintro e w24 ⟨v243, rfl, ho0, hb⟩; refine ⟨_, rfl, ?_⟩; have n0_ := Aside0.mk (Kd.R_elder' (by (with_reducible repeat (first | apply Kd.R_alloc | apply Kd.R_drewN | apply Kd.R_drew)); exact HO_7.out) (Kd.R_base ho0) hb); have n1_ := Aside0.mk (Kd.R_elder' (by (with_reducible repeat (first | apply Kd.R_alloc | apply Kd.R_drewN | apply Kd.R_drew)); exact HO240.out) (Kd.R_base ho0) hb); have n2_ := Aside0.mk (Kd.R_lower (Kd.R_newB (Kd.R_new' (Kd.R_new' ho0 (Kd.R_lt (by (with_reducible repeat (first | apply Kd.R_alloc | apply Kd.R_drewN | apply Kd.R_drew)); exact HO_7.out))) (Kd.R_lt (by (with_reducible repeat (first | apply Kd.R_alloc | apply Kd.R_drewN | apply Kd.R_drew)); exact HO240.out))) (g := gb232) (o := .cells #[.int .i64 a0_0, .int .i64 a0_1] 23 (0, 0)) (by (with_reducible repeat (first | refine blk_drewN ?_ _ | refine blk_drew ?_ | refine blk_alloc ?_ _)); exact BK232.out)) (below_size (by repeat (first | (with_reducible first | exact HB.out | apply below_alloc | apply pw_below_drewN | apply below_drew1 | refine below_set ?_ GE232.out) | exact HB.out)))); have n3_ := Aside0.mk (blk_below (g := gb232) (o := .cells #[.int .i64 a0_0, .int .i64 a0_1] 23 (0, 0)) (by (with_reducible repeat (first | refine blk_drewN ?_ _ | refine blk_drew ?_ | refine blk_alloc ?_ _)); exact BK232.out) hb); have n4_ := Aside0.mk (below_step (by repeat (first | (with_reducible first | exact HB.out | apply below_alloc | apply pw_below_drewN | apply below_drew1 | refine below_set ?_ GE232.out) | exact HB.out)) hb); clear HO_7; clear HO240; clear BK232; clear HB; have HO_7 := n0_; have HO240 := n1_; have HO244 := n2_; have BK232 := n3_; have HB := n4_; clear n0_ n1_ n2_ n3_ n4_; (try clear hb); (try clear hb2); (try clear hk); (try clear hi); (try clear ho0); have hcz25_0 : w24.cell? ⟨gb232, 0, none⟩ = some (.int .i64 a0_0) := (blk_cell BK232.out 0).trans rfl; have hcz25_1 : w24.cell? ⟨gb232, 1, none⟩ = some (.int .i64 a0_1) := (blk_cell BK232.out 1).trans rfl; have hfz25_0 := blk_frozen BK232.out 0; have hfz25_1 := blk_frozen BK232.out 1) | ((with_reducible refine gate_callee (f := 9) rfl ?_); refine goesL_ (some 53) rfl rfl Try.func9 (by kernel_rfl) rfl #[.agg #[.int .i64 a0_0, .int .i64 a0_1], .int .i64 a2, .slice A1 l1.length c1] rfl (by (try simp only [List.map_toArray, List.map_cons, List.map_nil]); first | done | rfl | (simp only [List.length_drop, List.length_take]; rfl)) ?_; (with_reducible refine (extent_Fit.calls k1 a0_0 a0_1 a2 _ _ l1 t246 t247 t248 _ ?side1 ?side2 A16.out).mono ?_); (case side1 => repeat (first | exact (Kd.C_below HR1.out HB.out) | (with_reducible refine Kd.C_alloc ?_ _) | (with_reducible refine Kd.C_drewN ?_ _) | (with_reducible refine Kd.C_drew ?_))); (case side2 => exact HC1.out); rintro e w26 ⟨rfl, hb⟩; refine ⟨_, rfl, ?_⟩; have n0_ := Aside0.mk (Kd.R_below (by (with_reducible repeat (first | apply Kd.R_alloc | apply Kd.R_drewN | apply Kd.R_drew)); exact HO_7.out) hb); have n1_ := Aside0.mk (Kd.R_below (by (with_reducible repeat (first | apply Kd.R_alloc | apply Kd.R_drewN | apply Kd.R_drew)); exact HO240.out) hb); have n2_ := Aside0.mk (Kd.R_below (by (with_reducible repeat (first | apply Kd.R_alloc | apply Kd.R_drewN | apply Kd.R_drew)); exact HO244.out) hb); have n3_ := Aside0.mk (blk_below (g := gb232) (o := .cells #[.int .i64 a0_0, .int .i64 a0_1] 23 (0, 0)) (by (with_reducible repeat (first | refine blk_drewN ?_ _ | refine blk_drew ?_ | refine blk_alloc ?_ _)); exact BK232.out) hb); have n4_ := Aside0.mk (below_step (by repeat (first | (with_reducible first | exact HB.out | apply below_alloc | apply pw_below_drewN | apply below_drew1 | refine below_set ?_ GE232.out) | exact HB.out)) hb); clear HO_7; clear HO240; clear HO244; clear BK232; clear HB; have HO_7 := n0_; have HO240 := n1_; have HO244 := n2_; have BK232 := n3_; have HB := n4_; clear n0_ n1_ n2_ n3_ n4_; (try clear hb); (try clear hb2); (try clear hk); (try clear hi)) | ((with_reducible refine gate_dst (N := 13) rfl ?_); refine box_event ?hg (N := 13) ?hd (cs := #[.int .i64 0, .int .i64 0]) (t := 23) ?hr ?_; (case hd => rfl); (case hg => rfl); (case hr => first | (go_simp; done) | (go_simp; rfl)); intro gb249 hg w27 hbox hb; have n0_ := Aside0.mk (Kd.R_below (Kd.R_elderB (by (with_reducible repeat (first | apply Kd.R_alloc | apply Kd.R_drewN | apply Kd.R_drew)); exact HO_7.out) gb249 (Nat.le_of_eq hg.symm)) hb); have n1_ := Aside0.mk (Kd.R_below (Kd.R_elderB (by (with_reducible repeat (first | apply Kd.R_alloc | apply Kd.R_drewN | apply Kd.R_drew)); exact HO240.out) gb249 (Nat.le_of_eq hg.symm)) hb); have n2_ := Aside0.mk (Kd.R_below (Kd.R_elderB (by (with_reducible repeat (first | apply Kd.R_alloc | apply Kd.R_drewN | apply Kd.R_drew)); exact HO244.out) gb249 (Nat.le_of_eq hg.symm)) hb); have n3_ := Aside0.mk (blk_below (g := gb232) (o := .cells #[.int .i64 a0_0, .int .i64 a0_1] 23 (0, 0)) (by (with_reducible repeat (first | refine blk_drewN ?_ _ | refine blk_drew ?_ | refine blk_alloc ?_ _)); exact BK232.out) hb); have n4_ := Aside0.mk (below_step (by repeat (first | (with_reducible first | exact HB.out | apply below_alloc | apply pw_below_drewN | apply below_drew1 | refine below_set ?_ GE232.out) | exact HB.out)) hb); have n5_ := Aside0.mk (hbox); have n6_ := Aside0.mk ((by rw [hg]; exact (below_size (by repeat (first | (with_reducible first | exact HB.out | apply below_alloc | apply pw_below_drewN | apply below_drew1 | refine below_set ?_ GE232.out) | exact HB.out))) : w.heap.size ≤ gb249)); have n7_ := Aside0.mk ((by rw [hg]; exact (below_size (by repeat (first | (with_reducible first | exact HB.out | apply below_alloc | apply pw_below_drewN | apply below_drew1 | refine below_set ?_ GE232.out) | exact HB.out))) : w.heap.size ≤ gb249)); have n8_ := Aside0.mk ((by rw [hg]; exact Nat.ne_of_lt (blk_lt (g := gb232) (o := .cells #[.int .i64 a0_0, .int .i64 a0_1] 23 (0, 0)) (by (with_reducible repeat (first | refine blk_drewN ?_ _ | refine blk_drew ?_ | refine blk_alloc ?_ _)); exact BK232.out)) : gb232 ≠ gb249)); have n9_ := Aside0.mk ((by rw [hg]; exact Nat.ne_of_gt (blk_lt (g := gb232) (o := .cells #[.int .i64 a0_0, .int .i64 a0_1] 23 (0, 0)) (by (with_reducible repeat (first | refine blk_drewN ?_ _ | refine blk_drew ?_ | refine blk_alloc ?_ _)); exact BK232.out)) : gb249 ≠ gb232)); clear HO_7; clear HO240; clear HO244; clear BK232; clear HB; have HO_7 := n0_; have HO240 := n1_; have HO244 := n2_; have BK232 := n3_; have HB := n4_; have BK249 := n5_; have GW249 := n6_; have GE249 := n7_; have NB232_249 := n8_; have NB249_232 := n9_; clear n0_ n1_ n2_ n3_ n4_ n5_ n6_ n7_ n8_ n9_; clear hb hbox hg; have hnb28 := NB249_232.out; have hnc28 := NB232_249.out; have hcz29_0 : w27.cell? ⟨gb249, 0, none⟩ = some (.int .i64 0) := (blk_cell BK249.out 0).trans rfl; have hcz29_1 : w27.cell? ⟨gb249, 1, none⟩ = some (.int .i64 0) := (blk_cell BK249.out 1).trans rfl; have hfz29_0 := blk_frozen BK249.out 0; have hfz29_1 := blk_frozen BK249.out 1; have hcz30_0 : w27.cell? ⟨gb232, 0, none⟩ = some (.int .i64 a0_0) := (blk_cell BK232.out 0).trans rfl; have hcz30_1 : w27.cell? ⟨gb232, 1, none⟩ = some (.int .i64 a0_1) := (blk_cell BK232.out 1).trans rfl; have hfz30_0 := blk_frozen BK232.out 0; have hfz30_1 := blk_frozen BK232.out 1) | ((with_reducible refine gate_callee (f := 9) rfl ?_); refine goesL_ (some 60) rfl rfl Try.func9 (by kernel_rfl) rfl #[.agg #[.int .i64 a0_0, .int .i64 a0_1], .int .i64 a2, .slice Ao23 x7_1.length co23] rfl (by (try simp only [List.map_toArray, List.map_cons, List.map_nil]); first | done | rfl | (simp only [List.length_drop, List.length_take]; rfl)) ?_; (with_reducible refine (extent_Fit.calls k1 a0_0 a0_1 a2 _ _ x7_1 t250 t251 t252 _ ?side1 ?side2 A17.out).mono ?_); (case side1 => refine (Kd.R_reads' (e := 23) (base := w.heap.size) (ok := fun k_ => (((k_ ≠ gb232 ∧ some k_ ≠ (v239 : Value).ownBlock) ∧ some k_ ≠ (v243 : Value).ownBlock) ∧ k_ ≠ gb249)) (n := x7_1.length) (c := co23) ?_).2.2; exact (by (with_reducible repeat (first | apply Kd.R_alloc | apply Kd.R_drewN | apply Kd.R_drew)); exact (Kd.R_mono (Kd.R_far (p := ⟨gb249, 1, none⟩) (Kd.R_far (p := ⟨gb249, 0, none⟩) (Kd.R_mono HO_7.out (fun k_ hk => (⟨hk, hk.2⟩ : _ ∧ k_ ≠ gb249))) (fun _ hk => hk.2) (.int .i64 t246)) (fun _ hk => hk.2) (.int .i64 t247)) (fun _ h_ => h_.1)))); (case side2 => exact (Kd.R_reads' HO_7.out).2.1); rintro e w31 ⟨rfl, hb⟩; refine ⟨_, rfl, ?_⟩; have n0_ := Aside0.mk (Kd.R_below (by (with_reducible repeat (first | apply Kd.R_alloc | apply Kd.R_drewN | apply Kd.R_drew)); exact (Kd.R_mono (Kd.R_far (p := ⟨gb249, 1, none⟩) (Kd.R_far (p := ⟨gb249, 0, none⟩) (Kd.R_mono HO_7.out (fun k_ hk => (⟨hk, hk.2⟩ : _ ∧ k_ ≠ gb249))) (fun _ hk => hk.2) (.int .i64 t246)) (fun _ hk => hk.2) (.int .i64 t247)) (fun _ h_ => h_.1))) hb); have n1_ := Aside0.mk (Kd.R_below (by (with_reducible repeat (first | apply Kd.R_alloc | apply Kd.R_drewN | apply Kd.R_drew)); exact (Kd.R_mono (Kd.R_far (p := ⟨gb249, 1, none⟩) (Kd.R_far (p := ⟨gb249, 0, none⟩) (Kd.R_mono HO240.out (fun k_ hk => (⟨hk, hk.2⟩ : _ ∧ k_ ≠ gb249))) (fun _ hk => hk.2) (.int .i64 t246)) (fun _ hk => hk.2) (.int .i64 t247)) (fun _ h_ => h_.1))) hb); have n2_ := Aside0.mk (Kd.R_below (by (with_reducible repeat (first | apply Kd.R_alloc | apply Kd.R_drewN | apply Kd.R_drew)); exact (Kd.R_mono (Kd.R_far (p := ⟨gb249, 1, none⟩) (Kd.R_far (p := ⟨gb249, 0, none⟩) (Kd.R_mono HO244.out (fun k_ hk => (⟨hk, hk.2⟩ : _ ∧ k_ ≠ gb249))) (fun _ hk => hk.2) (.int .i64 t246)) (fun _ hk => hk.2) (.int .i64 t247)) (fun _ h_ => h_.1))) hb); have n3_ := Aside0.mk (blk_below (g := gb232) (o := .cells #[.int .i64 a0_0, .int .i64 a0_1] 23 (0, 0)) (by (with_reducible repeat (first | refine blk_drewN ?_ _ | refine blk_drew ?_ | refine blk_alloc ?_ _)); refine blk_far ?_ NB232_249.out _; (with_reducible repeat (first | refine blk_drewN ?_ _ | refine blk_drew ?_ | refine blk_alloc ?_ _)); refine blk_far ?_ NB232_249.out _; (with_reducible repeat (first | refine blk_drewN ?_ _ | refine blk_drew ?_ | refine blk_alloc ?_ _)); exact BK232.out) hb); have n4_ := Aside0.mk (blk_below (g := gb249) (o := .cells #[.int .i64 t246, .int .i64 t247] 23 (0, 0)) (by (with_reducible repeat (first | refine blk_drewN ?_ _ | refine blk_drew ?_ | refine blk_alloc ?_ _)); refine blk_put (cs := #[.int .i64 t246, .int .i64 0]) ?_ 1 _ rfl; (with_reducible repeat (first | refine blk_drewN ?_ _ | refine blk_drew ?_ | refine blk_alloc ?_ _)); refine blk_put (cs := #[.int .i64 0, .int .i64 0]) ?_ 0 _ rfl; (with_reducible repeat (first | refine blk_drewN ?_ _ | refine blk_drew ?_ | refine blk_alloc ?_ _)); exact BK249.out) hb); have n5_ := Aside0.mk (below_step (by repeat (first | (with_reducible first | exact HB.out | apply below_alloc | apply pw_below_drewN | apply below_drew1 | refine below_set ?_ GE232.out | refine below_set ?_ GE249.out) | exact HB.out)) hb); clear HO_7; clear HO240; clear HO244; clear BK232; clear BK249; clear HB; have HO_7 := n0_; have HO240 := n1_; have HO244 := n2_; have BK232 := n3_; have BK249 := n4_; have HB := n5_; clear n0_ n1_ n2_ n3_ n4_ n5_; (try clear hb); (try clear hb2); (try clear hk); (try clear hi)) | ((with_reducible refine gate_dst (N := 15) rfl ?_); refine box_event ?hg (N := 15) ?hd (cs := #[.int .i64 0, .int .i64 0]) (t := 23) ?hr ?_; (case hd => rfl); (case hg => rfl); (case hr => first | (go_simp; done) | (go_simp; rfl)); intro gb253 hg w32 hbox hb; have n0_ := Aside0.mk (Kd.R_below (Kd.R_elderB (by (with_reducible repeat (first | apply Kd.R_alloc | apply Kd.R_drewN | apply Kd.R_drew)); exact HO_7.out) gb253 (Nat.le_of_eq hg.symm)) hb); have n1_ := Aside0.mk (Kd.R_below (Kd.R_elderB (by (with_reducible repeat (first | apply Kd.R_alloc | apply Kd.R_drewN | apply Kd.R_drew)); exact HO240.out) gb253 (Nat.le_of_eq hg.symm)) hb); have n2_ := Aside0.mk (Kd.R_below (Kd.R_elderB (by (with_reducible repeat (first | apply Kd.R_alloc | apply Kd.R_drewN | apply Kd.R_drew)); exact HO244.out) gb253 (Nat.le_of_eq hg.symm)) hb); have n3_ := Aside0.mk (blk_below (g := gb232) (o := .cells #[.int .i64 a0_0, .int .i64 a0_1] 23 (0, 0)) (by (with_reducible repeat (first | refine blk_drewN ?_ _ | refine blk_drew ?_ | refine blk_alloc ?_ _)); exact BK232.out) hb); have n4_ := Aside0.mk (blk_below (g := gb249) (o := .cells #[.int .i64 t246, .int .i64 t247] 23 (0, 0)) (by (with_reducible repeat (first | refine blk_drewN ?_ _ | refine blk_drew ?_ | refine blk_alloc ?_ _)); exact BK249.out) hb); have n5_ := Aside0.mk (below_step (by repeat (first | (with_reducible first | exact HB.out | apply below_alloc | apply pw_below_drewN | apply below_drew1 | refine below_set ?_ GE232.out | refine below_set ?_ GE249.out) | exact HB.out)) hb); have n6_ := Aside0.mk (hbox); have n7_ := Aside0.mk ((by rw [hg]; exact (below_size (by repeat (first | (with_reducible first | exact HB.out | apply below_alloc | apply pw_below_drewN | apply below_drew1 | refine below_set ?_ GE232.out | refine below_set ?_ GE249.out) | exact HB.out))) : w.heap.size ≤ gb253)); have n8_ := Aside0.mk ((by rw [hg]; exact (below_size (by repeat (first | (with_reducible first | exact HB.out | apply below_alloc | apply pw_below_drewN | apply below_drew1 | refine below_set ?_ GE232.out | refine below_set ?_ GE249.out) | exact HB.out))) : w.heap.size ≤ gb253)); have n9_ := Aside0.mk ((by rw [hg]; exact Nat.ne_of_lt (blk_lt (g := gb232) (o := .cells #[.int .i64 a0_0, .int .i64 a0_1] 23 (0, 0)) (by (with_reducible repeat (first | refine blk_drewN ?_ _ | refine blk_drew ?_ | refine blk_alloc ?_ _)); exact BK232.out)) : gb232 ≠ gb253)); have n10_ := Aside0.mk ((by rw [hg]; exact Nat.ne_of_gt (blk_lt (g := gb232) (o := .cells #[.int .i64 a0_0, .int .i64 a0_1] 23 (0, 0)) (by (with_reducible repeat (first | refine blk_drewN ?_ _ | refine blk_drew ?_ | refine blk_alloc ?_ _)); exact BK232.out)) : gb253 ≠ gb232)); have n11_ := Aside0.mk ((by rw [hg]; exact Nat.ne_of_lt (blk_lt (g := gb249) (o := .cells #[.int .i64 t246, .int .i64 t247] 23 (0, 0)) (by (with_reducible repeat (first | refine blk_drewN ?_ _ | refine blk_drew ?_ | refine blk_alloc ?_ _)); exact BK249.out)) : gb249 ≠ gb253)); have n12_ := Aside0.mk ((by rw [hg]; exact Nat.ne_of_gt (blk_lt (g := gb249) (o := .cells #[.int .i64 t246, .int .i64 t247] 23 (0, 0)) (by (with_reducible repeat (first | refine blk_drewN ?_ _ | refine blk_drew ?_ | refine blk_alloc ?_ _)); exact BK249.out)) : gb253 ≠ gb249)); clear HO_7; clear HO240; clear HO244; clear BK232; clear BK249; clear HB; have HO_7 := n0_; have HO240 := n1_; have HO244 := n2_; have BK232 := n3_; have BK249 := n4_; have HB := n5_; have BK253 := n6_; have GW253 := n7_; have GE253 := n8_; have NB232_253 := n9_; have NB253_232 := n10_; have NB249_253 := n11_; have NB253_249 := n12_; clear n0_ n1_ n2_ n3_ n4_ n5_ n6_ n7_ n8_ n9_ n10_ n11_ n12_; clear hb hbox hg; have hnb33 := NB253_232.out; have hnc33 := NB232_253.out; have hnb34 := NB253_249.out; have hnc34 := NB249_253.out; have hcz35_0 : w32.cell? ⟨gb253, 0, none⟩ = some (.int .i64 0) := (blk_cell BK253.out 0).trans rfl; have hcz35_1 : w32.cell? ⟨gb253, 1, none⟩ = some (.int .i64 0) := (blk_cell BK253.out 1).trans rfl; have hfz35_0 := blk_frozen BK253.out 0; have hfz35_1 := blk_frozen BK253.out 1; obtain ⟨Ao36, co36, eo36⟩ := Kd.R_slice HO240.out; subst eo36; obtain ⟨Ao37, co37, eo37⟩ := Kd.R_slice HO244.out; subst eo37) | ((with_reducible refine gate_callee (f := 11) rfl ?_); refine goesL_ (some 65) rfl rfl Try.func11 (by kernel_rfl) rfl #[.slice Ao36 t238.length co36, .slice Ao37 t242.length co37] rfl (by (try simp only [List.map_toArray, List.map_cons, List.map_nil]); first | done | rfl | (simp only [List.length_drop, List.length_take]; rfl)) ?_; (with_reducible refine (oakumlaw11_same.calls k1 _ _ t238 _ _ t242 t254 _ ?side1 ?side2 ?side3 ?side4 A18.out).mono ?_); (case side1 => refine (Kd.R_reads' (e := 23) (base := w.heap.size) (ok := fun k_ => (((((True ∧ some k_ ≠ (.slice Ao23 x7_1.length co23 : Value).ownBlock) ∧ k_ ≠ gb232) ∧ some k_ ≠ (.slice Ao37 t242.length co37 : Value).ownBlock) ∧ k_ ≠ gb249) ∧ k_ ≠ gb253)) (n := t238.length) (c := co36) ?_).2.2; exact (by (with_reducible repeat (first | apply Kd.R_alloc | apply Kd.R_drewN | apply Kd.R_drew)); exact (Kd.R_mono (Kd.R_far (p := ⟨gb253, 1, none⟩) (Kd.R_far (p := ⟨gb253, 0, none⟩) (Kd.R_mono HO240.out (fun k_ hk => (⟨hk, hk.2⟩ : _ ∧ k_ ≠ gb253))) (fun _ hk => hk.2) (.int .i64 t250)) (fun _ hk => hk.2) (.int .i64 t251)) (fun _ h_ => h_.1)))); (case side2 => exact (Kd.R_reads' HO240.out).2.1); (case side3 => refine (Kd.R_reads' (e := 23) (base := w.heap.size) (ok := fun k_ => (((((True ∧ some k_ ≠ (.slice Ao23 x7_1.length co23 : Value).ownBlock) ∧ some k_ ≠ (.slice Ao36 t238.length co36 : Value).ownBlock) ∧ k_ ≠ gb232) ∧ k_ ≠ gb249) ∧ k_ ≠ gb253)) (n := t242.length) (c := co37) ?_).2.2; exact (by (with_reducible repeat (first | apply Kd.R_alloc | apply Kd.R_drewN | apply Kd.R_drew)); exact (Kd.R_mono (Kd.R_far (p := ⟨gb253, 1, none⟩) (Kd.R_far (p := ⟨gb253, 0, none⟩) (Kd.R_mono HO244.out (fun k_ hk => (⟨hk, hk.2⟩ : _ ∧ k_ ≠ gb253))) (fun _ hk => hk.2) (.int .i64 t250)) (fun _ hk => hk.2) (.int .i64 t251)) (fun _ h_ => h_.1)))); (case side4 => exact (Kd.R_reads' HO244.out).2.1); rintro e w' ⟨rfl, ⟨nd, rfl⟩⟩; refine ⟨_, rfl, ?_⟩))
          (try simp only [Act.put, List.setIfInBounds_toArray, List.set_cons_zero, List.set_cons_succ])
          go_cut [] (fun wc => ∃ (kq : Nat), Aside0 (oakumlaw11_ExtentOrder.j1 kq l1 x7_1 t241 t245 t248 t252 t254 a0_0 a0_1 t246 t247 t250 t251 = some r) ∧ Aside0 (kq ≤ k1) ∧ Aside0 (Kd.R k23 23 wc w.heap.size (fun k_ => k_ ≠ gb232 ∧ k_ ≠ gb249 ∧ k_ ≠ gb253) (.slice Ao23 x7_1.length co23) x7_1) ∧ Aside0 (wc.heap[gb232]? = some (.cells #[.int .i64 a0_0, .int .i64 a0_1] 23 (0, 0))) ∧ Aside0 (wc.heap[gb249]? = some (.cells #[.int .i64 t246, .int .i64 t247] 23 (0, 0))) ∧ Aside0 (wc.heap[gb253]? = some (.cells #[.int .i64 t250, .int .i64 t251] 23 (0, 0))) ∧ Aside0 (Below w.heap.size w wc))
          case first =>
            have H := HC19.out
            clear HC19
            by_cases c38 : (l1.length : Int) > 0
            · rw [if_pos c38] at H
              have c38b0 : decide (0 < (l1.length : Int)) = true := decide_eq_true c38
              have c38b1 : decide (0 < l1.length) = true := decide_eq_true (by omega)
              clear c38
              (first | rw [c38b0] | (simp only [i64_w, i32_w]; rw [c38b0]) | rw [c38b1] | skip)
              obtain ⟨y255, hy255⟩ : ∃ y_ : List (S23), y_ = (([] : List (S23))) := ⟨_, rfl⟩
              replace H : (if y255.length + l1.length < 8796093022208 then ((some (y255 ++ l1 : List (S23))).bind fun y258 => (if 0 < (l1.length : Int) then (if y258.length < 8796093022208 then ((extent_Right.f k1 a0_0 a0_1 (y258 ++ [(⟨(rd_T23 l1 0).f0, (rd_T23 l1 0).f1⟩ : S23)])).bind fun t265 => (if t265 = true then (none) else (oakumlaw11_ExtentOrder.j1 k1 l1 x7_1 t241 t245 t248 t252 t254 a0_0 a0_1 t246 t247 t250 t251))) else (none)) else (none))) else (none)) = some r := by first | (rw [hy255]; with_reducible exact H) | (have H2_ := (Option.bind_some _ _).symm.trans H; rw [hy255]; with_reducible exact H2_) | (have H2_ := (Option.bind_some _ _).symm.trans H; with_reducible exact H2_) | with_reducible exact H | (rw [hy255]; exact H) | exact H
              have Ny255 := Aside0.mk hy255
              clear hy255
              by_cases c39 : y255.length + l1.length < 8796093022208
              · rw [if_pos c39] at H
                have LMc39 := Aside0.mk c39
                clear c39
                obtain ⟨y258, hy258⟩ : ∃ y_ : List (S23), y_ = (y255 ++ l1) := ⟨_, rfl⟩
                replace H : (if 0 < (l1.length : Int) then (if y258.length < 8796093022208 then ((extent_Right.f k1 a0_0 a0_1 (y258 ++ [(⟨(rd_T23 l1 0).f0, (rd_T23 l1 0).f1⟩ : S23)])).bind fun t265 => (if t265 = true then (none) else (oakumlaw11_ExtentOrder.j1 k1 l1 x7_1 t241 t245 t248 t252 t254 a0_0 a0_1 t246 t247 t250 t251))) else (none)) else (none)) = some r := by first | (rw [hy258]; with_reducible exact H) | (have H2_ := (Option.bind_some _ _).symm.trans H; rw [hy258]; with_reducible exact H2_) | (have H2_ := (Option.bind_some _ _).symm.trans H; with_reducible exact H2_) | with_reducible exact H | (rw [hy258]; exact H) | exact H
                have Ny258 := Aside0.mk hy258
                clear hy258
                by_cases c40 : 0 < (l1.length : Int)
                · rw [if_pos c40] at H
                  have c40b0 : decide (0 < (l1.length : Int)) = true := decide_eq_true c40
                  have c40b1 : decide (0 < l1.length) = true := decide_eq_true (by omega)
                  clear c40
                  by_cases c41 : y258.length < 8796093022208
                  · rw [if_pos c41] at H
                    have LMc41 := Aside0.mk c41
                    clear c41
                    obtain ⟨y262, hy262⟩ : ∃ y_ : List (S23), y_ = (y258 ++ [(⟨(rd_T23 l1 0).f0, (rd_T23 l1 0).f1⟩ : S23)]) := ⟨_, rfl⟩
                    replace H : ((extent_Right.f k1 a0_0 a0_1 y262).bind fun t265 => (if t265 = true then (none) else (oakumlaw11_ExtentOrder.j1 k1 l1 x7_1 t241 t245 t248 t252 t254 a0_0 a0_1 t246 t247 t250 t251))) = some r := by first | (rw [hy262]; with_reducible exact H) | (have H2_ := (Option.bind_some _ _).symm.trans H; rw [hy262]; with_reducible exact H2_) | (have H2_ := (Option.bind_some _ _).symm.trans H; with_reducible exact H2_) | with_reducible exact H | (rw [hy262]; exact H) | exact H
                    have Ny262 := Aside0.mk hy262
                    clear hy262
                    replace H := Option.bind_eq_some_iff.mp H
                    obtain ⟨t265, A420, H⟩ := H
                    replace H : (if t265 = true then (none) else (oakumlaw11_ExtentOrder.j1 k1 l1 x7_1 t241 t245 t248 t252 t254 a0_0 a0_1 t246 t247 t250 t251)) = some r := H
                    have A42 := Aside0.mk A420
                    clear A420
                    by_cases c43 : t265 = true
                    · subst c43
                      have H1 : (none) = some r := by rw [if_pos rfl] at H; exact H
                      clear H
                      have H := H1
                      clear H1
                      exact absurd H (by simp)
                    · replace c43 := Bool.eq_false_iff.mpr c43
                      subst c43
                      have H1 : (oakumlaw11_ExtentOrder.j1 k1 l1 x7_1 t241 t245 t248 t252 t254 a0_0 a0_1 t246 t247 t250 t251) = some r := by rw [if_neg (show ¬ (false = true) by decide)] at H; exact H
                      clear H
                      have H := H1
                      clear H1
                      have H' := Aside0.mk H
                      clear H
                      go_wp2_with (first | ((with_reducible refine gate_dst (N := 69) rfl ?_); refine Kd.R_lit k23 _ 23 ?hg (N := 69) ?hd (xs := ([] : List (S23))) (inner := []) (ok := fun _ => True) (okp := fun _ => True) ?hr ?hp (fun _ hk => hk) trivial (Below.refl _ _) (Nat.le_refl _) (by simp) ?_; (case hd => rfl); (case hg => rfl); (case hr => first | (go_simp; done) | (go_simp; rfl)); (case hp => exact (Reps.none _ _)); intro v256 w44 ho45 hb hg_ hnew_; clear hg_ hnew_; (first | rw [← Ny255.out] at ho45 | (simp only [Int.reduceToNat] at ho45; rw [← Ny255.out] at ho45)); have n0_ := Aside0.mk (Kd.R_elder' (by (with_reducible repeat (first | apply Kd.R_alloc | apply Kd.R_drewN | apply Kd.R_drew)); exact (Kd.R_mono (Kd.R_far (p := ⟨gb253, 1, none⟩) (Kd.R_far (p := ⟨gb253, 0, none⟩) (Kd.R_mono HO_7.out (fun k_ hk => (⟨hk, hk.2⟩ : _ ∧ k_ ≠ gb253))) (fun _ hk => hk.2) (.int .i64 t250)) (fun _ hk => hk.2) (.int .i64 t251)) (fun _ h_ => h_.1))) (Kd.R_base ho45) hb); have n1_ := Aside0.mk (Kd.R_elder' (by (with_reducible repeat (first | apply Kd.R_alloc | apply Kd.R_drewN | apply Kd.R_drew)); exact (Kd.R_mono (Kd.R_far (p := ⟨gb253, 1, none⟩) (Kd.R_far (p := ⟨gb253, 0, none⟩) (Kd.R_mono HO240.out (fun k_ hk => (⟨hk, hk.2⟩ : _ ∧ k_ ≠ gb253))) (fun _ hk => hk.2) (.int .i64 t250)) (fun _ hk => hk.2) (.int .i64 t251)) (fun _ h_ => h_.1))) (Kd.R_base ho45) hb); have n2_ := Aside0.mk (Kd.R_elder' (by (with_reducible repeat (first | apply Kd.R_alloc | apply Kd.R_drewN | apply Kd.R_drew)); exact (Kd.R_mono (Kd.R_far (p := ⟨gb253, 1, none⟩) (Kd.R_far (p := ⟨gb253, 0, none⟩) (Kd.R_mono HO244.out (fun k_ hk => (⟨hk, hk.2⟩ : _ ∧ k_ ≠ gb253))) (fun _ hk => hk.2) (.int .i64 t250)) (fun _ hk => hk.2) (.int .i64 t251)) (fun _ h_ => h_.1))) (Kd.R_base ho45) hb); have n3_ := Aside0.mk (Kd.R_lower (Kd.R_newB (Kd.R_newB (Kd.R_newB (Kd.R_new' (Kd.R_new' (Kd.R_new' ho45 (Kd.R_lt (by (with_reducible repeat (first | apply Kd.R_alloc | apply Kd.R_drewN | apply Kd.R_drew)); exact (Kd.R_mono (Kd.R_far (p := ⟨gb253, 1, none⟩) (Kd.R_far (p := ⟨gb253, 0, none⟩) (Kd.R_mono HO_7.out (fun k_ hk => (⟨hk, hk.2⟩ : _ ∧ k_ ≠ gb253))) (fun _ hk => hk.2) (.int .i64 t250)) (fun _ hk => hk.2) (.int .i64 t251)) (fun _ h_ => h_.1))))) (Kd.R_lt (by (with_reducible repeat (first | apply Kd.R_alloc | apply Kd.R_drewN | apply Kd.R_drew)); exact (Kd.R_mono (Kd.R_far (p := ⟨gb253, 1, none⟩) (Kd.R_far (p := ⟨gb253, 0, none⟩) (Kd.R_mono HO240.out (fun k_ hk => (⟨hk, hk.2⟩ : _ ∧ k_ ≠ gb253))) (fun _ hk => hk.2) (.int .i64 t250)) (fun _ hk => hk.2) (.int .i64 t251)) (fun _ h_ => h_.1))))) (Kd.R_lt (by (with_reducible repeat (first | apply Kd.R_alloc | apply Kd.R_drewN | apply Kd.R_drew)); exact (Kd.R_mono (Kd.R_far (p := ⟨gb253, 1, none⟩) (Kd.R_far (p := ⟨gb253, 0, none⟩) (Kd.R_mono HO244.out (fun k_ hk => (⟨hk, hk.2⟩ : _ ∧ k_ ≠ gb253))) (fun _ hk => hk.2) (.int .i64 t250)) (fun _ hk => hk.2) (.int .i64 t251)) (fun _ h_ => h_.1))))) (g := gb232) (o := .cells #[.int .i64 a0_0, .int .i64 a0_1] 23 (0, 0)) (by (with_reducible repeat (first | refine blk_drewN ?_ _ | refine blk_drew ?_ | refine blk_alloc ?_ _)); refine blk_far ?_ NB232_253.out _; (with_reducible repeat (first | refine blk_drewN ?_ _ | refine blk_drew ?_ | refine blk_alloc ?_ _)); refine blk_far ?_ NB232_253.out _; (with_reducible repeat (first | refine blk_drewN ?_ _ | refine blk_drew ?_ | refine blk_alloc ?_ _)); exact BK232.out)) (g := gb249) (o := .cells #[.int .i64 t246, .int .i64 t247] 23 (0, 0)) (by (with_reducible repeat (first | refine blk_drewN ?_ _ | refine blk_drew ?_ | refine blk_alloc ?_ _)); refine blk_far ?_ NB249_253.out _; (with_reducible repeat (first | refine blk_drewN ?_ _ | refine blk_drew ?_ | refine blk_alloc ?_ _)); refine blk_far ?_ NB249_253.out _; (with_reducible repeat (first | refine blk_drewN ?_ _ | refine blk_drew ?_ | refine blk_alloc ?_ _)); exact BK249.out)) (g := gb253) (o := .cells #[.int .i64 t250, .int .i64 t251] 23 (0, 0)) (by (with_reducible repeat (first | refine blk_drewN ?_ _ | refine blk_drew ?_ | refine blk_alloc ?_ _)); refine blk_put (cs := #[.int .i64 t250, .int .i64 0]) ?_ 1 _ rfl; (with_reducible repeat (first | refine blk_drewN ?_ _ | refine blk_drew ?_ | refine blk_alloc ?_ _)); refine blk_put (cs := #[.int .i64 0, .int .i64 0]) ?_ 0 _ rfl; (with_reducible repeat (first | refine blk_drewN ?_ _ | refine blk_drew ?_ | refine blk_alloc ?_ _)); exact BK253.out)) (below_size (by repeat (first | (with_reducible first | exact HB.out | apply below_alloc | apply pw_below_drewN | apply below_drew1 | refine below_set ?_ GE232.out | refine below_set ?_ GE249.out | refine below_set ?_ GE253.out) | exact HB.out)))); have n4_ := Aside0.mk (blk_below (g := gb232) (o := .cells #[.int .i64 a0_0, .int .i64 a0_1] 23 (0, 0)) (by (with_reducible repeat (first | refine blk_drewN ?_ _ | refine blk_drew ?_ | refine blk_alloc ?_ _)); refine blk_far ?_ NB232_253.out _; (with_reducible repeat (first | refine blk_drewN ?_ _ | refine blk_drew ?_ | refine blk_alloc ?_ _)); refine blk_far ?_ NB232_253.out _; (with_reducible repeat (first | refine blk_drewN ?_ _ | refine blk_drew ?_ | refine blk_alloc ?_ _)); exact BK232.out) hb); have n5_ := Aside0.mk (blk_below (g := gb249) (o := .cells #[.int .i64 t246, .int .i64 t247] 23 (0, 0)) (by (with_reducible repeat (first | refine blk_drewN ?_ _ | refine blk_drew ?_ | refine blk_alloc ?_ _)); refine blk_far ?_ NB249_253.out _; (with_reducible repeat (first | refine blk_drewN ?_ _ | refine blk_drew ?_ | refine blk_alloc ?_ _)); refine blk_far ?_ NB249_253.out _; (with_reducible repeat (first | refine blk_drewN ?_ _ | refine blk_drew ?_ | refine blk_alloc ?_ _)); exact BK249.out) hb); have n6_ := Aside0.mk (blk_below (g := gb253) (o := .cells #[.int .i64 t250, .int .i64 t251] 23 (0, 0)) (by (with_reducible repeat (first | refine blk_drewN ?_ _ | refine blk_drew ?_ | refine blk_alloc ?_ _)); refine blk_put (cs := #[.int .i64 t250, .int .i64 0]) ?_ 1 _ rfl; (with_reducible repeat (first | refine blk_drewN ?_ _ | refine blk_drew ?_ | refine blk_alloc ?_ _)); refine blk_put (cs := #[.int .i64 0, .int .i64 0]) ?_ 0 _ rfl; (with_reducible repeat (first | refine blk_drewN ?_ _ | refine blk_drew ?_ | refine blk_alloc ?_ _)); exact BK253.out) hb); have n7_ := Aside0.mk (below_step (by repeat (first | (with_reducible first | exact HB.out | apply below_alloc | apply pw_below_drewN | apply below_drew1 | refine below_set ?_ GE232.out | refine below_set ?_ GE249.out | refine below_set ?_ GE253.out) | exact HB.out)) hb); clear HO_7; clear HO240; clear HO244; clear BK232; clear BK249; clear BK253; clear HB; have HO_7 := n0_; have HO240 := n1_; have HO244 := n2_; have HO257 := n3_; have BK232 := n4_; have BK249 := n5_; have BK253 := n6_; have HB := n7_; clear n0_ n1_ n2_ n3_ n4_ n5_ n6_ n7_; clear hb ho45) | ((with_reducible refine gate_builtin (b := .append) (xs := #[.tmp 69, .tmp 70]) rfl ?_); at_builtin; refine Kd.R_append_rows k23 (w0 := w) w.heap.size rfl (.tmp 69) (.tmp 70) 24 23 (.agg #[(.int .i64 0), (.int .i64 0)]) 16 rfl Try.underlying24 info23 rfl (by decide) (by omega) v256 y255 l1 _ _ _ (fun k_ => some k_ ≠ (.slice Ao23 x7_1.length co23 : Value).ownBlock ∧ some k_ ≠ (.slice Ao36 t238.length co36 : Value).ownBlock ∧ some k_ ≠ (.slice Ao37 t242.length co37 : Value).ownBlock ∧ k_ ≠ gb232 ∧ k_ ≠ gb249 ∧ k_ ≠ gb253) (fun _ => False) rfl rfl ?aO ?aR (fun _ _ h => h) (fun _ h => h.elim) ?aF ?aB ?aS ?aL ?_; (case aR => repeat (first | exact (Kd.C_below HR1.out HB.out) | (with_reducible refine Kd.C_alloc ?_ _) | (with_reducible refine Kd.C_drewN ?_ _) | (with_reducible refine Kd.C_drew ?_))); (case aB => exact (by repeat (first | (with_reducible first | exact HB.out | apply below_alloc | apply pw_below_drewN | apply below_drew1 | refine below_set ?_ GE232.out | refine below_set ?_ GE249.out | refine below_set ?_ GE253.out) | exact HB.out))); (case aF => exact (fun k_ hk => ⟨Kd.fresh' (Kd.R_lt (by (with_reducible repeat (first | apply Kd.R_alloc | apply Kd.R_drewN | apply Kd.R_drew)); exact HO_7.out)) k_ hk, Kd.fresh' (Kd.R_lt (by (with_reducible repeat (first | apply Kd.R_alloc | apply Kd.R_drewN | apply Kd.R_drew)); exact HO240.out)) k_ hk, Kd.fresh' (Kd.R_lt (by (with_reducible repeat (first | apply Kd.R_alloc | apply Kd.R_drewN | apply Kd.R_drew)); exact HO244.out)) k_ hk, Kd.freshB (g := gb232) (o := .cells #[.int .i64 a0_0, .int .i64 a0_1] 23 (0, 0)) (by (with_reducible repeat (first | refine blk_drewN ?_ _ | refine blk_drew ?_ | refine blk_alloc ?_ _)); exact BK232.out) k_ hk, Kd.freshB (g := gb249) (o := .cells #[.int .i64 t246, .int .i64 t247] 23 (0, 0)) (by (with_reducible repeat (first | refine blk_drewN ?_ _ | refine blk_drew ?_ | refine blk_alloc ?_ _)); exact BK249.out) k_ hk, Kd.freshB (g := gb253) (o := .cells #[.int .i64 t250, .int .i64 t251] 23 (0, 0)) (by (with_reducible repeat (first | refine blk_drewN ?_ _ | refine blk_drew ?_ | refine blk_alloc ?_ _)); exact BK253.out) k_ hk⟩)); (case aO => exact (by (with_reducible repeat (first | apply Kd.R_alloc | apply Kd.R_drewN | apply Kd.R_drew)); exact Kd.R_mono HO257.out (fun _ hk => ⟨hk.1.1.1.1.1.2, ⟨hk.1.1.1.1.2, ⟨hk.1.1.1.2, ⟨hk.1.1.2, ⟨hk.1.2, hk.2⟩⟩⟩⟩⟩))); (case aS => exact (below_size (by repeat (first | (with_reducible first | exact HB.out | apply below_alloc | apply pw_below_drewN | apply below_drew1 | refine below_set ?_ GE232.out | refine below_set ?_ GE249.out | refine below_set ?_ GE253.out) | exact HB.out)))); (case aL => have := LMc39.out; omega); intro v259 w46 ho hb hg hat; rw [← Ny258.out] at ho; have n0_ := Aside0.mk (Kd.R_after (ok := (fun k_ => some k_ ≠ (.slice Ao36 t238.length co36 : Value).ownBlock ∧ some k_ ≠ (.slice Ao37 t242.length co37 : Value).ownBlock ∧ k_ ≠ gb232 ∧ k_ ≠ gb249 ∧ k_ ≠ gb253)) (by (with_reducible repeat (first | apply Kd.R_alloc | apply Kd.R_drewN | apply Kd.R_drew)); exact Kd.R_mono HO_7.out (fun _ hk => ⟨⟨hk.1.1.1.1.2, ⟨hk.1.1.1.2, ⟨hk.1.1.1.1.1, ⟨hk.1.1.2, hk.1.2⟩⟩⟩⟩, hk.2⟩)) hg hat); have n1_ := Aside0.mk (blk_grown (g := gb232) (o := .cells #[.int .i64 a0_0, .int .i64 a0_1] 23 (0, 0)) (by (with_reducible repeat (first | refine blk_drewN ?_ _ | refine blk_drew ?_ | refine blk_alloc ?_ _)); exact BK232.out) hg (Kd.R_away HO257.out (fun _ hk => hk.1.1.2))); have n2_ := Aside0.mk (Kd.R_after (ok := (fun k_ => some k_ ≠ (.slice Ao23 x7_1.length co23 : Value).ownBlock ∧ some k_ ≠ (.slice Ao37 t242.length co37 : Value).ownBlock ∧ k_ ≠ gb232 ∧ k_ ≠ gb249 ∧ k_ ≠ gb253)) (by (with_reducible repeat (first | apply Kd.R_alloc | apply Kd.R_drewN | apply Kd.R_drew)); exact Kd.R_mono HO240.out (fun _ hk => ⟨⟨hk.1.1.1.1.1.2, ⟨hk.1.1.1.2, ⟨hk.1.1.1.1.2, ⟨hk.1.1.2, hk.1.2⟩⟩⟩⟩, hk.2⟩)) hg hat); have n3_ := Aside0.mk (Kd.R_after (ok := (fun k_ => some k_ ≠ (.slice Ao23 x7_1.length co23 : Value).ownBlock ∧ some k_ ≠ (.slice Ao36 t238.length co36 : Value).ownBlock ∧ k_ ≠ gb232 ∧ k_ ≠ gb249 ∧ k_ ≠ gb253)) (by (with_reducible repeat (first | apply Kd.R_alloc | apply Kd.R_drewN | apply Kd.R_drew)); exact Kd.R_mono HO244.out (fun _ hk => ⟨⟨hk.1.1.1.1.1.2, ⟨hk.1.1.1.1.2, ⟨hk.1.1.1.2, ⟨hk.1.1.2, hk.1.2⟩⟩⟩⟩, hk.2⟩)) hg hat); have n4_ := Aside0.mk (blk_grown (g := gb249) (o := .cells #[.int .i64 t246, .int .i64 t247] 23 (0, 0)) (by (with_reducible repeat (first | refine blk_drewN ?_ _ | refine blk_drew ?_ | refine blk_alloc ?_ _)); exact BK249.out) hg (Kd.R_away HO257.out (fun _ hk => hk.1.2))); have n5_ := Aside0.mk (blk_grown (g := gb253) (o := .cells #[.int .i64 t250, .int .i64 t251] 23 (0, 0)) (by (with_reducible repeat (first | refine blk_drewN ?_ _ | refine blk_drew ?_ | refine blk_alloc ?_ _)); exact BK253.out) hg (Kd.R_away HO257.out (fun _ hk => hk.2))); have n6_ := Aside0.mk (hb); have n7_ := Aside0.mk (ho); clear HO_7; clear BK232; clear HO240; clear HO244; clear BK249; clear BK253; clear HB; clear HO257; have HO_7 := n0_; have BK232 := n1_; have HO240 := n2_; have HO244 := n3_; have BK249 := n4_; have BK253 := n5_; have HB := n6_; have HO260 := n7_; clear n0_ n1_ n2_ n3_ n4_ n5_ n6_ n7_; clear ho hb hg hat; have p261 : 0 ≤ (0 : Int) := (by omega); have q261 : 0 < (l1.length : Int) := of_decide_eq_true (by first | (with_reducible assumption) | assumption); obtain ⟨ad261, e261, hx261_0, hx261_1⟩ := at_T23 HR1.out 0 p261 q261; cases e261; have qi261 : (0 < l1.length) = True := eq_true (by omega); (try rw [show ((0 : Int)).toNat = 0 from rfl] at hx261_0); (try rw [show 0 * 2 = 0 from rfl] at hx261_0); (try rw [Addr.add_zero'] at hx261_0); (try rw [show ((0 : Int)).toNat = 0 from rfl] at hx261_1); (try rw [show 0 * 2 = 0 from rfl] at hx261_1); (try rw [Addr.add_zero'] at hx261_1); replace hx261_0 := (HB.out.cell (World.block_lt_of_cell? w _ hx261_0)).trans hx261_0; replace hx261_1 := (HB.out.cell (World.block_lt_of_cell? w _ hx261_1)).trans hx261_1; replace p261 := eq_true p261; replace q261 := eq_true q261) | ((with_reducible refine gate_builtin (b := .append) (xs := #[.tmp 72, .tmp 76]) rfl ?_); at_builtin; refine Kd.R_append k23 (w0 := w) w.heap.size rfl (.tmp 72) (.tmp 76) 24 23 (.agg #[(.int .i64 0), (.int .i64 0)]) 16 rfl Try.underlying24 info23 rfl (by decide) (by omega) v259 y258 (⟨(rd_T23 l1 0).f0, (rd_T23 l1 0).f1⟩ : S23) [.int .i64 ((rd_T23 l1 0).f0), .int .i64 ((rd_T23 l1 0).f1)] (fun k_ => some k_ ≠ (.slice Ao23 x7_1.length co23 : Value).ownBlock ∧ some k_ ≠ (.slice Ao36 t238.length co36 : Value).ownBlock ∧ some k_ ≠ (.slice Ao37 t242.length co37 : Value).ownBlock ∧ k_ ≠ gb232 ∧ k_ ≠ gb249 ∧ k_ ≠ gb253) (fun _ => False) rfl rfl ?aP (fun _ hk => hk.elim) ?aF ?aO ?aB ?aS ?aL ?_; (case aP => exact k23_mkM _ _ _ (⟨(rd_T23 l1 0).f0, (rd_T23 l1 0).f1⟩ : S23)); (case aB => exact (by repeat (first | (with_reducible first | exact HB.out | apply below_alloc | apply pw_below_drewN | apply below_drew1 | refine below_set ?_ GE232.out | refine below_set ?_ GE249.out | refine below_set ?_ GE253.out) | exact HB.out))); (case aF => exact (fun k_ hk => ⟨Kd.fresh' (Kd.R_lt (by (with_reducible repeat (first | apply Kd.R_alloc | apply Kd.R_drewN | apply Kd.R_drew)); exact HO_7.out)) k_ hk, Kd.fresh' (Kd.R_lt (by (with_reducible repeat (first | apply Kd.R_alloc | apply Kd.R_drewN | apply Kd.R_drew)); exact HO240.out)) k_ hk, Kd.fresh' (Kd.R_lt (by (with_reducible repeat (first | apply Kd.R_alloc | apply Kd.R_drewN | apply Kd.R_drew)); exact HO244.out)) k_ hk, Kd.freshB (g := gb232) (o := .cells #[.int .i64 a0_0, .int .i64 a0_1] 23 (0, 0)) (by (with_reducible repeat (first | refine blk_drewN ?_ _ | refine blk_drew ?_ | refine blk_alloc ?_ _)); exact BK232.out) k_ hk, Kd.freshB (g := gb249) (o := .cells #[.int .i64 t246, .int .i64 t247] 23 (0, 0)) (by (with_reducible repeat (first | refine blk_drewN ?_ _ | refine blk_drew ?_ | refine blk_alloc ?_ _)); exact BK249.out) k_ hk, Kd.freshB (g := gb253) (o := .cells #[.int .i64 t250, .int .i64 t251] 23 (0, 0)) (by (with_reducible repeat (first | refine blk_drewN ?_ _ | refine blk_drew ?_ | refine blk_alloc ?_ _)); exact BK253.out) k_ hk⟩)); (case aO => exact (by (with_reducible repeat (first | apply Kd.R_alloc | apply Kd.R_drewN | apply Kd.R_drew)); exact HO260.out)); (case aS => exact (below_size (by repeat (first | (with_reducible first | exact HB.out | apply below_alloc | apply pw_below_drewN | apply below_drew1 | refine below_set ?_ GE232.out | refine below_set ?_ GE249.out | refine below_set ?_ GE253.out) | exact HB.out)))); (case aL => have := LMc41.out; omega); intro v263 w47 ho hb hg hat; rw [← Ny262.out] at ho; have n0_ := Aside0.mk (Kd.R_after (ok := (fun k_ => some k_ ≠ (.slice Ao36 t238.length co36 : Value).ownBlock ∧ some k_ ≠ (.slice Ao37 t242.length co37 : Value).ownBlock ∧ k_ ≠ gb232 ∧ k_ ≠ gb249 ∧ k_ ≠ gb253)) (by (with_reducible repeat (first | apply Kd.R_alloc | apply Kd.R_drewN | apply Kd.R_drew)); exact HO_7.out) hg hat); have n1_ := Aside0.mk (blk_grown (g := gb232) (o := .cells #[.int .i64 a0_0, .int .i64 a0_1] 23 (0, 0)) (by (with_reducible repeat (first | refine blk_drewN ?_ _ | refine blk_drew ?_ | refine blk_alloc ?_ _)); exact BK232.out) hg (Kd.R_away HO260.out (fun _ hk => hk.2.2.2.1))); have n2_ := Aside0.mk (Kd.R_after (ok := (fun k_ => some k_ ≠ (.slice Ao23 x7_1.length co23 : Value).ownBlock ∧ some k_ ≠ (.slice Ao37 t242.length co37 : Value).ownBlock ∧ k_ ≠ gb232 ∧ k_ ≠ gb249 ∧ k_ ≠ gb253)) (by (with_reducible repeat (first | apply Kd.R_alloc | apply Kd.R_drewN | apply Kd.R_drew)); exact HO240.out) hg hat); have n3_ := Aside0.mk (Kd.R_after (ok := (fun k_ => some k_ ≠ (.slice Ao23 x7_1.length co23 : Value).ownBlock ∧ some k_ ≠ (.slice Ao36 t238.length co36 : Value).ownBlock ∧ k_ ≠ gb232 ∧ k_ ≠ gb249 ∧ k_ ≠ gb253)) (by (with_reducible repeat (first | apply Kd.R_alloc | apply Kd.R_drewN | apply Kd.R_drew)); exact HO244.out) hg hat); have n4_ := Aside0.mk (blk_grown (g := gb249) (o := .cells #[.int .i64 t246, .int .i64 t247] 23 (0, 0)) (by (with_reducible repeat (first | refine blk_drewN ?_ _ | refine blk_drew ?_ | refine blk_alloc ?_ _)); exact BK249.out) hg (Kd.R_away HO260.out (fun _ hk => hk.2.2.2.2.1))); have n5_ := Aside0.mk (blk_grown (g := gb253) (o := .cells #[.int .i64 t250, .int .i64 t251] 23 (0, 0)) (by (with_reducible repeat (first | refine blk_drewN ?_ _ | refine blk_drew ?_ | refine blk_alloc ?_ _)); exact BK253.out) hg (Kd.R_away HO260.out (fun _ hk => hk.2.2.2.2.2))); have n6_ := Aside0.mk (hb); have n7_ := Aside0.mk (ho); clear HO_7; clear BK232; clear HO240; clear HO244; clear BK249; clear BK253; clear HB; clear HO260; have HO_7 := n0_; have BK232 := n1_; have HO240 := n2_; have HO244 := n3_; have BK249 := n4_; have BK253 := n5_; have HB := n6_; have HO264 := n7_; clear n0_ n1_ n2_ n3_ n4_ n5_ n6_ n7_; clear ho hb hg hat; have hnb48 := NB232_249.out; have hnc48 := NB249_232.out; have hnb49 := NB232_253.out; have hnc49 := NB253_232.out; have hcz50_0 : w47.cell? ⟨gb232, 0, none⟩ = some (.int .i64 a0_0) := (blk_cell BK232.out 0).trans rfl; have hcz50_1 : w47.cell? ⟨gb232, 1, none⟩ = some (.int .i64 a0_1) := (blk_cell BK232.out 1).trans rfl; have hfz50_0 := blk_frozen BK232.out 0; have hfz50_1 := blk_frozen BK232.out 1; obtain ⟨Ao51, co51, eo51⟩ := Kd.R_slice HO264.out; subst eo51) | ((with_reducible refine gate_callee (f := 12) rfl ?_); refine goesL_ (some 80) rfl rfl Try.func12 (by kernel_rfl) rfl #[.agg #[.int .i64 a0_0, .int .i64 a0_1], .slice Ao51 y262.length co51] rfl (by (try simp only [List.map_toArray, List.map_cons, List.map_nil]); first | done | rfl | (simp only [List.length_drop, List.length_take]; rfl)) ?_; (with_reducible refine (extent_Right.calls k1 a0_0 a0_1 _ _ y262 false _ ?side1 ?side2 A42.out).mono ?_); (case side1 => repeat (first | exact (Kd.R_reads' HO264.out).2.2 | (with_reducible refine Kd.C_alloc ?_ _) | (with_reducible refine Kd.C_drewN ?_ _) | (with_reducible refine Kd.C_drew ?_))); (case side2 => exact (Kd.R_reads' HO264.out).2.1); rintro e w52 ⟨rfl, hb⟩; refine ⟨_, rfl, ?_⟩; have n0_ := Aside0.mk (Kd.R_below (by (with_reducible repeat (first | apply Kd.R_alloc | apply Kd.R_drewN | apply Kd.R_drew)); exact HO_7.out) hb); have n1_ := Aside0.mk (Kd.R_below (by (with_reducible repeat (first | apply Kd.R_alloc | apply Kd.R_drewN | apply Kd.R_drew)); exact HO240.out) hb); have n2_ := Aside0.mk (Kd.R_below (by (with_reducible repeat (first | apply Kd.R_alloc | apply Kd.R_drewN | apply Kd.R_drew)); exact HO244.out) hb); have n3_ := Aside0.mk (Kd.R_below (by (with_reducible repeat (first | apply Kd.R_alloc | apply Kd.R_drewN | apply Kd.R_drew)); exact HO264.out) hb); have n4_ := Aside0.mk (blk_below (g := gb232) (o := .cells #[.int .i64 a0_0, .int .i64 a0_1] 23 (0, 0)) (by (with_reducible repeat (first | refine blk_drewN ?_ _ | refine blk_drew ?_ | refine blk_alloc ?_ _)); exact BK232.out) hb); have n5_ := Aside0.mk (blk_below (g := gb249) (o := .cells #[.int .i64 t246, .int .i64 t247] 23 (0, 0)) (by (with_reducible repeat (first | refine blk_drewN ?_ _ | refine blk_drew ?_ | refine blk_alloc ?_ _)); exact BK249.out) hb); have n6_ := Aside0.mk (blk_below (g := gb253) (o := .cells #[.int .i64 t250, .int .i64 t251] 23 (0, 0)) (by (with_reducible repeat (first | refine blk_drewN ?_ _ | refine blk_drew ?_ | refine blk_alloc ?_ _)); exact BK253.out) hb); have n7_ := Aside0.mk (below_step (by repeat (first | (with_reducible first | exact HB.out | apply below_alloc | apply pw_below_drewN | apply below_drew1 | refine below_set ?_ GE232.out | refine below_set ?_ GE249.out | refine below_set ?_ GE253.out) | exact HB.out)) hb); clear HO_7; clear HO240; clear HO244; clear HO264; clear BK232; clear BK249; clear BK253; clear HB; have HO_7 := n0_; have HO240 := n1_; have HO244 := n2_; have HO264 := n3_; have BK232 := n4_; have BK249 := n5_; have BK253 := n6_; have HB := n7_; clear n0_ n1_ n2_ n3_ n4_ n5_ n6_ n7_; (try clear hb); (try clear hb2); (try clear hk); (try clear hi)))
                      go_meet
                      case rel => exact ⟨_, H', ⟨by have := HK1.out; first | omega | exact Nat.le_refl _⟩, ⟨by (with_reducible repeat (first | apply Kd.R_alloc | apply Kd.R_drewN | apply Kd.R_drew)); exact Kd.R_mono HO_7.out (fun _ hk => ⟨hk.1.2.2.1, ⟨hk.1.2.2.2.1, hk.1.2.2.2.2⟩⟩)⟩, ⟨by (with_reducible repeat (first | refine blk_drewN ?_ _ | refine blk_drew ?_ | refine blk_alloc ?_ _)); exact BK232.out⟩, ⟨by (with_reducible repeat (first | refine blk_drewN ?_ _ | refine blk_drew ?_ | refine blk_alloc ?_ _)); exact BK249.out⟩, ⟨by (with_reducible repeat (first | refine blk_drewN ?_ _ | refine blk_drew ?_ | refine blk_alloc ?_ _)); exact BK253.out⟩, ⟨by repeat (first | (with_reducible first | exact HB.out | apply below_alloc | apply pw_below_drewN | apply below_drew1 | refine below_set ?_ GE232.out | refine below_set ?_ GE249.out | refine below_set ?_ GE253.out) | exact HB.out)⟩⟩
                  · rw [if_neg c41] at H
                    exact absurd H (by simp)
                · rw [if_neg c40] at H
                  exact absurd H (by simp)
              · rw [if_neg c39] at H
                exact absurd H (by simp)
            · rw [if_neg c38] at H
              have c38b0 : decide (0 < (l1.length : Int)) = false := decide_eq_false c38
              have c38b1 : decide (0 < l1.length) = false := decide_eq_false (by omega)
              clear c38
              (first | rw [c38b0] | (simp only [i64_w, i32_w]; rw [c38b0]) | rw [c38b1] | skip)
              have H' := Aside0.mk H
              clear H
              go_wp2
              go_meet
              case rel => exact ⟨_, H', ⟨by have := HK1.out; first | omega | exact Nat.le_refl _⟩, ⟨by (with_reducible repeat (first | apply Kd.R_alloc | apply Kd.R_drewN | apply Kd.R_drew)); exact Kd.R_mono (Kd.R_far (p := ⟨gb253, 1, none⟩) (Kd.R_far (p := ⟨gb253, 0, none⟩) (Kd.R_mono HO_7.out (fun k_ hk => (⟨hk, hk.2⟩ : _ ∧ k_ ≠ gb253))) (fun _ hk => hk.2) (.int .i64 t250)) (fun _ hk => hk.2) (.int .i64 t251)) (fun _ hk => ⟨hk.1.1.1.1.1, ⟨hk.1.1.2, hk.1.2⟩⟩)⟩, ⟨by (with_reducible repeat (first | refine blk_drewN ?_ _ | refine blk_drew ?_ | refine blk_alloc ?_ _)); refine blk_far ?_ NB232_253.out _; (with_reducible repeat (first | refine blk_drewN ?_ _ | refine blk_drew ?_ | refine blk_alloc ?_ _)); refine blk_far ?_ NB232_253.out _; (with_reducible repeat (first | refine blk_drewN ?_ _ | refine blk_drew ?_ | refine blk_alloc ?_ _)); exact BK232.out⟩, ⟨by (with_reducible repeat (first | refine blk_drewN ?_ _ | refine blk_drew ?_ | refine blk_alloc ?_ _)); refine blk_far ?_ NB249_253.out _; (with_reducible repeat (first | refine blk_drewN ?_ _ | refine blk_drew ?_ | refine blk_alloc ?_ _)); refine blk_far ?_ NB249_253.out _; (with_reducible repeat (first | refine blk_drewN ?_ _ | refine blk_drew ?_ | refine blk_alloc ?_ _)); exact BK249.out⟩, ⟨by (with_reducible repeat (first | refine blk_drewN ?_ _ | refine blk_drew ?_ | refine blk_alloc ?_ _)); refine blk_put (cs := #[.int .i64 t250, .int .i64 0]) ?_ 1 _ rfl; (with_reducible repeat (first | refine blk_drewN ?_ _ | refine blk_drew ?_ | refine blk_alloc ?_ _)); refine blk_put (cs := #[.int .i64 0, .int .i64 0]) ?_ 0 _ rfl; (with_reducible repeat (first | refine blk_drewN ?_ _ | refine blk_drew ?_ | refine blk_alloc ?_ _)); exact BK253.out⟩, ⟨by repeat (first | (with_reducible first | exact HB.out | apply below_alloc | apply pw_below_drewN | apply below_drew1 | refine below_set ?_ GE232.out | refine below_set ?_ GE249.out | refine below_set ?_ GE253.out) | exact HB.out)⟩⟩
          case rest =>
            clear HC19
            try clear c1
            try clear c2
            try clear p2
            try clear q2
            try clear hx2
            try clear qi2
            try clear c3
            try clear c4
            try clear c4b0
            try clear c4b1
            try clear c5
            try clear c6
            try clear p6
            try clear c7
            try clear c9
            try clear c9b0
            try clear c10
            try clear c10b0
            try clear c11
            try clear c11b0
            try clear c12
            try clear p23
            try clear q23
            try clear hx23
            try clear p26
            try clear q26
            try clear hx26
            try clear qi26
            try clear c28
            try clear c33
            try clear c34
            try clear c38
            try clear c38b0
            try clear c38b1
            try clear c39
            try clear c40
            try clear c40b0
            try clear c40b1
            try clear c41
            try clear c43
            try clear c48
            try clear c49
            try clear hcz20_0
            try clear hcz20_1
            try clear hcz22_0
            try clear hcz22_1
            try clear hcz25_0
            try clear hcz25_1
            try clear hcz29_0
            try clear hcz29_1
            try clear hcz30_0
            try clear hcz30_1
            try clear hcz35_0
            try clear hcz35_1
            try clear hcz50_0
            try clear hcz50_1
            try clear hfz20_0
            try clear hfz20_1
            try clear hfz22_0
            try clear hfz22_1
            try clear hfz25_0
            try clear hfz25_1
            try clear hfz29_0
            try clear hfz29_1
            try clear hfz30_0
            try clear hfz30_1
            try clear hfz35_0
            try clear hfz35_1
            try clear hfz50_0
            try clear hfz50_1
            try clear hx234_0
            try clear hx234_1
            try clear hx261_0
            try clear hx261_1
            try clear p2
            try clear p234
            try clear p261
            try clear p6
            try clear q234
            try clear q261
            obtain ⟨kq, HA, HJ18, HO_7, BK232, BK249, BK253, HB⟩ := hcut
            cases kq with
            | zero => exact absurd HA.out (by simp [oakumlaw11_ExtentOrder.j1])
            | succ kj18 =>
              have H := HA.out
              clear HA
              simp only [oakumlaw11_ExtentOrder.j1] at H
              replace H := Option.bind_eq_some_iff.mp H
              obtain ⟨t266, A530, H⟩ := H
              replace H : (if t266 = true then (if t254 = true then (if t241 = t245 then (if (t246 == t250 && (t247 == t251)) = true then (if t248 = t252 then ((extent_Right.f kj18 a0_0 a0_1 l1).bind fun t267 => ((extent_Right.f kj18 a0_0 a0_1 x7_1).bind fun t268 => (some (t267 == t268)))) else (none)) else (none)) else (none)) else (none)) else (none)) = some r := H
              have A53 := Aside0.mk A530
              clear A530
              by_cases c54 : t266 = true
              · subst c54
                have H1 : (if t254 = true then (if t241 = t245 then (if (t246 == t250 && (t247 == t251)) = true then (if t248 = t252 then ((extent_Right.f kj18 a0_0 a0_1 l1).bind fun t267 => ((extent_Right.f kj18 a0_0 a0_1 x7_1).bind fun t268 => (some (t267 == t268)))) else (none)) else (none)) else (none)) else (none)) = some r := by rw [if_pos rfl] at H; exact H
                clear H
                have H := H1
                clear H1
                by_cases c55 : t254 = true
                · subst c55
                  have H1 : (if t241 = t245 then (if (t246 == t250 && (t247 == t251)) = true then (if t248 = t252 then ((extent_Right.f kj18 a0_0 a0_1 l1).bind fun t267 => ((extent_Right.f kj18 a0_0 a0_1 x7_1).bind fun t268 => (some (t267 == t268)))) else (none)) else (none)) else (none)) = some r := by rw [if_pos rfl] at H; exact H
                  clear H
                  have H := H1
                  clear H1
                  by_cases c56 : t241 = t245
                  · rw [if_pos c56] at H
                    have c56b0 : (t241 == t245) = true := beq_iff_eq.mpr c56
                    have c56b1 : (t241 != t245) = false := bne_eq_false_iff_eq.mpr c56
                    clear c56
                    by_cases c57 : (t246 == t250 && (t247 == t251)) = true
                    · rw [if_pos c57] at H
                      have c57b0 : (t246 == t250 && (t247 == t251)) = true := c57
                      (try (have c57b1 : decide (t246 = t250 && (t247 == t251)) = true := by simpa using c57))
                      (try (have c57b2 : (t246 == t250 && (t247 == t251)) = true := by simpa using c57))
                      clear c57
                      by_cases c58 : t248 = t252
                      · rw [if_pos c58] at H
                        have c58b0 : (t248 == t252) = true := beq_iff_eq.mpr c58
                        have c58b1 : (t248 != t252) = false := bne_eq_false_iff_eq.mpr c58
                        clear c58
                        replace H := Option.bind_eq_some_iff.mp H
                        obtain ⟨t267, A590, H⟩ := H
                        replace H : ((extent_Right.f kj18 a0_0 a0_1 x7_1).bind fun t268 => (some (t267 == t268))) = some r := H
                        have A59 := Aside0.mk A590
                        clear A590
                        replace H := Option.bind_eq_some_iff.mp H
                        obtain ⟨t268, A600, H⟩ := H
                        replace H : (some (t267 == t268)) = some r := H
                        have A60 := Aside0.mk A600
                        clear A600
                        obtain rfl := Option.some.inj H
                        try go_wp2
                        have n0_ := Aside0.mk (Kd.R_drew HO_7.out)
                        have n1_ := Aside0.mk (blk_drew BK232.out)
                        have n2_ := Aside0.mk (blk_drew BK249.out)
                        have n3_ := Aside0.mk (blk_drew BK253.out)
                        have n4_ := Aside0.mk (below_drew1 HB.out)
                        clear HO_7
                        clear BK232
                        clear BK249
                        clear BK253
                        clear HB
                        have HO_7 := n0_
                        have BK232 := n1_
                        have BK249 := n2_
                        have BK253 := n3_
                        have HB := n4_
                        clear n0_ n1_ n2_ n3_ n4_
                        refine start_ (n := 29) (S := fun w' => w'.cell? ⟨gb249, 0, none⟩ = some (.int .i64 t246) ∧ w'.cell? ⟨gb249, 1, none⟩ = some (.int .i64 t247) ∧ w'.cell? ⟨gb253, 0, none⟩ = some (.int .i64 t250) ∧ w'.cell? ⟨gb253, 1, none⟩ = some (.int .i64 t251) ∧ w'.cell? ⟨gb232, 0, none⟩ = some (.int .i64 a0_0) ∧ w'.cell? ⟨gb232, 1, none⟩ = some (.int .i64 a0_1)) (ds := []) #[false, false, false, false, false, false, false, false, false, false, false, false, false, false, false, false, false, false, false, false, false, false, false, false, false, false, false, false, false] (by kernel_rfl) rfl rfl ⟨(blk_cell BK249.out 0).trans rfl, (blk_cell BK249.out 1).trans rfl, (blk_cell BK253.out 0).trans rfl, (blk_cell BK253.out 1).trans rfl, (blk_cell BK232.out 0).trans rfl, (blk_cell BK232.out 1).trans rfl⟩ (fun hHeld => ?_); refine with_tabW oakumlaw11_ExtentOrder.tab18 oakumlaw11_ExtentOrder.bits18 (fun HT_ HW_ => ?_)
                        generalize wc.drew = w61 at HO_7 BK232 BK249 BK253 HB hHeld ⊢
                        refine one_ (i := 0) (N := some 81) #[true, false, false, false, false, false, false, false, false, false, false, false, false, false, false, false, false, false, false, false, false, false, false, false, false, false, false, false, false] rfl rfl (one_of HT_.out (by kernel_rfl)) (by decide) (fun K hK => ?_)
                        refine goes_ Try.func6 (by kernel_rfl) rfl #[] (by rfl) rfl rfl (by (try simp only [List.map_toArray, List.map_cons, List.map_nil]); first | done | rfl | (simp only [List.length_drop, List.length_take]; rfl)) ?_
                        with_reducible refine (oakumlaw11_alive.calls kj18  true _ A53.out).mono ?_
                        rintro e w62 ⟨rfl, hb⟩
                        refine ⟨_, rfl, ?_⟩
                        have n0_ := Aside0.mk (Kd.R_below (by (with_reducible repeat (first | apply Kd.R_alloc | apply Kd.R_drewN | apply Kd.R_drew)); exact HO_7.out) hb)
                        have n1_ := Aside0.mk (blk_below (g := gb232) (o := .cells #[.int .i64 a0_0, .int .i64 a0_1] 23 (0, 0)) (by (with_reducible repeat (first | refine blk_drewN ?_ _ | refine blk_drew ?_ | refine blk_alloc ?_ _)); exact BK232.out) hb)
                        have n2_ := Aside0.mk (blk_below (g := gb249) (o := .cells #[.int .i64 t246, .int .i64 t247] 23 (0, 0)) (by (with_reducible repeat (first | refine blk_drewN ?_ _ | refine blk_drew ?_ | refine blk_alloc ?_ _)); exact BK249.out) hb)
                        have n3_ := Aside0.mk (blk_below (g := gb253) (o := .cells #[.int .i64 t250, .int .i64 t251] 23 (0, 0)) (by (with_reducible repeat (first | refine blk_drewN ?_ _ | refine blk_drew ?_ | refine blk_alloc ?_ _)); exact BK253.out) hb)
                        have n4_ := Aside0.mk (below_step (by repeat (first | (with_reducible first | exact HB.out | apply below_alloc | apply pw_below_drewN | apply below_drew1 | refine below_set ?_ GE232.out | refine below_set ?_ GE249.out | refine below_set ?_ GE253.out) | exact HB.out)) hb)
                        clear HO_7
                        clear BK232
                        clear BK249
                        clear BK253
                        clear HB
                        have HO_7 := n0_
                        have BK232 := n1_
                        have BK249 := n2_
                        have BK253 := n3_
                        have HB := n4_
                        clear n0_ n1_ n2_ n3_ n4_
                        (try clear hb)
                        (try clear hb2)
                        (try clear hk)
                        (try clear hi)
                        refine hK.out _ _ ⟨(blk_cell BK249.out 0).trans rfl, (blk_cell BK249.out 1).trans rfl, (blk_cell BK253.out 0).trans rfl, (blk_cell BK253.out 1).trans rfl, (blk_cell BK232.out 0).trans rfl, (blk_cell BK232.out 1).trans rfl⟩ (fun hHeld => ?_)
                        clear hK K
                        refine norm_ (a' := ?_) ?_ ?_
                        rotate_left
                        · show Act.put _ (some 81) _ = _
                          simp only [Act.put, List.setIfInBounds_toArray, List.set_cons_zero, List.set_cons_succ, i64_w, i32_w]
                          rfl
                        refine pure_ (i := 1) (N := some 82) (v := ?_) (a' := ?_) #[true, true, false, false, false, false, false, false, false, false, false, false, false, false, false, false, false, false, false, false, false, false, false, false, false, false, false, false, false] rfl rfl (any_of HT_.out (by kernel_rfl)) (fun _ _ _ h => h) (Or.inl ⟨by rfl, ?_⟩) ?_ ?_
                        rotate_left
                        · intro w'
                          go_simp
                          with_reducible rfl
                        rotate_left
                        · simp only [Act.put, List.setIfInBounds_toArray, List.set_cons_zero, List.set_cons_succ, i64_w, i32_w]
                          rfl
                        refine pure_ (i := 2) (N := some 83) (v := ?_) (a' := ?_) #[true, true, true, false, false, false, false, false, false, false, false, false, false, false, false, false, false, false, false, false, false, false, false, false, false, false, false, false, false] rfl rfl (any_of HT_.out (by kernel_rfl)) (fun _ _ _ h => h) (Or.inl ⟨by rfl, ?_⟩) ?_ ?_
                        rotate_left
                        · intro w'
                          go_simp
                          with_reducible rfl
                        rotate_left
                        · simp only [Act.put, List.setIfInBounds_toArray, List.set_cons_zero, List.set_cons_succ, i64_w, i32_w]
                          rfl
                        refine pure_ (i := 3) (N := some 84) (v := ?_) (a' := ?_) #[true, true, true, true, false, false, false, false, false, false, false, false, false, false, false, false, false, false, false, false, false, false, false, false, false, false, false, false, false] rfl rfl (any_of HT_.out (by kernel_rfl)) (fun _ _ _ h => h) (Or.inl ⟨by rfl, ?_⟩) ?_ ?_
                        rotate_left
                        · intro w'
                          go_simp
                          with_reducible rfl
                        rotate_left
                        · simp only [Act.put, List.setIfInBounds_toArray, List.set_cons_zero, List.set_cons_succ, i64_w, i32_w]
                          rfl
                        refine pure_ (i := 4) (N := some 85) (v := ?_) (a' := ?_) #[true, true, true, true, true, false, false, false, false, false, false, false, false, false, false, false, false, false, false, false, false, false, false, false, false, false, false, false, false] rfl rfl (any_of HT_.out (by kernel_rfl)) (fun _ _ _ h => h) (Or.inl ⟨by rfl, ?_⟩) ?_ ?_
                        rotate_left
                        · intro w'
                          go_simp
                          with_reducible rfl
                        rotate_left
                        · simp only [Act.put, List.setIfInBounds_toArray, List.set_cons_zero, List.set_cons_succ, i64_w, i32_w]
                          rfl
                        refine pure_ (i := 5) (N := some 86) (v := ?_) (a' := ?_) #[true, true, true, true, true, true, false, false, false, false, false, false, false, false, false, false, false, false, false, false, false, false, false, false, false, false, false, false, false] rfl rfl (any_of HT_.out (by kernel_rfl)) (fun _ _ _ h => h) (Or.inl ⟨by rfl, ?_⟩) ?_ ?_
                        rotate_left
                        · intro w'
                          go_simp
                          with_reducible rfl
                        rotate_left
                        · simp only [Act.put, List.setIfInBounds_toArray, List.set_cons_zero, List.set_cons_succ, i64_w, i32_w]
                          rfl
                        refine pure_ (i := 6) (N := some 87) (v := ?_) (a' := ?_) #[true, true, true, true, true, true, true, false, false, false, false, false, false, false, false, false, false, false, false, false, false, false, false, false, false, false, false, false, false] rfl rfl (any_of HT_.out (by kernel_rfl)) (fun _ _ _ h => h) (Or.inl ⟨by rfl, ?_⟩) ?_ ?_
                        rotate_left
                        · intro w'
                          go_simp
                          with_reducible rfl
                        rotate_left
                        · simp only [Act.put, List.setIfInBounds_toArray, List.set_cons_zero, List.set_cons_succ, i64_w, i32_w]
                          rfl
                        refine pure_ (i := 7) (N := some 88) (v := ?_) (a' := ?_) #[true, true, true, true, true, true, true, true, false, false, false, false, false, false, false, false, false, false, false, false, false, false, false, false, false, false, false, false, false] rfl rfl (any_of HT_.out (by kernel_rfl)) (fun _ _ _ h => h) (Or.inl ⟨by rfl, ?_⟩) ?_ ?_
                        rotate_left
                        · intro w'
                          go_simp
                          with_reducible rfl
                        rotate_left
                        · simp only [Act.put, List.setIfInBounds_toArray, List.set_cons_zero, List.set_cons_succ, i64_w, i32_w]
                          rfl
                        refine pure_ (i := 8) (N := some 89) (v := ?_) (a' := ?_) #[true, true, true, true, true, true, true, true, true, false, false, false, false, false, false, false, false, false, false, false, false, false, false, false, false, false, false, false, false] rfl rfl (any_of HT_.out (by kernel_rfl)) (fun _ _ _ h => h) (Or.inl ⟨by rfl, ?_⟩) ?_ ?_
                        rotate_left
                        · intro w'
                          go_simp
                          with_reducible rfl
                        rotate_left
                        · simp only [Act.put, List.setIfInBounds_toArray, List.set_cons_zero, List.set_cons_succ, i64_w, i32_w]
                          rfl
                        refine pure_ (i := 9) (N := some 90) (v := ?_) (a' := ?_) #[true, true, true, true, true, true, true, true, true, true, false, false, false, false, false, false, false, false, false, false, false, false, false, false, false, false, false, false, false] rfl rfl (any_of HT_.out (by kernel_rfl)) (fun _ _ _ h => h) (Or.inl ⟨by rfl, ?_⟩) ?_ ?_
                        rotate_left
                        · intro w'
                          go_simp
                          with_reducible rfl
                        rotate_left
                        · simp only [Act.put, List.setIfInBounds_toArray, List.set_cons_zero, List.set_cons_succ, i64_w, i32_w]
                          rfl
                        refine take_ (i := 10) (N := some 91) (v := ?_) (a' := ?_) #[true, true, true, true, true, true, true, true, true, true, true, false, false, false, false, false, false, false, false, false, false, false, false, false, false, false, false, false, false] rfl rfl (take_ofW HT_.out HW_.out (by kernel_rfl)) (fun _ _ _ h => h) (Or.inl ⟨by rfl, ?_⟩) hHeld ?_ ?_
                        rotate_left
                        · rintro w' ⟨s0, s1, s2, s3, s4, s5⟩
                          go_simp
                          with_reducible rfl
                        rotate_left
                        · simp only [Act.put, List.setIfInBounds_toArray, List.set_cons_zero, List.set_cons_succ, i64_w, i32_w]
                          rfl
                        refine take_ (i := 11) (N := some 92) (v := ?_) (a' := ?_) #[true, true, true, true, true, true, true, true, true, true, true, true, false, false, false, false, false, false, false, false, false, false, false, false, false, false, false, false, false] rfl rfl (take_ofW HT_.out HW_.out (by kernel_rfl)) (fun _ _ _ h => h) (Or.inl ⟨by rfl, ?_⟩) hHeld ?_ ?_
                        rotate_left
                        · rintro w' ⟨s0, s1, s2, s3, s4, s5⟩
                          go_simp
                          with_reducible rfl
                        rotate_left
                        · simp only [Act.put, List.setIfInBounds_toArray, List.set_cons_zero, List.set_cons_succ, i64_w, i32_w]
                          rfl
                        refine pure_ (i := 12) (N := some 93) (v := ?_) (a' := ?_) #[true, true, true, true, true, true, true, true, true, true, true, true, true, false, false, false, false, false, false, false, false, false, false, false, false, false, false, false, false] rfl rfl (any_of HT_.out (by kernel_rfl)) (fun _ _ _ h => h) (Or.inl ⟨by rfl, ?_⟩) ?_ ?_
                        rotate_left
                        · intro w'
                          go_simp
                          with_reducible rfl
                        rotate_left
                        · simp only [Act.put, List.setIfInBounds_toArray, List.set_cons_zero, List.set_cons_succ, i64_w, i32_w]
                          rfl
                        refine pure_ (i := 13) (N := some 94) (v := ?_) (a' := ?_) #[true, true, true, true, true, true, true, true, true, true, true, true, true, true, false, false, false, false, false, false, false, false, false, false, false, false, false, false, false] rfl rfl (any_of HT_.out (by kernel_rfl)) (fun _ _ _ h => h) (Or.inl ⟨by rfl, ?_⟩) ?_ ?_
                        rotate_left
                        · intro w'
                          go_simp
                          with_reducible rfl
                        rotate_left
                        · simp only [Act.put, List.setIfInBounds_toArray, List.set_cons_zero, List.set_cons_succ, i64_w, i32_w]
                          rfl
                        refine pure_ (i := 14) (N := some 95) (v := ?_) (a' := ?_) #[true, true, true, true, true, true, true, true, true, true, true, true, true, true, true, false, false, false, false, false, false, false, false, false, false, false, false, false, false] rfl rfl (any_of HT_.out (by kernel_rfl)) (fun _ _ _ h => h) (Or.inl ⟨by rfl, ?_⟩) ?_ ?_
                        rotate_left
                        · intro w'
                          go_simp
                          with_reducible rfl
                        rotate_left
                        · simp only [Act.put, List.setIfInBounds_toArray, List.set_cons_zero, List.set_cons_succ, i64_w, i32_w]
                          rfl
                        refine pure_ (i := 15) (N := some 96) (v := ?_) (a' := ?_) #[true, true, true, true, true, true, true, true, true, true, true, true, true, true, true, true, false, false, false, false, false, false, false, false, false, false, false, false, false] rfl rfl (any_of HT_.out (by kernel_rfl)) (fun _ _ _ h => h) (Or.inl ⟨by rfl, ?_⟩) ?_ ?_
                        rotate_left
                        · intro w'
                          go_simp
                          with_reducible rfl
                        rotate_left
                        · simp only [Act.put, List.setIfInBounds_toArray, List.set_cons_zero, List.set_cons_succ, i64_w, i32_w]
                          rfl
                        refine pure_ (i := 16) (N := some 97) (v := ?_) (a' := ?_) #[true, true, true, true, true, true, true, true, true, true, true, true, true, true, true, true, true, false, false, false, false, false, false, false, false, false, false, false, false] rfl rfl (any_of HT_.out (by kernel_rfl)) (fun _ _ _ h => h) (Or.inl ⟨by rfl, ?_⟩) ?_ ?_
                        rotate_left
                        · intro w'
                          go_simp
                          with_reducible rfl
                        rotate_left
                        · simp only [Act.put, List.setIfInBounds_toArray, List.set_cons_zero, List.set_cons_succ, i64_w, i32_w]
                          rfl
                        refine pure_ (i := 17) (N := some 98) (v := ?_) (a' := ?_) #[true, true, true, true, true, true, true, true, true, true, true, true, true, true, true, true, true, true, false, false, false, false, false, false, false, false, false, false, false] rfl rfl (any_of HT_.out (by kernel_rfl)) (fun _ _ _ h => h) (Or.inl ⟨by rfl, ?_⟩) ?_ ?_
                        rotate_left
                        · intro w'
                          go_simp
                          with_reducible rfl
                        rotate_left
                        · simp only [Act.put, List.setIfInBounds_toArray, List.set_cons_zero, List.set_cons_succ, i64_w, i32_w]
                          rfl
                        refine pure_ (i := 18) (N := some 99) (v := ?_) (a' := ?_) #[true, true, true, true, true, true, true, true, true, true, true, true, true, true, true, true, true, true, true, false, false, false, false, false, false, false, false, false, false] rfl rfl (any_of HT_.out (by kernel_rfl)) (fun _ _ _ h => h) (Or.inl ⟨by rfl, ?_⟩) ?_ ?_
                        rotate_left
                        · intro w'
                          go_simp
                          with_reducible rfl
                        rotate_left
                        · simp only [Act.put, List.setIfInBounds_toArray, List.set_cons_zero, List.set_cons_succ, i64_w, i32_w]
                          rfl
                        refine pure_ (i := 19) (N := some 100) (v := ?_) (a' := ?_) #[true, true, true, true, true, true, true, true, true, true, true, true, true, true, true, true, true, true, true, true, false, false, false, false, false, false, false, false, false] rfl rfl (any_of HT_.out (by kernel_rfl)) (fun _ _ _ h => h) (Or.inl ⟨by rfl, ?_⟩) ?_ ?_
                        rotate_left
                        · intro w'
                          go_simp
                          with_reducible rfl
                        rotate_left
                        · simp only [Act.put, List.setIfInBounds_toArray, List.set_cons_zero, List.set_cons_succ, i64_w, i32_w]
                          rfl
                        refine pure_ (i := 21) (N := some 102) (v := ?_) (a' := ?_) #[true, true, true, true, true, true, true, true, true, true, true, true, true, true, true, true, true, true, true, true, false, true, false, false, false, false, false, false, false] rfl rfl (any_of HT_.out (by kernel_rfl)) (fun _ _ _ h => h) (Or.inl ⟨by rfl, ?_⟩) ?_ ?_
                        rotate_left
                        · intro w'
                          go_simp
                          with_reducible rfl
                        rotate_left
                        · simp only [Act.put, List.setIfInBounds_toArray, List.set_cons_zero, List.set_cons_succ, i64_w, i32_w]
                          rfl
                        refine pure_ (i := 24) (N := some 105) (v := ?_) (a' := ?_) #[true, true, true, true, true, true, true, true, true, true, true, true, true, true, true, true, true, true, true, true, false, true, false, false, true, false, false, false, false] rfl rfl (any_of HT_.out (by kernel_rfl)) (fun _ _ _ h => h) (Or.inl ⟨by rfl, ?_⟩) ?_ ?_
                        rotate_left
                        · intro w'
                          go_simp
                          with_reducible rfl
                        rotate_left
                        · simp only [Act.put, List.setIfInBounds_toArray, List.set_cons_zero, List.set_cons_succ, i64_w, i32_w]
                          rfl
                        refine take_ (i := 20) (N := some 101) (v := ?_) (a' := ?_) #[true, true, true, true, true, true, true, true, true, true, true, true, true, true, true, true, true, true, true, true, true, true, false, false, true, false, false, false, false] rfl rfl (take_ofW HT_.out HW_.out (by kernel_rfl)) (fun _ _ _ h => h) (Or.inl ⟨by rfl, ?_⟩) hHeld ?_ ?_
                        rotate_left
                        · rintro w' ⟨s0, s1, s2, s3, s4, s5⟩
                          go_simp
                          with_reducible rfl
                        rotate_left
                        · simp only [Act.put, List.setIfInBounds_toArray, List.set_cons_zero, List.set_cons_succ, i64_w, i32_w]
                          rfl
                        refine take_ (i := 23) (N := some 104) (v := ?_) (a' := ?_) #[true, true, true, true, true, true, true, true, true, true, true, true, true, true, true, true, true, true, true, true, true, true, false, true, true, false, false, false, false] rfl rfl (take_ofW HT_.out HW_.out (by kernel_rfl)) (fun _ _ _ h => h) (Or.inl ⟨by rfl, ?_⟩) hHeld ?_ ?_
                        rotate_left
                        · rintro w' ⟨s0, s1, s2, s3, s4, s5⟩
                          go_simp
                          with_reducible rfl
                        rotate_left
                        · simp only [Act.put, List.setIfInBounds_toArray, List.set_cons_zero, List.set_cons_succ, i64_w, i32_w]
                          rfl
                        refine one_ (i := 22) (N := some 103) #[true, true, true, true, true, true, true, true, true, true, true, true, true, true, true, true, true, true, true, true, true, true, true, true, true, false, false, false, false] rfl rfl (one_of HT_.out (by kernel_rfl)) (by decide) (fun K hK => ?_)
                        refine goes_ Try.func12 (by kernel_rfl) rfl #[.agg #[.int .i64 a0_0, .int .i64 a0_1], .slice A1 l1.length c1] (by rfl) rfl rfl (by (try simp only [List.map_toArray, List.map_cons, List.map_nil]); first | done | rfl | (simp only [List.length_drop, List.length_take]; rfl)) ?_
                        with_reducible refine (extent_Right.calls kj18 a0_0 a0_1 _ _ l1 t267 _ ?side1 ?side2 A59.out).mono ?_
                        (case side1 => repeat (first | exact (Kd.C_below HR1.out HB.out) | (with_reducible refine Kd.C_alloc ?_ _) | (with_reducible refine Kd.C_drewN ?_ _) | (with_reducible refine Kd.C_drew ?_)))
                        (case side2 => exact HC1.out)
                        rintro e w63 ⟨rfl, hb⟩
                        refine ⟨_, rfl, ?_⟩
                        have n0_ := Aside0.mk (Kd.R_below (by (with_reducible repeat (first | apply Kd.R_alloc | apply Kd.R_drewN | apply Kd.R_drew)); exact HO_7.out) hb)
                        have n1_ := Aside0.mk (blk_below (g := gb232) (o := .cells #[.int .i64 a0_0, .int .i64 a0_1] 23 (0, 0)) (by (with_reducible repeat (first | refine blk_drewN ?_ _ | refine blk_drew ?_ | refine blk_alloc ?_ _)); exact BK232.out) hb)
                        have n2_ := Aside0.mk (blk_below (g := gb249) (o := .cells #[.int .i64 t246, .int .i64 t247] 23 (0, 0)) (by (with_reducible repeat (first | refine blk_drewN ?_ _ | refine blk_drew ?_ | refine blk_alloc ?_ _)); exact BK249.out) hb)
                        have n3_ := Aside0.mk (blk_below (g := gb253) (o := .cells #[.int .i64 t250, .int .i64 t251] 23 (0, 0)) (by (with_reducible repeat (first | refine blk_drewN ?_ _ | refine blk_drew ?_ | refine blk_alloc ?_ _)); exact BK253.out) hb)
                        have n4_ := Aside0.mk (below_step (by repeat (first | (with_reducible first | exact HB.out | apply below_alloc | apply pw_below_drewN | apply below_drew1 | refine below_set ?_ GE232.out | refine below_set ?_ GE249.out | refine below_set ?_ GE253.out) | exact HB.out)) hb)
                        clear HO_7
                        clear BK232
                        clear BK249
                        clear BK253
                        clear HB
                        have HO_7 := n0_
                        have BK232 := n1_
                        have BK249 := n2_
                        have BK253 := n3_
                        have HB := n4_
                        clear n0_ n1_ n2_ n3_ n4_
                        (try clear hb)
                        (try clear hb2)
                        (try clear hk)
                        (try clear hi)
                        refine hK.out _ _ ⟨(blk_cell BK249.out 0).trans rfl, (blk_cell BK249.out 1).trans rfl, (blk_cell BK253.out 0).trans rfl, (blk_cell BK253.out 1).trans rfl, (blk_cell BK232.out 0).trans rfl, (blk_cell BK232.out 1).trans rfl⟩ (fun hHeld => ?_)
                        clear hK K
                        refine norm_ (a' := ?_) ?_ ?_
                        rotate_left
                        · show Act.put _ (some 103) _ = _
                          simp only [Act.put, List.setIfInBounds_toArray, List.set_cons_zero, List.set_cons_succ, i64_w, i32_w]
                          rfl
                        refine one_ (i := 25) (N := some 106) #[true, true, true, true, true, true, true, true, true, true, true, true, true, true, true, true, true, true, true, true, true, true, true, true, true, true, false, false, false] rfl rfl (one_of HT_.out (by kernel_rfl)) (by decide) (fun K hK => ?_)
                        refine goes_ Try.func12 (by kernel_rfl) rfl #[.agg #[.int .i64 a0_0, .int .i64 a0_1], .slice Ao23 x7_1.length co23] (by rfl) rfl rfl (by (try simp only [List.map_toArray, List.map_cons, List.map_nil]); first | done | rfl | (simp only [List.length_drop, List.length_take]; rfl)) ?_
                        with_reducible refine (extent_Right.calls kj18 a0_0 a0_1 _ _ x7_1 t268 _ ?side1 ?side2 A60.out).mono ?_
                        (case side1 => repeat (first | exact (Kd.R_reads' HO_7.out).2.2 | (with_reducible refine Kd.C_alloc ?_ _) | (with_reducible refine Kd.C_drewN ?_ _) | (with_reducible refine Kd.C_drew ?_)))
                        (case side2 => exact (Kd.R_reads' HO_7.out).2.1)
                        rintro e w64 ⟨rfl, hb⟩
                        refine ⟨_, rfl, ?_⟩
                        have n0_ := Aside0.mk (Kd.R_below (by (with_reducible repeat (first | apply Kd.R_alloc | apply Kd.R_drewN | apply Kd.R_drew)); exact HO_7.out) hb)
                        have n1_ := Aside0.mk (blk_below (g := gb232) (o := .cells #[.int .i64 a0_0, .int .i64 a0_1] 23 (0, 0)) (by (with_reducible repeat (first | refine blk_drewN ?_ _ | refine blk_drew ?_ | refine blk_alloc ?_ _)); exact BK232.out) hb)
                        have n2_ := Aside0.mk (blk_below (g := gb249) (o := .cells #[.int .i64 t246, .int .i64 t247] 23 (0, 0)) (by (with_reducible repeat (first | refine blk_drewN ?_ _ | refine blk_drew ?_ | refine blk_alloc ?_ _)); exact BK249.out) hb)
                        have n3_ := Aside0.mk (blk_below (g := gb253) (o := .cells #[.int .i64 t250, .int .i64 t251] 23 (0, 0)) (by (with_reducible repeat (first | refine blk_drewN ?_ _ | refine blk_drew ?_ | refine blk_alloc ?_ _)); exact BK253.out) hb)
                        have n4_ := Aside0.mk (below_step (by repeat (first | (with_reducible first | exact HB.out | apply below_alloc | apply pw_below_drewN | apply below_drew1 | refine below_set ?_ GE232.out | refine below_set ?_ GE249.out | refine below_set ?_ GE253.out) | exact HB.out)) hb)
                        clear HO_7
                        clear BK232
                        clear BK249
                        clear BK253
                        clear HB
                        have HO_7 := n0_
                        have BK232 := n1_
                        have BK249 := n2_
                        have BK253 := n3_
                        have HB := n4_
                        clear n0_ n1_ n2_ n3_ n4_
                        (try clear hb)
                        (try clear hb2)
                        (try clear hk)
                        (try clear hi)
                        refine hK.out _ _ ⟨(blk_cell BK249.out 0).trans rfl, (blk_cell BK249.out 1).trans rfl, (blk_cell BK253.out 0).trans rfl, (blk_cell BK253.out 1).trans rfl, (blk_cell BK232.out 0).trans rfl, (blk_cell BK232.out 1).trans rfl⟩ (fun hHeld => ?_)
                        clear hK K
                        refine norm_ (a' := ?_) ?_ ?_
                        rotate_left
                        · show Act.put _ (some 106) _ = _
                          simp only [Act.put, List.setIfInBounds_toArray, List.set_cons_zero, List.set_cons_succ, i64_w, i32_w]
                          rfl
                        refine pure_ (i := 26) (N := some 107) (v := ?_) (a' := ?_) #[true, true, true, true, true, true, true, true, true, true, true, true, true, true, true, true, true, true, true, true, true, true, true, true, true, true, true, false, false] rfl rfl (any_of HT_.out (by kernel_rfl)) (fun _ _ _ h => h) (Or.inl ⟨by rfl, ?_⟩) ?_ ?_
                        rotate_left
                        · intro w'
                          go_simp
                          with_reducible rfl
                        rotate_left
                        · simp only [Act.put, List.setIfInBounds_toArray, List.set_cons_zero, List.set_cons_succ, i64_w, i32_w]
                          rfl
                        refine pure_ (i := 27) (N := some 108) (v := ?_) (a' := ?_) #[true, true, true, true, true, true, true, true, true, true, true, true, true, true, true, true, true, true, true, true, true, true, true, true, true, true, true, true, false] rfl rfl (any_of HT_.out (by kernel_rfl)) (fun _ _ _ h => h) (Or.inl ⟨by rfl, ?_⟩) ?_ ?_
                        rotate_left
                        · intro w'
                          go_simp
                          with_reducible rfl
                        rotate_left
                        · simp only [Act.put, List.setIfInBounds_toArray, List.set_cons_zero, List.set_cons_succ, i64_w, i32_w]
                          rfl
                        refine pure_ (i := 28) (N := some 6) (v := ?_) (a' := ?_) #[true, true, true, true, true, true, true, true, true, true, true, true, true, true, true, true, true, true, true, true, true, true, true, true, true, true, true, true, true] rfl rfl (any_of HT_.out (by kernel_rfl)) (fun _ _ _ h => h) (Or.inl ⟨by rfl, ?_⟩) ?_ ?_
                        rotate_left
                        · intro w'
                          go_simp
                          with_reducible rfl
                        rotate_left
                        · simp only [Act.put, List.setIfInBounds_toArray, List.set_cons_zero, List.set_cons_succ, i64_w, i32_w]
                          rfl
                        refine done_ (done_of HT_.out (by kernel_rfl)) ?_
                        try go_wp2
                        go_ret
                        exact ⟨by first | rfl | (simp [errW_none, errW_some] <;> rfl) | (simp [*, errW_none, errW_some] <;> rfl), by repeat (first | (with_reducible first | exact HB.out | apply below_alloc | apply pw_below_drewN | apply below_drew1 | refine below_set ?_ GE232.out | refine below_set ?_ GE249.out | refine below_set ?_ GE253.out) | exact HB.out)⟩
                      · rw [if_neg c58] at H
                        have c58b0 : (t248 == t252) = false := beq_eq_false_iff_ne.mpr c58
                        have c58b1 : (t248 != t252) = true := bne_iff_ne.mpr c58
                        exact absurd H (by simp)
                    · rw [if_neg c57] at H
                      have c57b0 : (t246 == t250 && (t247 == t251)) = false := by simpa using c57
                      (try (have c57b1 : decide (t246 = t250 && (t247 == t251)) = false := by simpa using c57))
                      (try (have c57b2 : (t246 == t250 && (t247 == t251)) = false := by simpa using c57))
                      (try (have c57b3 : ¬ (t246 = t250 && (t247 == t251)) := by simpa using c57))
                      clear c57
                      exact absurd H (by simp)
                  · rw [if_neg c56] at H
                    have c56b0 : (t241 == t245) = false := beq_eq_false_iff_ne.mpr c56
                    have c56b1 : (t241 != t245) = true := bne_iff_ne.mpr c56
                    exact absurd H (by simp)
                · replace c55 := Bool.eq_false_iff.mpr c55
                  subst c55
                  have H1 : (none) = some r := by rw [if_neg (show ¬ (false = true) by decide)] at H; exact H
                  clear H
                  have H := H1
                  clear H1
                  exact absurd H (by simp)
              · replace c54 := Bool.eq_false_iff.mpr c54
                subst c54
                have H1 : (none) = some r := by rw [if_neg (show ¬ (false = true) by decide)] at H; exact H
                clear H
                have H := H1
                clear H1
                exact absurd H (by simp)

end Go.Proofs.Ytflmlejgahnppaa.PExt
