/- Written by a program of this session out of the translation: the kit's print, run from a copy in which some functions are given by hand. -/
import Derived.Test.YtflmlejgahnppaaPExtx0
import Derived.Test.YtflmlejgahnppaaPExtx6
import Derived.Test.YtflmlejgahnppaaPExtx7
namespace Go.Proofs.Ytflmlejgahnppaa.PExt
open Go.RowKit Go.Proofs.YtflmlejgahnppaaW.PrintWords Go.Proofs.YtflmlejgahnppaaW.PrintLast Go.Proofs.YtflmlejgahnppaaW.PrintMore
attribute [local go_sem] max2_int min2_int max_two min_two max_three min_three max_four min_four   -- for this text's walks alone
set_option linter.unusedVariables false
set_option linter.unusedSimpArgs false

/-! ### oakumref11_Gaps: function 8 -/
def oakumref11_Gaps.l0 : Nat → List (S23) → List (S23) → Bool → Int → Int → Int → Option ((List (S23)) × Int)
  | 0, _, _, _, _, _, _ => none
  | k + 1, x1, x7, x8, x9, x150000, x150001 => if x9 < (wrap64 (x150000 + x150001)) then ((oakumref11_has.f k x1 x9).bind fun t151 => (if t151 = true then (oakumref11_Gaps.l0 k x1 x7 false (wrap64 (x9 + 1)) x150000 x150001) else (if x8 = true then (if 0 ≤ (wrap64 ((x7.length : Int) - 1)) then (if (wrap64 ((x7.length : Int) - 1)) < (x7.length : Int) then (oakumref11_Gaps.l0 k x1 (x7.set ((wrap64 ((x7.length : Int) - 1)) : Int).toNat (⟨(rd_T23 x7 (wrap64 ((x7.length : Int) - 1))).f0, wrap64 (((rd_T23 x7 (wrap64 ((x7.length : Int) - 1))).f1) + 1)⟩ : S23)) x8 (wrap64 (x9 + 1)) x150000 x150001) else (none)) else (none)) else (if x7.length < 8796093022208 then (oakumref11_Gaps.l0 k x1 (x7 ++ [(⟨x9, 1⟩ : S23)]) true (wrap64 (x9 + 1)) x150000 x150001) else (none))))) else (some (x7, 0))
def oakumref11_Gaps.f (k : Nat) (a0_0 : Int) (a0_1 : Int) (l1 : List (S23)) : Option ((List (S23)) × Int) := (oakumref11_Right.f k a0_0 a0_1 l1).bind fun t150 => (if t150 = true then (oakumref11_Gaps.l0 k l1 ([] : List (S23)) false a0_0 a0_0 a0_1) else (some (([] : List (S23)), 1)))
theorem oakumref11_Gaps.mono_l : ∀ k, (∀ y0 y1 y2 y3 y4 y5, LeO (oakumref11_Gaps.l0 k y0 y1 y2 y3 y4 y5) (oakumref11_Gaps.l0 (k + 1) y0 y1 y2 y3 y4 y5))
  | 0 => fun _ _ _ _ _ _ r h => by simp [oakumref11_Gaps.l0] at h
  | k + 1 => by
    have ih0 := oakumref11_Gaps.mono_l k
    · intro y0 y1 y2 y3 y4 y5
      unfold oakumref11_Gaps.l0
      repeat' first
      | (with_reducible exact ih0 _ _ _ _ _ _)
      | (with_reducible exact oakumref11_Right.mono _ _ _ _)
      | (with_reducible exact oakumref11_has.mono _ _ _)
      | (with_reducible exact LeO.refl _)
      | (with_reducible exact LeO.none _)
      | (with_reducible refine LeO.ite ?_ ?_)
      | (with_reducible refine LeO.bind ?_ (fun _ => ?_))
      | exact ih0 _ _ _ _ _ _
      | exact oakumref11_Right.mono _ _ _ _
      | exact oakumref11_has.mono _ _ _
      | exact LeO.none _
      | refine LeO.ite ?_ ?_
      | refine LeO.bind ?_ (fun _ => ?_)
theorem oakumref11_Gaps.mono : ∀ a0 a1 a2 k, LeO (oakumref11_Gaps.f k a0 a1 a2) (oakumref11_Gaps.f (k + 1) a0 a1 a2) := by
  intro a0 a1 a2 k
  have ih0 := oakumref11_Gaps.mono_l k
  unfold oakumref11_Gaps.f
  repeat' first
      | (with_reducible exact ih0 _ _ _ _ _ _)
      | (with_reducible exact oakumref11_Right.mono _ _ _ _)
      | (with_reducible exact oakumref11_has.mono _ _ _)
      | (with_reducible exact LeO.refl _)
      | (with_reducible exact LeO.none _)
      | (with_reducible refine LeO.ite ?_ ?_)
      | (with_reducible refine LeO.bind ?_ (fun _ => ?_))
      | exact ih0 _ _ _ _ _ _
      | exact oakumref11_Right.mono _ _ _ _
      | exact oakumref11_has.mono _ _ _
      | exact LeO.none _
      | refine LeO.ite ?_ ?_
      | refine LeO.bind ?_ (fun _ => ?_)
set_option maxHeartbeats 8000000 in
set_option maxRecDepth 100000 in
theorem oakumref11_Gaps.calls (k : Nat) (a0_0 : Int) (a0_1 : Int) (A1 : Option Addr) (c1 : Nat) (l1 : List (S23)) (r1 : List (S23)) (r2 : Int) (w : World) (hr1 : Kd.C k23 w A1 l1.length l1) (hc1 : l1.length ≤ c1) (h : oakumref11_Gaps.f k a0_0 a0_1 l1 = some (r1, r2)) :
    Calls Try.prog 8 #[.agg #[.int .i64 a0_0, .int .i64 a0_1], .slice A1 l1.length c1] w fun e w' => ∃ v0_ : Value, e = .returned (.tuple #[v0_, .int .i64 r2]) ∧ Kd.R k23 23 w' w.heap.size (fun _ => True) v0_ r1 ∧ Below w.heap.size w w' := by
  have hu23 := Try.underlying23
  have HR1 := Aside0.mk hr1
  have HC1 := Aside0.mk hc1
  clear hr1 hc1
  have HB := Aside0.mk (Below.refl w.heap.size w)
  have H : ((oakumref11_Right.f k a0_0 a0_1 l1).bind fun t150 => (if t150 = true then (oakumref11_Gaps.l0 k l1 ([] : List (S23)) false a0_0 a0_0 a0_1) else (some (([] : List (S23)), 1)))) = some (r1, r2) := h
  clear h
  replace H := Option.bind_eq_some_iff.mp H
  obtain ⟨t150, A30, H⟩ := H
  replace H : (if t150 = true then (oakumref11_Gaps.l0 k l1 ([] : List (S23)) false a0_0 a0_0 a0_1) else (some (([] : List (S23)), 1))) = some (r1, r2) := H
  have A3 := Aside0.mk A30
  clear A30
  by_cases c4 : t150 = true
  · subst c4
    have H1 : (oakumref11_Gaps.l0 k l1 ([] : List (S23)) false a0_0 a0_0 a0_1) = some (r1, r2) := by rw [if_pos rfl] at H; exact H
    clear H
    have H := H1
    clear H1
    have H' := Aside0.mk H
    clear H
    go_enter Try.func8, Try.ntmps8
    go_wp2_with (first | ((with_reducible refine gate_dst (N := 2) rfl ?_); refine box_event ?hg (N := 2) ?hd (cs := #[.int .i64 a0_0, .int .i64 a0_1]) (t := 23) ?hr ?_; (case hd => rfl); (case hg => rfl); (case hr => first | (go_simp; done) | (go_simp; rfl)); intro gb149 hg w5 hbox hb; have n0_ := Aside0.mk (below_step (by repeat (first | (with_reducible first | exact HB.out | apply below_alloc | apply pw_below_drewN | apply below_drew1) | exact HB.out)) hb); have n1_ := Aside0.mk (hbox); have n2_ := Aside0.mk ((by rw [hg]; exact (below_size (by repeat (first | (with_reducible first | exact HB.out | apply below_alloc | apply pw_below_drewN | apply below_drew1) | exact HB.out))) : w.heap.size ≤ gb149)); have n3_ := Aside0.mk ((by rw [hg]; exact (below_size (by repeat (first | (with_reducible first | exact HB.out | apply below_alloc | apply pw_below_drewN | apply below_drew1) | exact HB.out))) : w.heap.size ≤ gb149)); clear HB; have HB := n0_; have BK149 := n1_; have GW149 := n2_; have GE149 := n3_; clear n0_ n1_ n2_ n3_; clear hb hbox hg; have hcz6_0 : w5.cell? ⟨gb149, 0, none⟩ = some (.int .i64 a0_0) := (blk_cell BK149.out 0).trans rfl; have hcz6_1 : w5.cell? ⟨gb149, 1, none⟩ = some (.int .i64 a0_1) := (blk_cell BK149.out 1).trans rfl; have hfz6_0 := blk_frozen BK149.out 0; have hfz6_1 := blk_frozen BK149.out 1) | ((with_reducible refine gate_callee (f := 13) rfl ?_); refine goesL_ (some 13) rfl rfl Try.func13 (by kernel_rfl) rfl #[.agg #[.int .i64 a0_0, .int .i64 a0_1], .slice A1 l1.length c1] rfl (by (try simp only [List.map_toArray, List.map_cons, List.map_nil]); first | done | rfl | (simp only [List.length_drop, List.length_take]; rfl)) ?_; (with_reducible refine (oakumref11_Right.calls k a0_0 a0_1 _ _ l1 true _ ?side1 ?side2 A3.out).mono ?_); (case side1 => repeat (first | exact (Kd.C_below HR1.out HB.out) | (with_reducible refine Kd.C_alloc ?_ _) | (with_reducible refine Kd.C_drewN ?_ _) | (with_reducible refine Kd.C_drew ?_))); (case side2 => exact HC1.out); rintro e w7 ⟨rfl, hb⟩; refine ⟨_, rfl, ?_⟩; have n0_ := Aside0.mk (blk_below (g := gb149) (o := .cells #[.int .i64 a0_0, .int .i64 a0_1] 23 (0, 0)) (by (with_reducible repeat (first | refine blk_drewN ?_ _ | refine blk_drew ?_ | refine blk_alloc ?_ _)); exact BK149.out) hb); have n1_ := Aside0.mk (below_step (by repeat (first | (with_reducible first | exact HB.out | apply below_alloc | apply pw_below_drewN | apply below_drew1 | refine below_set ?_ GE149.out) | exact HB.out)) hb); clear BK149; clear HB; have BK149 := n0_; have HB := n1_; clear n0_ n1_; (try clear hb); (try clear hb2); (try clear hk); (try clear hi); have hcz8_0 : w7.cell? ⟨gb149, 0, none⟩ = some (.int .i64 a0_0) := (blk_cell BK149.out 0).trans rfl; have hcz8_1 : w7.cell? ⟨gb149, 1, none⟩ = some (.int .i64 a0_1) := (blk_cell BK149.out 1).trans rfl; have hfz8_0 := blk_frozen BK149.out 0; have hfz8_1 := blk_frozen BK149.out 1))
    go_loopg [7, 8, 9] k (fun kq v7 v8 v9 w' => ∃ (x7_1 : List (S23)) (x8_1 : Bool) (x9_1 : Int) (x150001_1 : Int), v8 = .bool x8_1 ∧ v9 = .int .i64 x9_1 ∧ Aside0 (oakumref11_Gaps.l0 kq l1 x7_1 x8_1 x9_1 a0_0 x150001_1 = some (r1, r2)) ∧ Aside0 (kq ≤ k) ∧ Aside0 (Kd.R k23 23 w' w.heap.size (fun k_ => k_ ≠ gb149) v7 x7_1) ∧ Aside0 (w'.heap[gb149]? = some (.cells #[.int .i64 a0_0, .int .i64 x150001_1] 23 (0, 0))) ∧ Aside0 (Below w.heap.size w w'))
    case atStart => exact ⟨(([] : List (S23))), (false), (a0_0), (a0_1), (by first | rfl | (simp; done) | (simp [*]; done)), (by first | rfl | (simp; done) | (simp [*]; done)), H', ⟨Nat.le_refl _⟩, ⟨by first | exact Kd.R_nil _ _ _ _ _ | exact Kd.N_nil _ _ _ _ _ | exact Kd.V_nil _ _ _ _ _ | exact Kd.Q_nil _ _ _ _ _ | exact Kd.S_nil _ _ _ _ _⟩, ⟨by (with_reducible repeat (first | refine blk_drewN ?_ _ | refine blk_drew ?_ | refine blk_alloc ?_ _)); exact BK149.out⟩, ⟨by repeat (first | (with_reducible first | exact HB.out | apply below_alloc | apply pw_below_drewN | apply below_drew1 | refine below_set ?_ GE149.out) | exact HB.out)⟩⟩
    case round =>
      clear H'
      try clear c1
      try clear p2
      try clear c4
      try clear c8
      try clear hcz6_0
      try clear hcz6_1
      try clear hcz8_0
      try clear hcz8_1
      try clear hfz6_0
      try clear hfz6_1
      try clear hfz8_0
      try clear hfz8_1
      obtain ⟨x7_1, x8_1, x9_1, x150001_1, rfl, rfl, HA, HK1, HO_7, BK149, HB⟩ := hrel
      cases gk with
      | zero => exact absurd HA.out (by simp [oakumref11_Gaps.l0])
      | succ k1 =>
        have H := HA.out
        clear HA
        simp only [oakumref11_Gaps.l0] at H
        by_cases c9 : x9_1 < (wrap64 (a0_0 + x150001_1))
        · rw [if_pos c9] at H
          have c9b0 : decide (x9_1 < (wrap64 (a0_0 + x150001_1))) = true := decide_eq_true c9
          clear c9
          replace H := Option.bind_eq_some_iff.mp H
          obtain ⟨t151, A100, H⟩ := H
          replace H : (if t151 = true then (oakumref11_Gaps.l0 k1 l1 x7_1 false (wrap64 (x9_1 + 1)) a0_0 x150001_1) else (if x8_1 = true then (if 0 ≤ (wrap64 ((x7_1.length : Int) - 1)) then (if (wrap64 ((x7_1.length : Int) - 1)) < (x7_1.length : Int) then (oakumref11_Gaps.l0 k1 l1 (x7_1.set ((wrap64 ((x7_1.length : Int) - 1)) : Int).toNat (⟨(rd_T23 x7_1 (wrap64 ((x7_1.length : Int) - 1))).f0, wrap64 (((rd_T23 x7_1 (wrap64 ((x7_1.length : Int) - 1))).f1) + 1)⟩ : S23)) x8_1 (wrap64 (x9_1 + 1)) a0_0 x150001_1) else (none)) else (none)) else (if x7_1.length < 8796093022208 then (oakumref11_Gaps.l0 k1 l1 (x7_1 ++ [(⟨x9_1, 1⟩ : S23)]) true (wrap64 (x9_1 + 1)) a0_0 x150001_1) else (none)))) = some (r1, r2) := H
          have A10 := Aside0.mk A100
          clear A100
          by_cases c11 : t151 = true
          · subst c11
            have H1 : (oakumref11_Gaps.l0 k1 l1 x7_1 false (wrap64 (x9_1 + 1)) a0_0 x150001_1) = some (r1, r2) := by rw [if_pos rfl] at H; exact H
            clear H
            have H := H1
            clear H1
            have H' := Aside0.mk H
            clear H
            have hcz12_0 : wr.cell? ⟨gb149, 0, none⟩ = some (.int .i64 a0_0) := (blk_cell BK149.out 0).trans rfl
            have hcz12_1 : wr.cell? ⟨gb149, 1, none⟩ = some (.int .i64 x150001_1) := (blk_cell BK149.out 1).trans rfl
            have hfz12_0 := blk_frozen BK149.out 0
            have hfz12_1 := blk_frozen BK149.out 1
            go_wp2_with (first | ((with_reducible refine gate_callee (f := 18) rfl ?_); refine goesL_ (some 29) rfl rfl Try.func18 (by kernel_rfl) rfl #[.slice A1 l1.length c1, .int .i64 x9_1] rfl (by (try simp only [List.map_toArray, List.map_cons, List.map_nil]); first | done | rfl | (simp only [List.length_drop, List.length_take]; rfl)) ?_; (with_reducible refine (oakumref11_has.calls k1 _ _ l1 x9_1 true _ ?side1 ?side2 A10.out).mono ?_); (case side1 => repeat (first | exact (Kd.C_below HR1.out HB.out) | (with_reducible refine Kd.C_alloc ?_ _) | (with_reducible refine Kd.C_drewN ?_ _) | (with_reducible refine Kd.C_drew ?_))); (case side2 => exact HC1.out); rintro e w' ⟨rfl, ⟨nd, rfl⟩⟩; refine ⟨_, rfl, ?_⟩))
            go_roundg k1
            case measure => have := HK1.out; omega
            case rel => exact ⟨(x7_1), (false), (wrap64 (x9_1 + 1)), (x150001_1), (by first | rfl | (simp; done) | (simp [*]; done)), (by first | rfl | (simp; done) | (simp [*]; done)), H', ⟨by have := HK1.out; omega⟩, ⟨by (with_reducible repeat (first | apply Kd.R_alloc | apply Kd.R_drewN | apply Kd.R_drew)); exact HO_7.out⟩, ⟨by (with_reducible repeat (first | refine blk_drewN ?_ _ | refine blk_drew ?_ | refine blk_alloc ?_ _)); exact BK149.out⟩, ⟨by repeat (first | (with_reducible first | exact HB.out | apply below_alloc | apply pw_below_drewN | apply below_drew1 | refine below_set ?_ GE149.out) | exact HB.out)⟩⟩
          · replace c11 := Bool.eq_false_iff.mpr c11
            subst c11
            have H1 : (if x8_1 = true then (if 0 ≤ (wrap64 ((x7_1.length : Int) - 1)) then (if (wrap64 ((x7_1.length : Int) - 1)) < (x7_1.length : Int) then (oakumref11_Gaps.l0 k1 l1 (x7_1.set ((wrap64 ((x7_1.length : Int) - 1)) : Int).toNat (⟨(rd_T23 x7_1 (wrap64 ((x7_1.length : Int) - 1))).f0, wrap64 (((rd_T23 x7_1 (wrap64 ((x7_1.length : Int) - 1))).f1) + 1)⟩ : S23)) x8_1 (wrap64 (x9_1 + 1)) a0_0 x150001_1) else (none)) else (none)) else (if x7_1.length < 8796093022208 then (oakumref11_Gaps.l0 k1 l1 (x7_1 ++ [(⟨x9_1, 1⟩ : S23)]) true (wrap64 (x9_1 + 1)) a0_0 x150001_1) else (none))) = some (r1, r2) := by rw [if_neg (show ¬ (false = true) by decide)] at H; exact H
            clear H
            have H := H1
            clear H1
            by_cases c13 : x8_1 = true
            · subst c13
              have H1 : (if 0 ≤ (wrap64 ((x7_1.length : Int) - 1)) then (if (wrap64 ((x7_1.length : Int) - 1)) < (x7_1.length : Int) then (oakumref11_Gaps.l0 k1 l1 (x7_1.set ((wrap64 ((x7_1.length : Int) - 1)) : Int).toNat (⟨(rd_T23 x7_1 (wrap64 ((x7_1.length : Int) - 1))).f0, wrap64 (((rd_T23 x7_1 (wrap64 ((x7_1.length : Int) - 1))).f1) + 1)⟩ : S23)) true (wrap64 (x9_1 + 1)) a0_0 x150001_1) else (none)) else (none)) = some (r1, r2) := by rw [if_pos rfl] at H; exact H
              clear H
              have H := H1
              clear H1
              obtain ⟨ji14, hji14⟩ : ∃ j_ : Int, (wrap64 ((x7_1.length : Int) - 1)) = j_ := ⟨_, rfl⟩
              replace H : (if 0 ≤ (ji14) then (if (ji14) < (x7_1.length : Int) then (oakumref11_Gaps.l0 k1 l1 (x7_1.set ((ji14) : Int).toNat (⟨(rd_T23 x7_1 (ji14)).f0, wrap64 (((rd_T23 x7_1 (ji14)).f1) + 1)⟩ : S23)) true (wrap64 (x9_1 + 1)) a0_0 x150001_1) else (none)) else (none)) = some (r1, r2) := by first | (rw [hji14] at H; exact H) | (simp only [hji14] at H ⊢; exact H)
              (try rw [hji14] at A10)
              have hji14w : (IntKind.i64.wrap ((x7_1.length : Int) - 1)) = ji14 := (i64_w _).trans hji14
              by_cases c15 : 0 ≤ (ji14)
              · rw [if_pos c15] at H
                have c15b0 : decide (0 ≤ (ji14)) = true := decide_eq_true c15
                clear c15
                by_cases c16 : (ji14) < (x7_1.length : Int)
                · rw [if_pos c16] at H
                  have c16b0 : decide ((ji14) < (x7_1.length : Int)) = true := decide_eq_true c16
                  clear c16
                  obtain ⟨y153, hy153⟩ : ∃ y_ : List (S23), y_ = (x7_1.set ((ji14) : Int).toNat (⟨(rd_T23 x7_1 (ji14)).f0, wrap64 (((rd_T23 x7_1 (ji14)).f1) + 1)⟩ : S23)) := ⟨_, rfl⟩
                  replace H : (oakumref11_Gaps.l0 k1 l1 y153 true (wrap64 (x9_1 + 1)) a0_0 x150001_1) = some (r1, r2) := by first | (rw [hy153]; with_reducible exact H) | (have H2_ := (Option.bind_some _ _).symm.trans H; rw [hy153]; with_reducible exact H2_) | (have H2_ := (Option.bind_some _ _).symm.trans H; with_reducible exact H2_) | with_reducible exact H | (rw [hy153]; exact H) | exact H
                  have Ny153 := Aside0.mk hy153
                  clear hy153
                  have H' := Aside0.mk H
                  clear H
                  have hcz18_0 : wr.cell? ⟨gb149, 0, none⟩ = some (.int .i64 a0_0) := (blk_cell BK149.out 0).trans rfl
                  have hcz18_1 : wr.cell? ⟨gb149, 1, none⟩ = some (.int .i64 x150001_1) := (blk_cell BK149.out 1).trans rfl
                  have hfz18_0 := blk_frozen BK149.out 0
                  have hfz18_1 := blk_frozen BK149.out 1
                  go_wp2_with (first | ((with_reducible refine gate_callee (f := 18) rfl ?_); refine goesL_ (some 29) rfl rfl Try.func18 (by kernel_rfl) rfl #[.slice A1 l1.length c1, .int .i64 x9_1] rfl (by (try simp only [List.map_toArray, List.map_cons, List.map_nil]); first | done | rfl | (simp only [List.length_drop, List.length_take]; rfl)) ?_; (with_reducible refine (oakumref11_has.calls k1 _ _ l1 x9_1 false _ ?side1 ?side2 A10.out).mono ?_); (case side1 => repeat (first | exact (Kd.C_below HR1.out HB.out) | (with_reducible refine Kd.C_alloc ?_ _) | (with_reducible refine Kd.C_drewN ?_ _) | (with_reducible refine Kd.C_drew ?_))); (case side2 => exact HC1.out); rintro e w' ⟨rfl, ⟨nd, rfl⟩⟩; refine ⟨_, rfl, ?_⟩; (try (rw [drewN_self wr]; generalize hq_ : World.drewN wr _ = wr; have n0_ : Aside0 (Kd.R k23 23 wr w.heap.size (fun k_ => k_ ≠ gb149) u7 x7_1) := ⟨by rw [← hq_]; exact (by (with_reducible repeat (first | apply Kd.R_alloc | apply Kd.R_drewN | apply Kd.R_drew)); exact HO_7.out)⟩; have n1_ : Aside0 (wr.heap[gb149]? = some (.cells #[.int .i64 a0_0, .int .i64 x150001_1] 23 (0, 0))) := ⟨by rw [← hq_]; exact (by (with_reducible repeat (first | refine blk_drewN ?_ _ | refine blk_drew ?_ | refine blk_alloc ?_ _)); exact BK149.out)⟩; have n2_ : Aside0 (Below w.heap.size w wr) := ⟨by rw [← hq_]; exact (by repeat (first | (with_reducible first | exact HB.out | apply below_alloc | apply pw_below_drewN | apply below_drew1 | refine below_set ?_ GE149.out) | exact HB.out))⟩; clear HO_7 BK149 HB hq_; have HO_7 := n0_; have BK149 := n1_; have HB := n2_; clear n0_ n1_ n2_)); obtain ⟨Ao19, co19, eo19⟩ := Kd.R_slice HO_7.out; subst eo19; have p152 : 0 ≤ ((ji14) : Int) := of_decide_eq_true (by first | (with_reducible assumption) | assumption); have q152 : (ji14) < (x7_1.length : Int) := of_decide_eq_true (by first | (with_reducible assumption) | assumption); obtain ⟨ad152, e152, hx152_0, hx152_1⟩ := at_T23 (Kd.R_reads' HO_7.out).2.2 (ji14) p152 q152; cases e152; replace p152 := eq_true p152; replace q152 := eq_true q152; have p17 : 0 ≤ ((ji14) : Int) := of_decide_eq_true (by first | (with_reducible assumption) | assumption); have q17 : ((ji14) : Int) < ((x7_1.length : Int) : Int) := of_decide_eq_true (by first | (with_reducible assumption) | assumption); obtain ⟨go17, co17, eo17, gb17, gl17, cl17, HG17⟩ := Kd.R_form HO_7.out (by omega); (first | cases eo17 | (injection eo17 with ea_ en_ ec_; (first | subst ea_ | (injection ea_ with ea_; subst ea_)); subst ec_; clear en_)); have GB17 := Aside0.mk gb17; have GG17 := Aside0.mk HG17; clear gb17 gl17 HG17; (first | simp only [add_plain] at hx152_0 | skip); (first | simp only [add_plain] at hx152_1 | skip); obtain ⟨ce17, hcl17, hM17, hcc17, hfr17⟩ := Kd.R_elem HO_7.out z23 ((ji14) : Int) p17 q17; obtain rfl := k23_openM hM17; have hx17_0 : wr.cell? ⟨go17, ((ji14) : Int).toNat * 2, none⟩ = some (.int .i64 ((rd_T23 x7_1 (ji14)).f0)) := hcc17 0 _ rfl; have hx17_1 : wr.cell? ⟨go17, ((ji14) : Int).toNat * 2 + 1, none⟩ = some (.int .i64 ((rd_T23 x7_1 (ji14)).f1)) := hcc17 1 _ rfl; have hf17_0 : wr.frozen? ⟨go17, ((ji14) : Int).toNat * 2, none⟩ = false := hfr17 0; have hf17_1 : wr.frozen? ⟨go17, ((ji14) : Int).toNat * 2 + 1, none⟩ = false := hfr17 1; clear hcl17 hcc17 hfr17 hM17; replace p17 := eq_true p17; replace q17 := eq_true q17; have HX20 := Aside0.mk (show Kd.R k23 23 wr w.heap.size (fun k_ => k_ ≠ gb149) (.slice (some ⟨go17, 0, none⟩) x7_1.length co19) x7_1 from (by (with_reducible repeat (first | apply Kd.R_alloc | apply Kd.R_drewN | apply Kd.R_drew)); exact HO_7.out)); obtain ⟨ce20, hcl20, hM20, hcc20, hfr20⟩ := Kd.R_elem HX20.out z23 ((ji14) : Int) (of_decide_eq_true (by first | (with_reducible assumption) | assumption)) (by have h_ : ((ji14) : Int) < ((x7_1.length : Int) : Int) := of_decide_eq_true (by first | (with_reducible assumption) | assumption); first | exact h_ | (have e_ := (Kd.R_reads' HO_7.out).1; omega) | simpa using h_); obtain rfl := k23_openM hM20; have HP20 := Kd.R_seg HX20.out ((ji14) : Int) (of_decide_eq_true (by first | (with_reducible assumption) | assumption)) (by have h_ : ((ji14) : Int) < ((x7_1.length : Int) : Int) := of_decide_eq_true (by first | (with_reducible assumption) | assumption); first | exact h_ | (have e_ := (Kd.R_reads' HO_7.out).1; omega) | simpa using h_) (seg := [.int .i64 (wrap64 (((rd_T23 x7_1 (ji14)).f1) + 1))]) (j := 1) hcl20 hcc20 (show 2 ≤ 2 from by decide) (x' := (⟨(rd_T23 x7_1 (ji14)).f0, wrap64 (((rd_T23 x7_1 (ji14)).f1) + 1)⟩ : S23)) (k23_mkM _ _ _ (⟨(rd_T23 x7_1 (ji14)).f0, wrap64 (((rd_T23 x7_1 (ji14)).f1) + 1)⟩ : S23) ) (fun _ hk => hk); have hx20_1 := hcc20 1 _ rfl; (try simp only [show (k23).sz = 2 from rfl, Nat.mul_one, Nat.add_zero] at hx20_1); have hf20_1 := hfr20 1; (try simp only [show (k23).sz = 2 from rfl, Nat.mul_one, Nat.add_zero] at hf20_1); clear hcl20 hcc20 hfr20 hM20) | ((with_reducible refine gate_store (t := 3) (p := 48) rfl ?_); refine store_event (t := 3) (p := 48) (v := ?vo_w21) (w1 := (wr.setCell ⟨go17, ((ji14) : Int).toNat * 2 + 1, none⟩ (.int .i64 (wrap64 (((rd_T23 x7_1 (ji14)).f1) + 1))))) ?hg ?ho ?hn ?hr ?_; (case ho => rfl); (case hg => rfl); (case hn => rfl); (case hr => first | (go_simp; done) | (go_simp; rfl)); intro w21 hw; have hg : wr.grownBy w21 (some go17) := (by rw [hw]; exact HP20.2); have hp_ : Kd.R k23 23 w21 w.heap.size (fun k_ => k_ ≠ gb149) (.slice (some ⟨go17, 0, none⟩) x7_1.length co19) y153 := (by rw [hw, Ny153.out]; exact HP20.1); clear HP20; have n0_ := Aside0.mk (hp_); have n1_ := Aside0.mk (blk_grown (g := gb149) (o := .cells #[.int .i64 a0_0, .int .i64 x150001_1] 23 (0, 0)) (by (with_reducible repeat (first | refine blk_drewN ?_ _ | refine blk_drew ?_ | refine blk_alloc ?_ _)); exact BK149.out) hg (Kd.R_away HO_7.out (fun _ hk => hk))); have n2_ := Aside0.mk ((by rw [hw]; exact below_set (HB.out) GB17.out : Below w.heap.size w w21)); clear HO_7; clear BK149; clear HB; have HO_7 := n0_; have BK149 := n1_; have HB := n2_; clear n0_ n1_ n2_; clear hg hw hp_))
                  go_roundg k1
                  case measure => have := HK1.out; omega
                  case rel => exact ⟨(y153), (true), (wrap64 (x9_1 + 1)), (x150001_1), (by first | rfl | (simp; done) | (simp [*]; done)), (by first | rfl | (simp; done) | (simp [*]; done)), H', ⟨by have := HK1.out; omega⟩, ⟨by (with_reducible repeat (first | apply Kd.R_alloc | apply Kd.R_drewN | apply Kd.R_drew)); exact HO_7.out⟩, ⟨by (with_reducible repeat (first | refine blk_drewN ?_ _ | refine blk_drew ?_ | refine blk_alloc ?_ _)); exact BK149.out⟩, ⟨by repeat (first | (with_reducible first | exact HB.out | apply below_alloc | apply pw_below_drewN | apply below_drew1 | refine below_set ?_ GE149.out) | exact HB.out)⟩⟩
                · rw [if_neg c16] at H
                  exact absurd H (by simp)
              · rw [if_neg c15] at H
                exact absurd H (by simp)
            · replace c13 := Bool.eq_false_iff.mpr c13
              subst c13
              have H1 : (if x7_1.length < 8796093022208 then (oakumref11_Gaps.l0 k1 l1 (x7_1 ++ [(⟨x9_1, 1⟩ : S23)]) true (wrap64 (x9_1 + 1)) a0_0 x150001_1) else (none)) = some (r1, r2) := by rw [if_neg (show ¬ (false = true) by decide)] at H; exact H
              clear H
              have H := H1
              clear H1
              by_cases c22 : x7_1.length < 8796093022208
              · rw [if_pos c22] at H
                have LMc22 := Aside0.mk c22
                clear c22
                obtain ⟨y154, hy154⟩ : ∃ y_ : List (S23), y_ = (x7_1 ++ [(⟨x9_1, 1⟩ : S23)]) := ⟨_, rfl⟩
                replace H : (oakumref11_Gaps.l0 k1 l1 y154 true (wrap64 (x9_1 + 1)) a0_0 x150001_1) = some (r1, r2) := by first | (rw [hy154]; with_reducible exact H) | (have H2_ := (Option.bind_some _ _).symm.trans H; rw [hy154]; with_reducible exact H2_) | (have H2_ := (Option.bind_some _ _).symm.trans H; with_reducible exact H2_) | with_reducible exact H | (rw [hy154]; exact H) | exact H
                have Ny154 := Aside0.mk hy154
                clear hy154
                have H' := Aside0.mk H
                clear H
                have hcz23_0 : wr.cell? ⟨gb149, 0, none⟩ = some (.int .i64 a0_0) := (blk_cell BK149.out 0).trans rfl
                have hcz23_1 : wr.cell? ⟨gb149, 1, none⟩ = some (.int .i64 x150001_1) := (blk_cell BK149.out 1).trans rfl
                have hfz23_0 := blk_frozen BK149.out 0
                have hfz23_1 := blk_frozen BK149.out 1
                go_wp2_with (first | ((with_reducible refine gate_callee (f := 18) rfl ?_); refine goesL_ (some 29) rfl rfl Try.func18 (by kernel_rfl) rfl #[.slice A1 l1.length c1, .int .i64 x9_1] rfl (by (try simp only [List.map_toArray, List.map_cons, List.map_nil]); first | done | rfl | (simp only [List.length_drop, List.length_take]; rfl)) ?_; (with_reducible refine (oakumref11_has.calls k1 _ _ l1 x9_1 false _ ?side1 ?side2 A10.out).mono ?_); (case side1 => repeat (first | exact (Kd.C_below HR1.out HB.out) | (with_reducible refine Kd.C_alloc ?_ _) | (with_reducible refine Kd.C_drewN ?_ _) | (with_reducible refine Kd.C_drew ?_))); (case side2 => exact HC1.out); rintro e w' ⟨rfl, ⟨nd, rfl⟩⟩; refine ⟨_, rfl, ?_⟩) | ((with_reducible refine gate_builtin (b := .append) (xs := #[.tmp 30, .tmp 33]) rfl ?_); at_builtin; refine Kd.R_append k23 (w0 := w) w.heap.size rfl (.tmp 30) (.tmp 33) 24 23 (.agg #[(.int .i64 0), (.int .i64 0)]) 16 rfl Try.underlying24 info23 rfl (by decide) (by omega) u7 x7_1 (⟨x9_1, 1⟩ : S23) [.int .i64 x9_1, .int .i64 1] (fun k_ => k_ ≠ gb149) (fun _ => False) rfl rfl ?aP (fun _ hk => hk.elim) ?aF ?aO ?aB ?aS ?aL ?_; (case aP => exact k23_mkM _ _ _ (⟨x9_1, 1⟩ : S23)); (case aB => exact (by repeat (first | (with_reducible first | exact HB.out | apply below_alloc | apply pw_below_drewN | apply below_drew1 | refine below_set ?_ GE149.out) | exact HB.out))); (case aF => exact (fun k_ hk => Kd.freshB (g := gb149) (o := .cells #[.int .i64 a0_0, .int .i64 x150001_1] 23 (0, 0)) (by (with_reducible repeat (first | refine blk_drewN ?_ _ | refine blk_drew ?_ | refine blk_alloc ?_ _)); exact BK149.out) k_ hk)); (case aO => exact (by (with_reducible repeat (first | apply Kd.R_alloc | apply Kd.R_drewN | apply Kd.R_drew)); exact HO_7.out)); (case aS => exact (below_size (by repeat (first | (with_reducible first | exact HB.out | apply below_alloc | apply pw_below_drewN | apply below_drew1 | refine below_set ?_ GE149.out) | exact HB.out)))); (case aL => have := LMc22.out; omega); intro v155 w24 ho hb hg hat; rw [← Ny154.out] at ho; have n0_ := Aside0.mk (blk_grown (g := gb149) (o := .cells #[.int .i64 a0_0, .int .i64 x150001_1] 23 (0, 0)) (by (with_reducible repeat (first | refine blk_drewN ?_ _ | refine blk_drew ?_ | refine blk_alloc ?_ _)); exact BK149.out) hg (Kd.R_away HO_7.out (fun _ hk => hk))); have n1_ := Aside0.mk (hb); have n2_ := Aside0.mk (ho); clear BK149; clear HB; clear HO_7; have BK149 := n0_; have HB := n1_; have HO156 := n2_; clear n0_ n1_ n2_; clear ho hb hg hat))
                go_roundg k1
                case measure => have := HK1.out; omega
                case rel => exact ⟨(y154), (true), (wrap64 (x9_1 + 1)), (x150001_1), (by first | rfl | (simp; done) | (simp [*]; done)), (by first | rfl | (simp; done) | (simp [*]; done)), H', ⟨by have := HK1.out; omega⟩, ⟨by (with_reducible repeat (first | apply Kd.R_alloc | apply Kd.R_drewN | apply Kd.R_drew)); exact HO156.out⟩, ⟨by (with_reducible repeat (first | refine blk_drewN ?_ _ | refine blk_drew ?_ | refine blk_alloc ?_ _)); exact BK149.out⟩, ⟨by repeat (first | (with_reducible first | exact HB.out | apply below_alloc | apply pw_below_drewN | apply below_drew1 | refine below_set ?_ GE149.out) | exact HB.out)⟩⟩
              · rw [if_neg c22] at H
                exact absurd H (by simp)
        · rw [if_neg c9] at H
          have c9b0 : decide (x9_1 < (wrap64 (a0_0 + x150001_1))) = false := decide_eq_false c9
          clear c9
          simp only [Option.some.injEq, Prod.mk.injEq] at H
          obtain ⟨rfl, rfl⟩ := H
          have hcz25_0 : wr.cell? ⟨gb149, 0, none⟩ = some (.int .i64 a0_0) := (blk_cell BK149.out 0).trans rfl
          have hcz25_1 : wr.cell? ⟨gb149, 1, none⟩ = some (.int .i64 x150001_1) := (blk_cell BK149.out 1).trans rfl
          have hfz25_0 := blk_frozen BK149.out 0
          have hfz25_1 := blk_frozen BK149.out 1
          go_wp2
          go_ret2
          exact ⟨_, by first | rfl | (simp [errW_none, errW_some] <;> rfl) | (simp [*, errW_none, errW_some] <;> rfl), by (with_reducible repeat (first | apply Kd.R_alloc | apply Kd.R_drewN | apply Kd.R_drew)); exact Kd.R_mono HO_7.out (fun _ hk => trivial), by repeat (first | (with_reducible first | exact HB.out | apply below_alloc | apply pw_below_drewN | apply below_drew1 | refine below_set ?_ GE149.out) | exact HB.out)⟩
  · replace c4 := Bool.eq_false_iff.mpr c4
    subst c4
    have H1 : (some (([] : List (S23)), 1)) = some (r1, r2) := by rw [if_neg (show ¬ (false = true) by decide)] at H; exact H
    clear H
    have H := H1
    clear H1
    simp only [Option.some.injEq, Prod.mk.injEq] at H
    obtain ⟨rfl, rfl⟩ := H
    go_enter Try.func8, Try.ntmps8
    go_wp2_with (first | ((with_reducible refine gate_dst (N := 2) rfl ?_); refine box_event ?hg (N := 2) ?hd (cs := #[.int .i64 a0_0, .int .i64 a0_1]) (t := 23) ?hr ?_; (case hd => rfl); (case hg => rfl); (case hr => first | (go_simp; done) | (go_simp; rfl)); intro gb149 hg w26 hbox hb; have n0_ := Aside0.mk (below_step (by repeat (first | (with_reducible first | exact HB.out | apply below_alloc | apply pw_below_drewN | apply below_drew1) | exact HB.out)) hb); have n1_ := Aside0.mk (hbox); have n2_ := Aside0.mk ((by rw [hg]; exact (below_size (by repeat (first | (with_reducible first | exact HB.out | apply below_alloc | apply pw_below_drewN | apply below_drew1) | exact HB.out))) : w.heap.size ≤ gb149)); have n3_ := Aside0.mk ((by rw [hg]; exact (below_size (by repeat (first | (with_reducible first | exact HB.out | apply below_alloc | apply pw_below_drewN | apply below_drew1) | exact HB.out))) : w.heap.size ≤ gb149)); clear HB; have HB := n0_; have BK149 := n1_; have GW149 := n2_; have GE149 := n3_; clear n0_ n1_ n2_ n3_; clear hb hbox hg; have hcz27_0 : w26.cell? ⟨gb149, 0, none⟩ = some (.int .i64 a0_0) := (blk_cell BK149.out 0).trans rfl; have hcz27_1 : w26.cell? ⟨gb149, 1, none⟩ = some (.int .i64 a0_1) := (blk_cell BK149.out 1).trans rfl; have hfz27_0 := blk_frozen BK149.out 0; have hfz27_1 := blk_frozen BK149.out 1) | ((with_reducible refine gate_callee (f := 13) rfl ?_); refine goesL_ (some 13) rfl rfl Try.func13 (by kernel_rfl) rfl #[.agg #[.int .i64 a0_0, .int .i64 a0_1], .slice A1 l1.length c1] rfl (by (try simp only [List.map_toArray, List.map_cons, List.map_nil]); first | done | rfl | (simp only [List.length_drop, List.length_take]; rfl)) ?_; (with_reducible refine (oakumref11_Right.calls k a0_0 a0_1 _ _ l1 false _ ?side1 ?side2 A3.out).mono ?_); (case side1 => repeat (first | exact (Kd.C_below HR1.out HB.out) | (with_reducible refine Kd.C_alloc ?_ _) | (with_reducible refine Kd.C_drewN ?_ _) | (with_reducible refine Kd.C_drew ?_))); (case side2 => exact HC1.out); rintro e w28 ⟨rfl, hb⟩; refine ⟨_, rfl, ?_⟩; have n0_ := Aside0.mk (blk_below (g := gb149) (o := .cells #[.int .i64 a0_0, .int .i64 a0_1] 23 (0, 0)) (by (with_reducible repeat (first | refine blk_drewN ?_ _ | refine blk_drew ?_ | refine blk_alloc ?_ _)); exact BK149.out) hb); have n1_ := Aside0.mk (below_step (by repeat (first | (with_reducible first | exact HB.out | apply below_alloc | apply pw_below_drewN | apply below_drew1 | refine below_set ?_ GE149.out) | exact HB.out)) hb); clear BK149; clear HB; have BK149 := n0_; have HB := n1_; clear n0_ n1_; (try clear hb); (try clear hb2); (try clear hk); (try clear hi)))
    go_ret2
    exact ⟨_, by first | rfl | (simp [errW_none, errW_some] <;> rfl) | (simp [*, errW_none, errW_some] <;> rfl), by first | exact Kd.R_nil _ _ _ _ _ | exact Kd.N_nil _ _ _ _ _ | exact Kd.V_nil _ _ _ _ _ | exact Kd.Q_nil _ _ _ _ _ | exact Kd.S_nil _ _ _ _ _, by repeat (first | (with_reducible first | exact HB.out | apply below_alloc | apply pw_below_drewN | apply below_drew1 | refine below_set ?_ GE149.out) | exact HB.out)⟩

end Go.Proofs.Ytflmlejgahnppaa.PExt
