/- Written by a program of this session out of the translation: the kit's print, run from a copy in which some functions are given by hand. -/
import Derived.Test.YtlinnmllbbmnpaaDoorPCmdx0
import Derived.Test.YtlinnmllbbmnpaaDoorPCmdx1
import Derived.Test.YtlinnmllbbmnpaaDoorPCmdx5
import Derived.Test.YtlinnmllbbmnpaaDoorHexRef
namespace Go.Proofs.YtlinnmllbbmnpaaDoor.PCmd
open Go.RowKit Go.Proofs.YtlinnmllbbmnpaaDoorW.PrintWords Go.Proofs.YtlinnmllbbmnpaaDoorW.PrintLast Go.Proofs.YtlinnmllbbmnpaaDoorW.PrintMore
attribute [local go_sem] max2_int min2_int max_two min_two max_three min_three max_four min_four   -- for this text's walks alone
set_option linter.unusedVariables false
set_option linter.unusedSimpArgs false

attribute [local go_sem high] eqA23
/-! ### oakumref21_Print: function 7 -/
mutual
def oakumref21_Print.j0 : Nat → ByteArray → Bool → ByteArray → Int → Int → Int → ByteArray → Option (ByteArray × Int)
  | 0, _, _, _, _, _, _, _ => none
  | k + 1, x4, x50, x149000, x149001, x149002, x149003, x149004 => if x50 = true then (some ((⟨#[]⟩ : ByteArray), 1)) else (oakumref21_Print.l0 k x4 x149000 0 x149000 x149001 x149002 x149003 x149004 x149000 0 0 0 (⟨#[]⟩ : ByteArray))
def oakumref21_Print.l0 : Nat → ByteArray → ByteArray → Int → ByteArray → Int → Int → Int → ByteArray → ByteArray → Int → Int → Int → ByteArray → Option (ByteArray × Int)
  | 0, _, _, _, _, _, _, _, _, _, _, _, _, _ => none
  | k + 1, x4, x7, x9, x149000, x149001, x149002, x149003, x149004, x152000, x152001, x152002, x152003, x152004 => if x9 < (x4.size : Int) then (if 0 ≤ x9 then (if (bt x4 x9) = 105 then (if x7.size + 1 ≤ 9223372036854775807 then ((oakumref20_Figures.f k x149001).bind fun t152 => (if (x7 ++ (⟨#[32]⟩ : ByteArray)).size + t152.size ≤ 9223372036854775807 then (oakumref21_Print.l0 k x4 ((x7 ++ (⟨#[32]⟩ : ByteArray)) ++ t152) (wrap64 (x9 + 1)) x149000 x149001 x149002 x149003 x149004 x152000 x149001 x152002 x152003 x152004) else (none))) else (none)) else (if (bt x4 x9) = 97 then (if x7.size + 1 ≤ 9223372036854775807 then ((oakumref20_Figures.f k x149002).bind fun t153 => (if (x7 ++ (⟨#[32]⟩ : ByteArray)).size + t153.size ≤ 9223372036854775807 then (oakumref21_Print.l0 k x4 ((x7 ++ (⟨#[32]⟩ : ByteArray)) ++ t153) (wrap64 (x9 + 1)) x149000 x149001 x149002 x149003 x149004 x152000 x152001 x149002 x152003 x152004) else (none))) else (none)) else (if (bt x4 x9) = 110 then (if x7.size + 1 ≤ 9223372036854775807 then ((oakumref20_Figures.f k x149003).bind fun t154 => (if (x7 ++ (⟨#[32]⟩ : ByteArray)).size + t154.size ≤ 9223372036854775807 then (oakumref21_Print.l0 k x4 ((x7 ++ (⟨#[32]⟩ : ByteArray)) ++ t154) (wrap64 (x9 + 1)) x149000 x149001 x149002 x149003 x149004 x152000 x152001 x152002 x149003 x152004) else (none))) else (none)) else (if x7.size + 1 ≤ 9223372036854775807 then ((oakumref21_Hex.f x149004).bind fun t155 => (if (x7 ++ (⟨#[32]⟩ : ByteArray)).size + t155.size ≤ 9223372036854775807 then (oakumref21_Print.l0 k x4 ((x7 ++ (⟨#[32]⟩ : ByteArray)) ++ t155) (wrap64 (x9 + 1)) x149000 x149001 x149002 x149003 x149004 x152000 x152001 x152002 x152003 x149004) else (none))) else (none))))) else (none)) else (if (!(x152000.toList == x149000.toList) || (!(x152001 == x149001) || (!(x152002 == x149002) || (!(x152003 == x149003) || (!(x152004.toList == x149004.toList)))))) = true then (some ((⟨#[]⟩ : ByteArray), 1)) else (some (x7, 0)))
end
def oakumref21_Print.f (k : Nat) (a0_0 : ByteArray) (a0_1 : Int) (a0_2 : Int) (a0_3 : Int) (a0_4 : ByteArray) : Option (ByteArray × Int) := (oakumref21_form.f k a0_0).bind fun bt149 => (if bt149.2 = true then (if a0_1 < 0 then (oakumref21_Print.j0 k bt149.1 true a0_0 a0_1 a0_2 a0_3 a0_4) else (if a0_2 < 0 then (oakumref21_Print.j0 k bt149.1 true a0_0 a0_1 a0_2 a0_3 a0_4) else (if a0_3 < 0 then (oakumref21_Print.j0 k bt149.1 true a0_0 a0_1 a0_2 a0_3 a0_4) else (if a0_1 > 2147483647 then (oakumref21_Print.j0 k bt149.1 true a0_0 a0_1 a0_2 a0_3 a0_4) else (if a0_2 > 2147483647 then (oakumref21_Print.j0 k bt149.1 true a0_0 a0_1 a0_2 a0_3 a0_4) else (oakumref21_Print.j0 k bt149.1 (decide (a0_3 > 2147483647)) a0_0 a0_1 a0_2 a0_3 a0_4)))))) else (oakumref21_Print.j0 k bt149.1 true a0_0 a0_1 a0_2 a0_3 a0_4))
theorem oakumref21_Print.mono_l : ∀ k, (∀ y0 y1 y2 y3 y4 y5 y6, LeO (oakumref21_Print.j0 k y0 y1 y2 y3 y4 y5 y6) (oakumref21_Print.j0 (k + 1) y0 y1 y2 y3 y4 y5 y6)) ∧ (∀ y0 y1 y2 y3 y4 y5 y6 y7 y8 y9 y10 y11 y12, LeO (oakumref21_Print.l0 k y0 y1 y2 y3 y4 y5 y6 y7 y8 y9 y10 y11 y12) (oakumref21_Print.l0 (k + 1) y0 y1 y2 y3 y4 y5 y6 y7 y8 y9 y10 y11 y12))
  | 0 => ⟨fun _ _ _ _ _ _ _ r h => by simp [oakumref21_Print.j0] at h, fun _ _ _ _ _ _ _ _ _ _ _ _ _ r h => by simp [oakumref21_Print.l0] at h⟩
  | k + 1 => by
    obtain ⟨ih0, ih1⟩ := oakumref21_Print.mono_l k
    refine ⟨?_, ?_⟩
    · intro y0 y1 y2 y3 y4 y5 y6
      unfold oakumref21_Print.j0
      repeat' first
      | (with_reducible exact ih0 _ _ _ _ _ _ _)
      | (with_reducible exact ih1 _ _ _ _ _ _ _ _ _ _ _ _ _)
      | (with_reducible exact oakumref20_Figures.mono _ _)
      | (with_reducible exact oakumref21_form.mono _ _)
      | (with_reducible exact LeO.refl _)
      | (with_reducible exact LeO.none _)
      | (with_reducible refine LeO.ite ?_ ?_)
      | (with_reducible refine LeO.bind ?_ (fun _ => ?_))
      | exact ih0 _ _ _ _ _ _ _
      | exact ih1 _ _ _ _ _ _ _ _ _ _ _ _ _
      | exact oakumref20_Figures.mono _ _
      | exact oakumref21_form.mono _ _
      | exact LeO.none _
      | refine LeO.ite ?_ ?_
      | refine LeO.bind ?_ (fun _ => ?_)
    · intro y0 y1 y2 y3 y4 y5 y6 y7 y8 y9 y10 y11 y12
      unfold oakumref21_Print.l0
      repeat' first
      | (with_reducible exact ih0 _ _ _ _ _ _ _)
      | (with_reducible exact ih1 _ _ _ _ _ _ _ _ _ _ _ _ _)
      | (with_reducible exact oakumref20_Figures.mono _ _)
      | (with_reducible exact oakumref21_form.mono _ _)
      | (with_reducible exact LeO.refl _)
      | (with_reducible exact LeO.none _)
      | (with_reducible refine LeO.ite ?_ ?_)
      | (with_reducible refine LeO.bind ?_ (fun _ => ?_))
      | exact ih0 _ _ _ _ _ _ _
      | exact ih1 _ _ _ _ _ _ _ _ _ _ _ _ _
      | exact oakumref20_Figures.mono _ _
      | exact oakumref21_form.mono _ _
      | exact LeO.none _
      | refine LeO.ite ?_ ?_
      | refine LeO.bind ?_ (fun _ => ?_)
theorem oakumref21_Print.mono : ∀ a0 a1 a2 a3 a4 k, LeO (oakumref21_Print.f k a0 a1 a2 a3 a4) (oakumref21_Print.f (k + 1) a0 a1 a2 a3 a4) := by
  intro a0 a1 a2 a3 a4 k
  obtain ⟨ih0, ih1⟩ := oakumref21_Print.mono_l k
  unfold oakumref21_Print.f
  repeat' first
      | (with_reducible exact ih0 _ _ _ _ _ _ _)
      | (with_reducible exact ih1 _ _ _ _ _ _ _ _ _ _ _ _ _)
      | (with_reducible exact oakumref20_Figures.mono _ _)
      | (with_reducible exact oakumref21_form.mono _ _)
      | (with_reducible exact LeO.refl _)
      | (with_reducible exact LeO.none _)
      | (with_reducible refine LeO.ite ?_ ?_)
      | (with_reducible refine LeO.bind ?_ (fun _ => ?_))
      | exact ih0 _ _ _ _ _ _ _
      | exact ih1 _ _ _ _ _ _ _ _ _ _ _ _ _
      | exact oakumref20_Figures.mono _ _
      | exact oakumref21_form.mono _ _
      | exact LeO.none _
      | refine LeO.ite ?_ ?_
      | refine LeO.bind ?_ (fun _ => ?_)
set_option maxHeartbeats 8000000 in
set_option maxRecDepth 100000 in
theorem oakumref21_Print.calls (k : Nat) (a0_0 : ByteArray) (a0_1 : Int) (a0_2 : Int) (a0_3 : Int) (a0_4 : ByteArray) (r1 : ByteArray) (r2 : Int) (w : World) (h : oakumref21_Print.f k a0_0 a0_1 a0_2 a0_3 a0_4 = some (r1, r2)) :
    Calls Tryd.prog 7 #[.agg #[.string a0_0, .int .i64 a0_1, .int .i64 a0_2, .int .i64 a0_3, .string a0_4]] w fun e w' => e = .returned (.tuple #[.string r1, .int .i64 r2]) ∧ Below w.heap.size w w' := by
  have hu23 := Tryd.underlying23
  have HB := Aside0.mk (Below.refl w.heap.size w)
  have H : ((oakumref21_form.f k a0_0).bind fun bt149 => (if bt149.2 = true then (if a0_1 < 0 then (oakumref21_Print.j0 k bt149.1 true a0_0 a0_1 a0_2 a0_3 a0_4) else (if a0_2 < 0 then (oakumref21_Print.j0 k bt149.1 true a0_0 a0_1 a0_2 a0_3 a0_4) else (if a0_3 < 0 then (oakumref21_Print.j0 k bt149.1 true a0_0 a0_1 a0_2 a0_3 a0_4) else (if a0_1 > 2147483647 then (oakumref21_Print.j0 k bt149.1 true a0_0 a0_1 a0_2 a0_3 a0_4) else (if a0_2 > 2147483647 then (oakumref21_Print.j0 k bt149.1 true a0_0 a0_1 a0_2 a0_3 a0_4) else (oakumref21_Print.j0 k bt149.1 (decide (a0_3 > 2147483647)) a0_0 a0_1 a0_2 a0_3 a0_4)))))) else (oakumref21_Print.j0 k bt149.1 true a0_0 a0_1 a0_2 a0_3 a0_4))) = some (r1, r2) := h
  clear h
  replace H := Option.bind_eq_some_iff.mp H
  obtain ⟨⟨t149, t150⟩, A20, H⟩ := H
  replace H : (if t150 = true then (if a0_1 < 0 then (oakumref21_Print.j0 k t149 true a0_0 a0_1 a0_2 a0_3 a0_4) else (if a0_2 < 0 then (oakumref21_Print.j0 k t149 true a0_0 a0_1 a0_2 a0_3 a0_4) else (if a0_3 < 0 then (oakumref21_Print.j0 k t149 true a0_0 a0_1 a0_2 a0_3 a0_4) else (if a0_1 > 2147483647 then (oakumref21_Print.j0 k t149 true a0_0 a0_1 a0_2 a0_3 a0_4) else (if a0_2 > 2147483647 then (oakumref21_Print.j0 k t149 true a0_0 a0_1 a0_2 a0_3 a0_4) else (oakumref21_Print.j0 k t149 (decide (a0_3 > 2147483647)) a0_0 a0_1 a0_2 a0_3 a0_4)))))) else (oakumref21_Print.j0 k t149 true a0_0 a0_1 a0_2 a0_3 a0_4)) = some (r1, r2) := H
  have A2 := Aside0.mk A20
  clear A20
  have HC3 := Aside0.mk H
  clear H
  go_enter Tryd.func7, Tryd.ntmps7
  go_upto_region 3 with (first | ((with_reducible refine gate_dst (N := 1) rfl ?_); refine box_event ?hg (N := 1) ?hd (cs := #[.string a0_0, .int .i64 a0_1, .int .i64 a0_2, .int .i64 a0_3, .string a0_4]) (t := 23) ?hr ?_; (case hd => rfl); (case hg => rfl); (case hr => first | (go_simp; done) | (go_simp; rfl)); intro gb148 hg w4 hbox hb; have n0_ := Aside0.mk (below_step (by repeat (first | (with_reducible first | exact HB.out | apply below_alloc | apply pw_below_drewN | apply below_drew1) | exact HB.out)) hb); have n1_ := Aside0.mk (hbox); have n2_ := Aside0.mk ((by rw [hg]; exact (below_size (by repeat (first | (with_reducible first | exact HB.out | apply below_alloc | apply pw_below_drewN | apply below_drew1) | exact HB.out))) : w.heap.size ≤ gb148)); have n3_ := Aside0.mk ((by rw [hg]; exact (below_size (by repeat (first | (with_reducible first | exact HB.out | apply below_alloc | apply pw_below_drewN | apply below_drew1) | exact HB.out))) : w.heap.size ≤ gb148)); clear HB; have HB := n0_; have BK148 := n1_; have GW148 := n2_; have GE148 := n3_; clear n0_ n1_ n2_ n3_; clear hb hbox hg; have hcz5_0 : w4.cell? ⟨gb148, 0, none⟩ = some (.string a0_0) := (blk_cell BK148.out 0).trans rfl; have hcz5_1 : w4.cell? ⟨gb148, 1, none⟩ = some (.int .i64 a0_1) := (blk_cell BK148.out 1).trans rfl; have hcz5_2 : w4.cell? ⟨gb148, 2, none⟩ = some (.int .i64 a0_2) := (blk_cell BK148.out 2).trans rfl; have hcz5_3 : w4.cell? ⟨gb148, 3, none⟩ = some (.int .i64 a0_3) := (blk_cell BK148.out 3).trans rfl; have hcz5_4 : w4.cell? ⟨gb148, 4, none⟩ = some (.string a0_4) := (blk_cell BK148.out 4).trans rfl; have hfz5_0 := blk_frozen BK148.out 0; have hfz5_1 := blk_frozen BK148.out 1; have hfz5_2 := blk_frozen BK148.out 2; have hfz5_3 := blk_frozen BK148.out 3; have hfz5_4 := blk_frozen BK148.out 4) | ((with_reducible refine gate_callee (f := 15) rfl ?_); refine goesL_ (some 13) rfl rfl Tryd.func15 (by kernel_rfl) rfl #[.string a0_0] rfl (by (try simp only [List.map_toArray, List.map_cons, List.map_nil]); first | done | rfl | (simp only [List.length_drop, List.length_take]; rfl)) ?_; (with_reducible refine (oakumref21_form.calls k a0_0 t149 t150 _ A2.out).mono ?_); rintro e w' ⟨rfl, ⟨nd, rfl⟩⟩; refine ⟨_, rfl, ?_⟩))
  (try simp only [Act.put, List.setIfInBounds_toArray, List.set_cons_zero, List.set_cons_succ])
  go_cut [50] (fun v50 wc => ∃ (kq : Nat) (x50_2 : Bool), v50 = .bool x50_2 ∧ Aside0 (oakumref21_Print.j0 kq t149 x50_2 a0_0 a0_1 a0_2 a0_3 a0_4 = some (r1, r2)) ∧ Aside0 (kq ≤ k) ∧ Aside0 (wc.heap[gb148]? = some (.cells #[.string a0_0, .int .i64 a0_1, .int .i64 a0_2, .int .i64 a0_3, .string a0_4] 23 (0, 0))) ∧ Aside0 (Below w.heap.size w wc))
  case first =>
    have H := HC3.out
    clear HC3
    by_cases c6 : t150 = true
    · subst c6
      have H1 : (if a0_1 < 0 then (oakumref21_Print.j0 k t149 true a0_0 a0_1 a0_2 a0_3 a0_4) else (if a0_2 < 0 then (oakumref21_Print.j0 k t149 true a0_0 a0_1 a0_2 a0_3 a0_4) else (if a0_3 < 0 then (oakumref21_Print.j0 k t149 true a0_0 a0_1 a0_2 a0_3 a0_4) else (if a0_1 > 2147483647 then (oakumref21_Print.j0 k t149 true a0_0 a0_1 a0_2 a0_3 a0_4) else (if a0_2 > 2147483647 then (oakumref21_Print.j0 k t149 true a0_0 a0_1 a0_2 a0_3 a0_4) else (oakumref21_Print.j0 k t149 (decide (a0_3 > 2147483647)) a0_0 a0_1 a0_2 a0_3 a0_4)))))) = some (r1, r2) := by rw [if_pos rfl] at H; exact H
      clear H
      have H := H1
      clear H1
      by_cases c7 : a0_1 < 0
      · rw [if_pos c7] at H
        have c7b0 : decide (a0_1 < 0) = true := decide_eq_true c7
        clear c7
        (first | rw [c7b0] | (simp only [i64_w, i32_w]; rw [c7b0]) | rw [c7b1] | skip)
        have H' := Aside0.mk H
        clear H
        have hcz8_0 : w4.cell? ⟨gb148, 0, none⟩ = some (.string a0_0) := (blk_cell BK148.out 0).trans rfl
        have hcz8_1 : w4.cell? ⟨gb148, 1, none⟩ = some (.int .i64 a0_1) := (blk_cell BK148.out 1).trans rfl
        have hcz8_2 : w4.cell? ⟨gb148, 2, none⟩ = some (.int .i64 a0_2) := (blk_cell BK148.out 2).trans rfl
        have hcz8_3 : w4.cell? ⟨gb148, 3, none⟩ = some (.int .i64 a0_3) := (blk_cell BK148.out 3).trans rfl
        have hcz8_4 : w4.cell? ⟨gb148, 4, none⟩ = some (.string a0_4) := (blk_cell BK148.out 4).trans rfl
        have hfz8_0 := blk_frozen BK148.out 0
        have hfz8_1 := blk_frozen BK148.out 1
        have hfz8_2 := blk_frozen BK148.out 2
        have hfz8_3 := blk_frozen BK148.out 3
        have hfz8_4 := blk_frozen BK148.out 4
        go_wp2
        go_meet
        case rel => exact ⟨_, (true), (by first | rfl | (simp; done) | (simp [*]; done)), H', ⟨by first | omega | exact Nat.le_refl _⟩, ⟨by (with_reducible repeat (first | refine blk_drewN ?_ _ | refine blk_drew ?_ | refine blk_alloc ?_ _)); exact BK148.out⟩, ⟨by repeat (first | (with_reducible first | exact HB.out | apply below_alloc | apply pw_below_drewN | apply below_drew1 | refine below_set ?_ GE148.out) | exact HB.out)⟩⟩
      · rw [if_neg c7] at H
        have c7b0 : decide (a0_1 < 0) = false := decide_eq_false c7
        clear c7
        (first | rw [c7b0] | (simp only [i64_w, i32_w]; rw [c7b0]) | rw [c7b1] | skip)
        by_cases c9 : a0_2 < 0
        · rw [if_pos c9] at H
          have c9b0 : decide (a0_2 < 0) = true := decide_eq_true c9
          clear c9
          have H' := Aside0.mk H
          clear H
          have hcz10_0 : w4.cell? ⟨gb148, 0, none⟩ = some (.string a0_0) := (blk_cell BK148.out 0).trans rfl
          have hcz10_1 : w4.cell? ⟨gb148, 1, none⟩ = some (.int .i64 a0_1) := (blk_cell BK148.out 1).trans rfl
          have hcz10_2 : w4.cell? ⟨gb148, 2, none⟩ = some (.int .i64 a0_2) := (blk_cell BK148.out 2).trans rfl
          have hcz10_3 : w4.cell? ⟨gb148, 3, none⟩ = some (.int .i64 a0_3) := (blk_cell BK148.out 3).trans rfl
          have hcz10_4 : w4.cell? ⟨gb148, 4, none⟩ = some (.string a0_4) := (blk_cell BK148.out 4).trans rfl
          have hfz10_0 := blk_frozen BK148.out 0
          have hfz10_1 := blk_frozen BK148.out 1
          have hfz10_2 := blk_frozen BK148.out 2
          have hfz10_3 := blk_frozen BK148.out 3
          have hfz10_4 := blk_frozen BK148.out 4
          go_wp2
          go_meet
          case rel => exact ⟨_, (true), (by first | rfl | (simp; done) | (simp [*]; done)), H', ⟨by first | omega | exact Nat.le_refl _⟩, ⟨by (with_reducible repeat (first | refine blk_drewN ?_ _ | refine blk_drew ?_ | refine blk_alloc ?_ _)); exact BK148.out⟩, ⟨by repeat (first | (with_reducible first | exact HB.out | apply below_alloc | apply pw_below_drewN | apply below_drew1 | refine below_set ?_ GE148.out) | exact HB.out)⟩⟩
        · rw [if_neg c9] at H
          have c9b0 : decide (a0_2 < 0) = false := decide_eq_false c9
          clear c9
          by_cases c11 : a0_3 < 0
          · rw [if_pos c11] at H
            have c11b0 : decide (a0_3 < 0) = true := decide_eq_true c11
            clear c11
            have H' := Aside0.mk H
            clear H
            have hcz12_0 : w4.cell? ⟨gb148, 0, none⟩ = some (.string a0_0) := (blk_cell BK148.out 0).trans rfl
            have hcz12_1 : w4.cell? ⟨gb148, 1, none⟩ = some (.int .i64 a0_1) := (blk_cell BK148.out 1).trans rfl
            have hcz12_2 : w4.cell? ⟨gb148, 2, none⟩ = some (.int .i64 a0_2) := (blk_cell BK148.out 2).trans rfl
            have hcz12_3 : w4.cell? ⟨gb148, 3, none⟩ = some (.int .i64 a0_3) := (blk_cell BK148.out 3).trans rfl
            have hcz12_4 : w4.cell? ⟨gb148, 4, none⟩ = some (.string a0_4) := (blk_cell BK148.out 4).trans rfl
            have hfz12_0 := blk_frozen BK148.out 0
            have hfz12_1 := blk_frozen BK148.out 1
            have hfz12_2 := blk_frozen BK148.out 2
            have hfz12_3 := blk_frozen BK148.out 3
            have hfz12_4 := blk_frozen BK148.out 4
            go_wp2
            go_meet
            case rel => exact ⟨_, (true), (by first | rfl | (simp; done) | (simp [*]; done)), H', ⟨by first | omega | exact Nat.le_refl _⟩, ⟨by (with_reducible repeat (first | refine blk_drewN ?_ _ | refine blk_drew ?_ | refine blk_alloc ?_ _)); exact BK148.out⟩, ⟨by repeat (first | (with_reducible first | exact HB.out | apply below_alloc | apply pw_below_drewN | apply below_drew1 | refine below_set ?_ GE148.out) | exact HB.out)⟩⟩
          · rw [if_neg c11] at H
            have c11b0 : decide (a0_3 < 0) = false := decide_eq_false c11
            clear c11
            by_cases c13 : a0_1 > 2147483647
            · rw [if_pos c13] at H
              have c13b0 : decide (2147483647 < a0_1) = true := decide_eq_true c13
              clear c13
              have H' := Aside0.mk H
              clear H
              have hcz14_0 : w4.cell? ⟨gb148, 0, none⟩ = some (.string a0_0) := (blk_cell BK148.out 0).trans rfl
              have hcz14_1 : w4.cell? ⟨gb148, 1, none⟩ = some (.int .i64 a0_1) := (blk_cell BK148.out 1).trans rfl
              have hcz14_2 : w4.cell? ⟨gb148, 2, none⟩ = some (.int .i64 a0_2) := (blk_cell BK148.out 2).trans rfl
              have hcz14_3 : w4.cell? ⟨gb148, 3, none⟩ = some (.int .i64 a0_3) := (blk_cell BK148.out 3).trans rfl
              have hcz14_4 : w4.cell? ⟨gb148, 4, none⟩ = some (.string a0_4) := (blk_cell BK148.out 4).trans rfl
              have hfz14_0 := blk_frozen BK148.out 0
              have hfz14_1 := blk_frozen BK148.out 1
              have hfz14_2 := blk_frozen BK148.out 2
              have hfz14_3 := blk_frozen BK148.out 3
              have hfz14_4 := blk_frozen BK148.out 4
              go_wp2
              go_meet
              case rel => exact ⟨_, (true), (by first | rfl | (simp; done) | (simp [*]; done)), H', ⟨by first | omega | exact Nat.le_refl _⟩, ⟨by (with_reducible repeat (first | refine blk_drewN ?_ _ | refine blk_drew ?_ | refine blk_alloc ?_ _)); exact BK148.out⟩, ⟨by repeat (first | (with_reducible first | exact HB.out | apply below_alloc | apply pw_below_drewN | apply below_drew1 | refine below_set ?_ GE148.out) | exact HB.out)⟩⟩
            · rw [if_neg c13] at H
              have c13b0 : decide (2147483647 < a0_1) = false := decide_eq_false c13
              clear c13
              by_cases c15 : a0_2 > 2147483647
              · rw [if_pos c15] at H
                have c15b0 : decide (2147483647 < a0_2) = true := decide_eq_true c15
                clear c15
                have H' := Aside0.mk H
                clear H
                have hcz16_0 : w4.cell? ⟨gb148, 0, none⟩ = some (.string a0_0) := (blk_cell BK148.out 0).trans rfl
                have hcz16_1 : w4.cell? ⟨gb148, 1, none⟩ = some (.int .i64 a0_1) := (blk_cell BK148.out 1).trans rfl
                have hcz16_2 : w4.cell? ⟨gb148, 2, none⟩ = some (.int .i64 a0_2) := (blk_cell BK148.out 2).trans rfl
                have hcz16_3 : w4.cell? ⟨gb148, 3, none⟩ = some (.int .i64 a0_3) := (blk_cell BK148.out 3).trans rfl
                have hcz16_4 : w4.cell? ⟨gb148, 4, none⟩ = some (.string a0_4) := (blk_cell BK148.out 4).trans rfl
                have hfz16_0 := blk_frozen BK148.out 0
                have hfz16_1 := blk_frozen BK148.out 1
                have hfz16_2 := blk_frozen BK148.out 2
                have hfz16_3 := blk_frozen BK148.out 3
                have hfz16_4 := blk_frozen BK148.out 4
                go_wp2
                go_meet
                case rel => exact ⟨_, (true), (by first | rfl | (simp; done) | (simp [*]; done)), H', ⟨by first | omega | exact Nat.le_refl _⟩, ⟨by (with_reducible repeat (first | refine blk_drewN ?_ _ | refine blk_drew ?_ | refine blk_alloc ?_ _)); exact BK148.out⟩, ⟨by repeat (first | (with_reducible first | exact HB.out | apply below_alloc | apply pw_below_drewN | apply below_drew1 | refine below_set ?_ GE148.out) | exact HB.out)⟩⟩
              · rw [if_neg c15] at H
                have c15b0 : decide (2147483647 < a0_2) = false := decide_eq_false c15
                clear c15
                have H' := Aside0.mk H
                clear H
                have hcz17_0 : w4.cell? ⟨gb148, 0, none⟩ = some (.string a0_0) := (blk_cell BK148.out 0).trans rfl
                have hcz17_1 : w4.cell? ⟨gb148, 1, none⟩ = some (.int .i64 a0_1) := (blk_cell BK148.out 1).trans rfl
                have hcz17_2 : w4.cell? ⟨gb148, 2, none⟩ = some (.int .i64 a0_2) := (blk_cell BK148.out 2).trans rfl
                have hcz17_3 : w4.cell? ⟨gb148, 3, none⟩ = some (.int .i64 a0_3) := (blk_cell BK148.out 3).trans rfl
                have hcz17_4 : w4.cell? ⟨gb148, 4, none⟩ = some (.string a0_4) := (blk_cell BK148.out 4).trans rfl
                have hfz17_0 := blk_frozen BK148.out 0
                have hfz17_1 := blk_frozen BK148.out 1
                have hfz17_2 := blk_frozen BK148.out 2
                have hfz17_3 := blk_frozen BK148.out 3
                have hfz17_4 := blk_frozen BK148.out 4
                go_wp2
                go_meet
                case rel => exact ⟨_, (decide (a0_3 > 2147483647)), (by first | rfl | (simp; done) | (simp [*]; done)), H', ⟨by first | omega | exact Nat.le_refl _⟩, ⟨by (with_reducible repeat (first | refine blk_drewN ?_ _ | refine blk_drew ?_ | refine blk_alloc ?_ _)); exact BK148.out⟩, ⟨by repeat (first | (with_reducible first | exact HB.out | apply below_alloc | apply pw_below_drewN | apply below_drew1 | refine below_set ?_ GE148.out) | exact HB.out)⟩⟩
    · replace c6 := Bool.eq_false_iff.mpr c6
      subst c6
      have H1 : (oakumref21_Print.j0 k t149 true a0_0 a0_1 a0_2 a0_3 a0_4) = some (r1, r2) := by rw [if_neg (show ¬ (false = true) by decide)] at H; exact H
      clear H
      have H := H1
      clear H1
      have H' := Aside0.mk H
      clear H
      go_wp2
      go_meet
      case rel => exact ⟨_, (true), (by first | rfl | (simp; done) | (simp [*]; done)), H', ⟨by first | omega | exact Nat.le_refl _⟩, ⟨by (with_reducible repeat (first | refine blk_drewN ?_ _ | refine blk_drew ?_ | refine blk_alloc ?_ _)); exact BK148.out⟩, ⟨by repeat (first | (with_reducible first | exact HB.out | apply below_alloc | apply pw_below_drewN | apply below_drew1 | refine below_set ?_ GE148.out) | exact HB.out)⟩⟩
  case rest =>
    clear HC3
    try clear c1
    try clear p2
    try clear c6
    try clear c7
    try clear c7b0
    try clear c9
    try clear c9b0
    try clear c11
    try clear c11b0
    try clear c13
    try clear c13b0
    try clear c15
    try clear c15b0
    try clear hcz10_0
    try clear hcz10_1
    try clear hcz10_2
    try clear hcz10_3
    try clear hcz10_4
    try clear hcz12_0
    try clear hcz12_1
    try clear hcz12_2
    try clear hcz12_3
    try clear hcz12_4
    try clear hcz14_0
    try clear hcz14_1
    try clear hcz14_2
    try clear hcz14_3
    try clear hcz14_4
    try clear hcz16_0
    try clear hcz16_1
    try clear hcz16_2
    try clear hcz16_3
    try clear hcz16_4
    try clear hcz17_0
    try clear hcz17_1
    try clear hcz17_2
    try clear hcz17_3
    try clear hcz17_4
    try clear hcz5_0
    try clear hcz5_1
    try clear hcz5_2
    try clear hcz5_3
    try clear hcz5_4
    try clear hcz8_0
    try clear hcz8_1
    try clear hcz8_2
    try clear hcz8_3
    try clear hcz8_4
    try clear hfz10_0
    try clear hfz10_1
    try clear hfz10_2
    try clear hfz10_3
    try clear hfz10_4
    try clear hfz12_0
    try clear hfz12_1
    try clear hfz12_2
    try clear hfz12_3
    try clear hfz12_4
    try clear hfz14_0
    try clear hfz14_1
    try clear hfz14_2
    try clear hfz14_3
    try clear hfz14_4
    try clear hfz16_0
    try clear hfz16_1
    try clear hfz16_2
    try clear hfz16_3
    try clear hfz16_4
    try clear hfz17_0
    try clear hfz17_1
    try clear hfz17_2
    try clear hfz17_3
    try clear hfz17_4
    try clear hfz5_0
    try clear hfz5_1
    try clear hfz5_2
    try clear hfz5_3
    try clear hfz5_4
    try clear hfz8_0
    try clear hfz8_1
    try clear hfz8_2
    try clear hfz8_3
    try clear hfz8_4
    obtain ⟨kq, x50_2, rfl, HA, HJ2, BK148, HB⟩ := hcut
    cases kq with
    | zero => exact absurd HA.out (by simp [oakumref21_Print.j0])
    | succ kj2 =>
      have H := HA.out
      clear HA
      simp only [oakumref21_Print.j0] at H
      by_cases c18 : x50_2 = true
      · subst c18
        have H1 : (some ((⟨#[]⟩ : ByteArray), 1)) = some (r1, r2) := by rw [if_pos rfl] at H; exact H
        clear H
        have H := H1
        clear H1
        simp only [Option.some.injEq, Prod.mk.injEq] at H
        obtain ⟨rfl, rfl⟩ := H
        go_wp2
        go_ret2
        exact ⟨by first | rfl | (simp [errW_none, errW_some] <;> rfl) | (simp [*, errW_none, errW_some] <;> rfl), by repeat (first | (with_reducible first | exact HB.out | apply below_alloc | apply pw_below_drewN | apply below_drew1 | refine below_set ?_ GE148.out) | exact HB.out)⟩
      · replace c18 := Bool.eq_false_iff.mpr c18
        subst c18
        have H1 : (oakumref21_Print.l0 kj2 t149 a0_0 0 a0_0 a0_1 a0_2 a0_3 a0_4 a0_0 0 0 0 (⟨#[]⟩ : ByteArray)) = some (r1, r2) := by rw [if_neg (show ¬ (false = true) by decide)] at H; exact H
        clear H
        have H := H1
        clear H1
        have H' := Aside0.mk H
        clear H
        have hcz19_0 : wc.cell? ⟨gb148, 0, none⟩ = some (.string a0_0) := (blk_cell BK148.out 0).trans rfl
        have hcz19_1 : wc.cell? ⟨gb148, 1, none⟩ = some (.int .i64 a0_1) := (blk_cell BK148.out 1).trans rfl
        have hcz19_2 : wc.cell? ⟨gb148, 2, none⟩ = some (.int .i64 a0_2) := (blk_cell BK148.out 2).trans rfl
        have hcz19_3 : wc.cell? ⟨gb148, 3, none⟩ = some (.int .i64 a0_3) := (blk_cell BK148.out 3).trans rfl
        have hcz19_4 : wc.cell? ⟨gb148, 4, none⟩ = some (.string a0_4) := (blk_cell BK148.out 4).trans rfl
        have hfz19_0 := blk_frozen BK148.out 0
        have hfz19_1 := blk_frozen BK148.out 1
        have hfz19_2 := blk_frozen BK148.out 2
        have hfz19_3 := blk_frozen BK148.out 3
        have hfz19_4 := blk_frozen BK148.out 4
        go_wp2_with (first | ((with_reducible refine gate_dst (N := 8) rfl ?_); refine box_event ?hg (N := 8) ?hd (cs := #[.string (⟨#[]⟩ : ByteArray), .int .i64 0, .int .i64 0, .int .i64 0, .string (⟨#[]⟩ : ByteArray)]) (t := 23) ?hr ?_; (case hd => rfl); (case hg => rfl); (case hr => first | (go_simp; done) | (go_simp; rfl)); intro gb151 hg w20 hbox hb; have n0_ := Aside0.mk (blk_below (g := gb148) (o := .cells #[.string a0_0, .int .i64 a0_1, .int .i64 a0_2, .int .i64 a0_3, .string a0_4] 23 (0, 0)) (by (with_reducible repeat (first | refine blk_drewN ?_ _ | refine blk_drew ?_ | refine blk_alloc ?_ _)); exact BK148.out) hb); have n1_ := Aside0.mk (below_step (by repeat (first | (with_reducible first | exact HB.out | apply below_alloc | apply pw_below_drewN | apply below_drew1 | refine below_set ?_ GE148.out) | exact HB.out)) hb); have n2_ := Aside0.mk (hbox); have n3_ := Aside0.mk ((by rw [hg]; exact (below_size (by repeat (first | (with_reducible first | exact HB.out | apply below_alloc | apply pw_below_drewN | apply below_drew1 | refine below_set ?_ GE148.out) | exact HB.out))) : w.heap.size ≤ gb151)); have n4_ := Aside0.mk ((by rw [hg]; exact (below_size (by repeat (first | (with_reducible first | exact HB.out | apply below_alloc | apply pw_below_drewN | apply below_drew1 | refine below_set ?_ GE148.out) | exact HB.out))) : w.heap.size ≤ gb151)); have n5_ := Aside0.mk ((by rw [hg]; exact Nat.ne_of_lt (blk_lt (g := gb148) (o := .cells #[.string a0_0, .int .i64 a0_1, .int .i64 a0_2, .int .i64 a0_3, .string a0_4] 23 (0, 0)) (by (with_reducible repeat (first | refine blk_drewN ?_ _ | refine blk_drew ?_ | refine blk_alloc ?_ _)); exact BK148.out)) : gb148 ≠ gb151)); have n6_ := Aside0.mk ((by rw [hg]; exact Nat.ne_of_gt (blk_lt (g := gb148) (o := .cells #[.string a0_0, .int .i64 a0_1, .int .i64 a0_2, .int .i64 a0_3, .string a0_4] 23 (0, 0)) (by (with_reducible repeat (first | refine blk_drewN ?_ _ | refine blk_drew ?_ | refine blk_alloc ?_ _)); exact BK148.out)) : gb151 ≠ gb148)); clear BK148; clear HB; have BK148 := n0_; have HB := n1_; have BK151 := n2_; have GW151 := n3_; have GE151 := n4_; have NB148_151 := n5_; have NB151_148 := n6_; clear n0_ n1_ n2_ n3_ n4_ n5_ n6_; clear hb hbox hg; have hnb21 := NB151_148.out; have hnc21 := NB148_151.out; have hcz22_0 : w20.cell? ⟨gb151, 0, none⟩ = some (.string (⟨#[]⟩ : ByteArray)) := (blk_cell BK151.out 0).trans rfl; have hcz22_1 : w20.cell? ⟨gb151, 1, none⟩ = some (.int .i64 0) := (blk_cell BK151.out 1).trans rfl; have hcz22_2 : w20.cell? ⟨gb151, 2, none⟩ = some (.int .i64 0) := (blk_cell BK151.out 2).trans rfl; have hcz22_3 : w20.cell? ⟨gb151, 3, none⟩ = some (.int .i64 0) := (blk_cell BK151.out 3).trans rfl; have hcz22_4 : w20.cell? ⟨gb151, 4, none⟩ = some (.string (⟨#[]⟩ : ByteArray)) := (blk_cell BK151.out 4).trans rfl; have hfz22_0 := blk_frozen BK151.out 0; have hfz22_1 := blk_frozen BK151.out 1; have hfz22_2 := blk_frozen BK151.out 2; have hfz22_3 := blk_frozen BK151.out 3; have hfz22_4 := blk_frozen BK151.out 4))
        go_loopg [7, 9] kj2 (fun kq v7 v9 w' => ∃ (x7_2 : ByteArray) (x9_2 : Int) (x152001_2 : Int) (x152002_2 : Int) (x152003_2 : Int) (x152004_2 : ByteArray), v7 = .string x7_2 ∧ v9 = .int .i64 x9_2 ∧ Aside0 (oakumref21_Print.l0 kq t149 x7_2 x9_2 a0_0 a0_1 a0_2 a0_3 a0_4 a0_0 x152001_2 x152002_2 x152003_2 x152004_2 = some (r1, r2)) ∧ Aside0 (kq ≤ kj2) ∧ Aside0 (w'.heap[gb148]? = some (.cells #[.string a0_0, .int .i64 a0_1, .int .i64 a0_2, .int .i64 a0_3, .string a0_4] 23 (0, 0))) ∧ Aside0 (w'.heap[gb151]? = some (.cells #[.string a0_0, .int .i64 x152001_2, .int .i64 x152002_2, .int .i64 x152003_2, .string x152004_2] 23 (0, 0))) ∧ Aside0 (Below w.heap.size w w'))
        case atStart => exact ⟨(a0_0), (0), (0), (0), (0), ((⟨#[]⟩ : ByteArray)), (by first | rfl | (simp; done) | (simp [*]; done)), (by first | rfl | (simp; done) | (simp [*]; done)), H', ⟨Nat.le_refl _⟩, ⟨by (with_reducible repeat (first | refine blk_drewN ?_ _ | refine blk_drew ?_ | refine blk_alloc ?_ _)); refine blk_far ?_ NB148_151.out _; (with_reducible repeat (first | refine blk_drewN ?_ _ | refine blk_drew ?_ | refine blk_alloc ?_ _)); refine blk_far ?_ NB148_151.out _; (with_reducible repeat (first | refine blk_drewN ?_ _ | refine blk_drew ?_ | refine blk_alloc ?_ _)); refine blk_far ?_ NB148_151.out _; (with_reducible repeat (first | refine blk_drewN ?_ _ | refine blk_drew ?_ | refine blk_alloc ?_ _)); refine blk_far ?_ NB148_151.out _; (with_reducible repeat (first | refine blk_drewN ?_ _ | refine blk_drew ?_ | refine blk_alloc ?_ _)); refine blk_far ?_ NB148_151.out _; (with_reducible repeat (first | refine blk_drewN ?_ _ | refine blk_drew ?_ | refine blk_alloc ?_ _)); exact BK148.out⟩, ⟨by (with_reducible repeat (first | refine blk_drewN ?_ _ | refine blk_drew ?_ | refine blk_alloc ?_ _)); refine blk_put (cs := #[.string a0_0, .int .i64 0, .int .i64 0, .int .i64 0, .string (⟨#[]⟩ : ByteArray)]) ?_ 4 _ rfl; (with_reducible repeat (first | refine blk_drewN ?_ _ | refine blk_drew ?_ | refine blk_alloc ?_ _)); refine blk_put (cs := #[.string a0_0, .int .i64 0, .int .i64 0, .int .i64 0, .string (⟨#[]⟩ : ByteArray)]) ?_ 3 _ rfl; (with_reducible repeat (first | refine blk_drewN ?_ _ | refine blk_drew ?_ | refine blk_alloc ?_ _)); refine blk_put (cs := #[.string a0_0, .int .i64 0, .int .i64 0, .int .i64 0, .string (⟨#[]⟩ : ByteArray)]) ?_ 2 _ rfl; (with_reducible repeat (first | refine blk_drewN ?_ _ | refine blk_drew ?_ | refine blk_alloc ?_ _)); refine blk_put (cs := #[.string a0_0, .int .i64 0, .int .i64 0, .int .i64 0, .string (⟨#[]⟩ : ByteArray)]) ?_ 1 _ rfl; (with_reducible repeat (first | refine blk_drewN ?_ _ | refine blk_drew ?_ | refine blk_alloc ?_ _)); refine blk_put (cs := #[.string (⟨#[]⟩ : ByteArray), .int .i64 0, .int .i64 0, .int .i64 0, .string (⟨#[]⟩ : ByteArray)]) ?_ 0 _ rfl; (with_reducible repeat (first | refine blk_drewN ?_ _ | refine blk_drew ?_ | refine blk_alloc ?_ _)); exact BK151.out⟩, ⟨by repeat (first | (with_reducible first | exact HB.out | apply below_alloc | apply pw_below_drewN | apply below_drew1 | refine below_set ?_ GE148.out | refine below_set ?_ GE151.out) | exact HB.out)⟩⟩
        case round =>
          clear H'
          try clear c1
          try clear c2
          try clear p2
          try clear c6
          try clear c7
          try clear c7b0
          try clear c9
          try clear c9b0
          try clear c11
          try clear c11b0
          try clear c13
          try clear c13b0
          try clear c15
          try clear c15b0
          try clear c18
          try clear c21
          try clear hcz10_0
          try clear hcz10_1
          try clear hcz10_2
          try clear hcz10_3
          try clear hcz10_4
          try clear hcz12_0
          try clear hcz12_1
          try clear hcz12_2
          try clear hcz12_3
          try clear hcz12_4
          try clear hcz14_0
          try clear hcz14_1
          try clear hcz14_2
          try clear hcz14_3
          try clear hcz14_4
          try clear hcz16_0
          try clear hcz16_1
          try clear hcz16_2
          try clear hcz16_3
          try clear hcz16_4
          try clear hcz17_0
          try clear hcz17_1
          try clear hcz17_2
          try clear hcz17_3
          try clear hcz17_4
          try clear hcz19_0
          try clear hcz19_1
          try clear hcz19_2
          try clear hcz19_3
          try clear hcz19_4
          try clear hcz22_0
          try clear hcz22_1
          try clear hcz22_2
          try clear hcz22_3
          try clear hcz22_4
          try clear hcz5_0
          try clear hcz5_1
          try clear hcz5_2
          try clear hcz5_3
          try clear hcz5_4
          try clear hcz8_0
          try clear hcz8_1
          try clear hcz8_2
          try clear hcz8_3
          try clear hcz8_4
          try clear hfz10_0
          try clear hfz10_1
          try clear hfz10_2
          try clear hfz10_3
          try clear hfz10_4
          try clear hfz12_0
          try clear hfz12_1
          try clear hfz12_2
          try clear hfz12_3
          try clear hfz12_4
          try clear hfz14_0
          try clear hfz14_1
          try clear hfz14_2
          try clear hfz14_3
          try clear hfz14_4
          try clear hfz16_0
          try clear hfz16_1
          try clear hfz16_2
          try clear hfz16_3
          try clear hfz16_4
          try clear hfz17_0
          try clear hfz17_1
          try clear hfz17_2
          try clear hfz17_3
          try clear hfz17_4
          try clear hfz19_0
          try clear hfz19_1
          try clear hfz19_2
          try clear hfz19_3
          try clear hfz19_4
          try clear hfz22_0
          try clear hfz22_1
          try clear hfz22_2
          try clear hfz22_3
          try clear hfz22_4
          try clear hfz5_0
          try clear hfz5_1
          try clear hfz5_2
          try clear hfz5_3
          try clear hfz5_4
          try clear hfz8_0
          try clear hfz8_1
          try clear hfz8_2
          try clear hfz8_3
          try clear hfz8_4
          try clear p2
          obtain ⟨x7_2, x9_2, x152001_2, x152002_2, x152003_2, x152004_2, rfl, rfl, HA, HK2, BK148, BK151, HB⟩ := hrel
          cases gk with
          | zero => exact absurd HA.out (by simp [oakumref21_Print.l0])
          | succ k2 =>
            have H := HA.out
            clear HA
            simp only [oakumref21_Print.l0] at H
            by_cases c23 : x9_2 < (t149.size : Int)
            · rw [if_pos c23] at H
              have c23b0 : decide (x9_2 < (t149.size : Int)) = true := decide_eq_true c23
              clear c23
              by_cases c24 : 0 ≤ x9_2
              · rw [if_pos c24] at H
                have c24b0 : decide (0 ≤ x9_2) = true := decide_eq_true c24
                clear c24
                by_cases c26 : (bt t149 x9_2) = 105
                · rw [if_pos c26] at H
                  have c26b0 : ((bt t149 x9_2) == 105) = true := beq_iff_eq.mpr c26
                  have c26b1 : ((bt t149 x9_2) != 105) = false := bne_eq_false_iff_eq.mpr c26
                  clear c26
                  by_cases c27 : x7_2.size + 1 ≤ 9223372036854775807
                  · rw [if_pos c27] at H
                    have c27b0 := eq_true c27
                    have c27b1 : decide (x7_2.size + 1 ≤ 9223372036854775807) = true := decide_eq_true c27
                    try have c27b2 : (9223372036854775807 < x7_2.size + 1) = False := eq_false (Nat.not_lt.2 c27)
                    replace H := Option.bind_eq_some_iff.mp H
                    obtain ⟨t152, A280, H⟩ := H
                    replace H : (if (x7_2 ++ (⟨#[32]⟩ : ByteArray)).size + t152.size ≤ 9223372036854775807 then (oakumref21_Print.l0 k2 t149 ((x7_2 ++ (⟨#[32]⟩ : ByteArray)) ++ t152) (wrap64 (x9_2 + 1)) a0_0 a0_1 a0_2 a0_3 a0_4 a0_0 a0_1 x152002_2 x152003_2 x152004_2) else (none)) = some (r1, r2) := H
                    have A28 := Aside0.mk A280
                    clear A280
                    by_cases c29 : (x7_2 ++ (⟨#[32]⟩ : ByteArray)).size + t152.size ≤ 9223372036854775807
                    · rw [if_pos c29] at H
                      have c29b0 := eq_true c29
                      have c29b1 : decide ((x7_2 ++ (⟨#[32]⟩ : ByteArray)).size + t152.size ≤ 9223372036854775807) = true := decide_eq_true c29
                      try have c29b2 : (9223372036854775807 < (x7_2 ++ (⟨#[32]⟩ : ByteArray)).size + t152.size) = False := eq_false (Nat.not_lt.2 c29)
                      try have c29b3 : (9223372036854775807 < x7_2.size + 1 + t152.size) = False := eq_false (by have q := c29; rw [ByteArray.size_append] at q; have q2 : (⟨#[32]⟩ : ByteArray).size = 1 := rfl; omega)
                      have H' := Aside0.mk H
                      clear H
                      have p25 : 0 ≤ (x9_2 : Int) := of_decide_eq_true (by first | (with_reducible assumption) | assumption)
                      have q25 : x9_2 < (t149.size : Int) := of_decide_eq_true (by first | (with_reducible assumption) | assumption)
                      have hx25 := bt_at t149 x9_2
                      replace p25 := eq_true p25
                      replace q25 := eq_true q25
                      have hnb30 := NB148_151.out
                      have hnc30 := NB151_148.out
                      have hcz31_0 : wr.cell? ⟨gb148, 0, none⟩ = some (.string a0_0) := (blk_cell BK148.out 0).trans rfl
                      have hcz31_1 : wr.cell? ⟨gb148, 1, none⟩ = some (.int .i64 a0_1) := (blk_cell BK148.out 1).trans rfl
                      have hcz31_2 : wr.cell? ⟨gb148, 2, none⟩ = some (.int .i64 a0_2) := (blk_cell BK148.out 2).trans rfl
                      have hcz31_3 : wr.cell? ⟨gb148, 3, none⟩ = some (.int .i64 a0_3) := (blk_cell BK148.out 3).trans rfl
                      have hcz31_4 : wr.cell? ⟨gb148, 4, none⟩ = some (.string a0_4) := (blk_cell BK148.out 4).trans rfl
                      have hfz31_0 := blk_frozen BK148.out 0
                      have hfz31_1 := blk_frozen BK148.out 1
                      have hfz31_2 := blk_frozen BK148.out 2
                      have hfz31_3 := blk_frozen BK148.out 3
                      have hfz31_4 := blk_frozen BK148.out 4
                      have hcz32_0 : wr.cell? ⟨gb151, 0, none⟩ = some (.string a0_0) := (blk_cell BK151.out 0).trans rfl
                      have hcz32_1 : wr.cell? ⟨gb151, 1, none⟩ = some (.int .i64 x152001_2) := (blk_cell BK151.out 1).trans rfl
                      have hcz32_2 : wr.cell? ⟨gb151, 2, none⟩ = some (.int .i64 x152002_2) := (blk_cell BK151.out 2).trans rfl
                      have hcz32_3 : wr.cell? ⟨gb151, 3, none⟩ = some (.int .i64 x152003_2) := (blk_cell BK151.out 3).trans rfl
                      have hcz32_4 : wr.cell? ⟨gb151, 4, none⟩ = some (.string x152004_2) := (blk_cell BK151.out 4).trans rfl
                      have hfz32_0 := blk_frozen BK151.out 0
                      have hfz32_1 := blk_frozen BK151.out 1
                      have hfz32_2 := blk_frozen BK151.out 2
                      have hfz32_3 := blk_frozen BK151.out 3
                      have hfz32_4 := blk_frozen BK151.out 4
                      go_wp2_with (first | ((with_reducible refine gate_callee (f := 16) rfl ?_); refine goesL_ (some 83) rfl rfl Tryd.func16 (by kernel_rfl) rfl #[.int .i64 a0_1] rfl (by (try simp only [List.map_toArray, List.map_cons, List.map_nil]); first | done | rfl | (simp only [List.length_drop, List.length_take]; rfl)) ?_; (with_reducible refine (oakumref20_Figures.calls k2 a0_1 t152 _ A28.out).mono ?_); rintro e w33 ⟨rfl, hb⟩; refine ⟨_, rfl, ?_⟩; have n0_ := Aside0.mk (blk_below (g := gb148) (o := .cells #[.string a0_0, .int .i64 a0_1, .int .i64 a0_2, .int .i64 a0_3, .string a0_4] 23 (0, 0)) (by (with_reducible repeat (first | refine blk_drewN ?_ _ | refine blk_drew ?_ | refine blk_alloc ?_ _)); refine blk_far ?_ NB148_151.out _; (with_reducible repeat (first | refine blk_drewN ?_ _ | refine blk_drew ?_ | refine blk_alloc ?_ _)); exact BK148.out) hb); have n1_ := Aside0.mk (blk_below (g := gb151) (o := .cells #[.string a0_0, .int .i64 a0_1, .int .i64 x152002_2, .int .i64 x152003_2, .string x152004_2] 23 (0, 0)) (by (with_reducible repeat (first | refine blk_drewN ?_ _ | refine blk_drew ?_ | refine blk_alloc ?_ _)); refine blk_put (cs := #[.string a0_0, .int .i64 x152001_2, .int .i64 x152002_2, .int .i64 x152003_2, .string x152004_2]) ?_ 1 _ rfl; (with_reducible repeat (first | refine blk_drewN ?_ _ | refine blk_drew ?_ | refine blk_alloc ?_ _)); exact BK151.out) hb); have n2_ := Aside0.mk (below_step (by repeat (first | (with_reducible first | exact HB.out | apply below_alloc | apply pw_below_drewN | apply below_drew1 | refine below_set ?_ GE148.out | refine below_set ?_ GE151.out) | exact HB.out)) hb); clear BK148; clear BK151; clear HB; have BK148 := n0_; have BK151 := n1_; have HB := n2_; clear n0_ n1_ n2_; (try clear hb); (try clear hb2); (try clear hk); (try clear hi)))
                      go_roundg k2
                      case measure => have := HJ2.out; have := HK2.out; omega
                      case rel => exact ⟨((x7_2 ++ (⟨#[32]⟩ : ByteArray)) ++ t152), (wrap64 (x9_2 + 1)), (a0_1), (x152002_2), (x152003_2), (x152004_2), (by first | rfl | (simp; done) | (simp [*]; done)), (by first | rfl | (simp; done) | (simp [*]; done)), H', ⟨by have := HJ2.out; have := HK2.out; omega⟩, ⟨by (with_reducible repeat (first | refine blk_drewN ?_ _ | refine blk_drew ?_ | refine blk_alloc ?_ _)); exact BK148.out⟩, ⟨by (with_reducible repeat (first | refine blk_drewN ?_ _ | refine blk_drew ?_ | refine blk_alloc ?_ _)); exact BK151.out⟩, ⟨by repeat (first | (with_reducible first | exact HB.out | apply below_alloc | apply pw_below_drewN | apply below_drew1 | refine below_set ?_ GE148.out | refine below_set ?_ GE151.out) | exact HB.out)⟩⟩
                    · rw [if_neg c29] at H
                      exact absurd H (by simp)
                  · rw [if_neg c27] at H
                    exact absurd H (by simp)
                · rw [if_neg c26] at H
                  have c26b0 : ((bt t149 x9_2) == 105) = false := beq_eq_false_iff_ne.mpr c26
                  have c26b1 : ((bt t149 x9_2) != 105) = true := bne_iff_ne.mpr c26
                  by_cases c34 : (bt t149 x9_2) = 97
                  · rw [if_pos c34] at H
                    have c34b0 : ((bt t149 x9_2) == 97) = true := beq_iff_eq.mpr c34
                    have c34b1 : ((bt t149 x9_2) != 97) = false := bne_eq_false_iff_eq.mpr c34
                    clear c34
                    by_cases c35 : x7_2.size + 1 ≤ 9223372036854775807
                    · rw [if_pos c35] at H
                      have c35b0 := eq_true c35
                      have c35b1 : decide (x7_2.size + 1 ≤ 9223372036854775807) = true := decide_eq_true c35
                      try have c35b2 : (9223372036854775807 < x7_2.size + 1) = False := eq_false (Nat.not_lt.2 c35)
                      replace H := Option.bind_eq_some_iff.mp H
                      obtain ⟨t153, A360, H⟩ := H
                      replace H : (if (x7_2 ++ (⟨#[32]⟩ : ByteArray)).size + t153.size ≤ 9223372036854775807 then (oakumref21_Print.l0 k2 t149 ((x7_2 ++ (⟨#[32]⟩ : ByteArray)) ++ t153) (wrap64 (x9_2 + 1)) a0_0 a0_1 a0_2 a0_3 a0_4 a0_0 x152001_2 a0_2 x152003_2 x152004_2) else (none)) = some (r1, r2) := H
                      have A36 := Aside0.mk A360
                      clear A360
                      by_cases c37 : (x7_2 ++ (⟨#[32]⟩ : ByteArray)).size + t153.size ≤ 9223372036854775807
                      · rw [if_pos c37] at H
                        have c37b0 := eq_true c37
                        have c37b1 : decide ((x7_2 ++ (⟨#[32]⟩ : ByteArray)).size + t153.size ≤ 9223372036854775807) = true := decide_eq_true c37
                        try have c37b2 : (9223372036854775807 < (x7_2 ++ (⟨#[32]⟩ : ByteArray)).size + t153.size) = False := eq_false (Nat.not_lt.2 c37)
                        try have c37b3 : (9223372036854775807 < x7_2.size + 1 + t153.size) = False := eq_false (by have q := c37; rw [ByteArray.size_append] at q; have q2 : (⟨#[32]⟩ : ByteArray).size = 1 := rfl; omega)
                        have H' := Aside0.mk H
                        clear H
                        have p25 : 0 ≤ (x9_2 : Int) := of_decide_eq_true (by first | (with_reducible assumption) | assumption)
                        have q25 : x9_2 < (t149.size : Int) := of_decide_eq_true (by first | (with_reducible assumption) | assumption)
                        have hx25 := bt_at t149 x9_2
                        replace p25 := eq_true p25
                        replace q25 := eq_true q25
                        have hnb38 := NB148_151.out
                        have hnc38 := NB151_148.out
                        have hcz39_0 : wr.cell? ⟨gb148, 0, none⟩ = some (.string a0_0) := (blk_cell BK148.out 0).trans rfl
                        have hcz39_1 : wr.cell? ⟨gb148, 1, none⟩ = some (.int .i64 a0_1) := (blk_cell BK148.out 1).trans rfl
                        have hcz39_2 : wr.cell? ⟨gb148, 2, none⟩ = some (.int .i64 a0_2) := (blk_cell BK148.out 2).trans rfl
                        have hcz39_3 : wr.cell? ⟨gb148, 3, none⟩ = some (.int .i64 a0_3) := (blk_cell BK148.out 3).trans rfl
                        have hcz39_4 : wr.cell? ⟨gb148, 4, none⟩ = some (.string a0_4) := (blk_cell BK148.out 4).trans rfl
                        have hfz39_0 := blk_frozen BK148.out 0
                        have hfz39_1 := blk_frozen BK148.out 1
                        have hfz39_2 := blk_frozen BK148.out 2
                        have hfz39_3 := blk_frozen BK148.out 3
                        have hfz39_4 := blk_frozen BK148.out 4
                        have hcz40_0 : wr.cell? ⟨gb151, 0, none⟩ = some (.string a0_0) := (blk_cell BK151.out 0).trans rfl
                        have hcz40_1 : wr.cell? ⟨gb151, 1, none⟩ = some (.int .i64 x152001_2) := (blk_cell BK151.out 1).trans rfl
                        have hcz40_2 : wr.cell? ⟨gb151, 2, none⟩ = some (.int .i64 x152002_2) := (blk_cell BK151.out 2).trans rfl
                        have hcz40_3 : wr.cell? ⟨gb151, 3, none⟩ = some (.int .i64 x152003_2) := (blk_cell BK151.out 3).trans rfl
                        have hcz40_4 : wr.cell? ⟨gb151, 4, none⟩ = some (.string x152004_2) := (blk_cell BK151.out 4).trans rfl
                        have hfz40_0 := blk_frozen BK151.out 0
                        have hfz40_1 := blk_frozen BK151.out 1
                        have hfz40_2 := blk_frozen BK151.out 2
                        have hfz40_3 := blk_frozen BK151.out 3
                        have hfz40_4 := blk_frozen BK151.out 4
                        go_wp2_with (first | ((with_reducible refine gate_callee (f := 16) rfl ?_); refine goesL_ (some 94) rfl rfl Tryd.func16 (by kernel_rfl) rfl #[.int .i64 a0_2] rfl (by (try simp only [List.map_toArray, List.map_cons, List.map_nil]); first | done | rfl | (simp only [List.length_drop, List.length_take]; rfl)) ?_; (with_reducible refine (oakumref20_Figures.calls k2 a0_2 t153 _ A36.out).mono ?_); rintro e w41 ⟨rfl, hb⟩; refine ⟨_, rfl, ?_⟩; have n0_ := Aside0.mk (blk_below (g := gb148) (o := .cells #[.string a0_0, .int .i64 a0_1, .int .i64 a0_2, .int .i64 a0_3, .string a0_4] 23 (0, 0)) (by (with_reducible repeat (first | refine blk_drewN ?_ _ | refine blk_drew ?_ | refine blk_alloc ?_ _)); refine blk_far ?_ NB148_151.out _; (with_reducible repeat (first | refine blk_drewN ?_ _ | refine blk_drew ?_ | refine blk_alloc ?_ _)); exact BK148.out) hb); have n1_ := Aside0.mk (blk_below (g := gb151) (o := .cells #[.string a0_0, .int .i64 x152001_2, .int .i64 a0_2, .int .i64 x152003_2, .string x152004_2] 23 (0, 0)) (by (with_reducible repeat (first | refine blk_drewN ?_ _ | refine blk_drew ?_ | refine blk_alloc ?_ _)); refine blk_put (cs := #[.string a0_0, .int .i64 x152001_2, .int .i64 x152002_2, .int .i64 x152003_2, .string x152004_2]) ?_ 2 _ rfl; (with_reducible repeat (first | refine blk_drewN ?_ _ | refine blk_drew ?_ | refine blk_alloc ?_ _)); exact BK151.out) hb); have n2_ := Aside0.mk (below_step (by repeat (first | (with_reducible first | exact HB.out | apply below_alloc | apply pw_below_drewN | apply below_drew1 | refine below_set ?_ GE148.out | refine below_set ?_ GE151.out) | exact HB.out)) hb); clear BK148; clear BK151; clear HB; have BK148 := n0_; have BK151 := n1_; have HB := n2_; clear n0_ n1_ n2_; (try clear hb); (try clear hb2); (try clear hk); (try clear hi)))
                        go_roundg k2
                        case measure => have := HJ2.out; have := HK2.out; omega
                        case rel => exact ⟨((x7_2 ++ (⟨#[32]⟩ : ByteArray)) ++ t153), (wrap64 (x9_2 + 1)), (x152001_2), (a0_2), (x152003_2), (x152004_2), (by first | rfl | (simp; done) | (simp [*]; done)), (by first | rfl | (simp; done) | (simp [*]; done)), H', ⟨by have := HJ2.out; have := HK2.out; omega⟩, ⟨by (with_reducible repeat (first | refine blk_drewN ?_ _ | refine blk_drew ?_ | refine blk_alloc ?_ _)); exact BK148.out⟩, ⟨by (with_reducible repeat (first | refine blk_drewN ?_ _ | refine blk_drew ?_ | refine blk_alloc ?_ _)); exact BK151.out⟩, ⟨by repeat (first | (with_reducible first | exact HB.out | apply below_alloc | apply pw_below_drewN | apply below_drew1 | refine below_set ?_ GE148.out | refine below_set ?_ GE151.out) | exact HB.out)⟩⟩
                      · rw [if_neg c37] at H
                        exact absurd H (by simp)
                    · rw [if_neg c35] at H
                      exact absurd H (by simp)
                  · rw [if_neg c34] at H
                    have c34b0 : ((bt t149 x9_2) == 97) = false := beq_eq_false_iff_ne.mpr c34
                    have c34b1 : ((bt t149 x9_2) != 97) = true := bne_iff_ne.mpr c34
                    by_cases c42 : (bt t149 x9_2) = 110
                    · rw [if_pos c42] at H
                      have c42b0 : ((bt t149 x9_2) == 110) = true := beq_iff_eq.mpr c42
                      have c42b1 : ((bt t149 x9_2) != 110) = false := bne_eq_false_iff_eq.mpr c42
                      clear c42
                      by_cases c43 : x7_2.size + 1 ≤ 9223372036854775807
                      · rw [if_pos c43] at H
                        have c43b0 := eq_true c43
                        have c43b1 : decide (x7_2.size + 1 ≤ 9223372036854775807) = true := decide_eq_true c43
                        try have c43b2 : (9223372036854775807 < x7_2.size + 1) = False := eq_false (Nat.not_lt.2 c43)
                        replace H := Option.bind_eq_some_iff.mp H
                        obtain ⟨t154, A440, H⟩ := H
                        replace H : (if (x7_2 ++ (⟨#[32]⟩ : ByteArray)).size + t154.size ≤ 9223372036854775807 then (oakumref21_Print.l0 k2 t149 ((x7_2 ++ (⟨#[32]⟩ : ByteArray)) ++ t154) (wrap64 (x9_2 + 1)) a0_0 a0_1 a0_2 a0_3 a0_4 a0_0 x152001_2 x152002_2 a0_3 x152004_2) else (none)) = some (r1, r2) := H
                        have A44 := Aside0.mk A440
                        clear A440
                        by_cases c45 : (x7_2 ++ (⟨#[32]⟩ : ByteArray)).size + t154.size ≤ 9223372036854775807
                        · rw [if_pos c45] at H
                          have c45b0 := eq_true c45
                          have c45b1 : decide ((x7_2 ++ (⟨#[32]⟩ : ByteArray)).size + t154.size ≤ 9223372036854775807) = true := decide_eq_true c45
                          try have c45b2 : (9223372036854775807 < (x7_2 ++ (⟨#[32]⟩ : ByteArray)).size + t154.size) = False := eq_false (Nat.not_lt.2 c45)
                          try have c45b3 : (9223372036854775807 < x7_2.size + 1 + t154.size) = False := eq_false (by have q := c45; rw [ByteArray.size_append] at q; have q2 : (⟨#[32]⟩ : ByteArray).size = 1 := rfl; omega)
                          have H' := Aside0.mk H
                          clear H
                          have p25 : 0 ≤ (x9_2 : Int) := of_decide_eq_true (by first | (with_reducible assumption) | assumption)
                          have q25 : x9_2 < (t149.size : Int) := of_decide_eq_true (by first | (with_reducible assumption) | assumption)
                          have hx25 := bt_at t149 x9_2
                          replace p25 := eq_true p25
                          replace q25 := eq_true q25
                          have hnb46 := NB148_151.out
                          have hnc46 := NB151_148.out
                          have hcz47_0 : wr.cell? ⟨gb148, 0, none⟩ = some (.string a0_0) := (blk_cell BK148.out 0).trans rfl
                          have hcz47_1 : wr.cell? ⟨gb148, 1, none⟩ = some (.int .i64 a0_1) := (blk_cell BK148.out 1).trans rfl
                          have hcz47_2 : wr.cell? ⟨gb148, 2, none⟩ = some (.int .i64 a0_2) := (blk_cell BK148.out 2).trans rfl
                          have hcz47_3 : wr.cell? ⟨gb148, 3, none⟩ = some (.int .i64 a0_3) := (blk_cell BK148.out 3).trans rfl
                          have hcz47_4 : wr.cell? ⟨gb148, 4, none⟩ = some (.string a0_4) := (blk_cell BK148.out 4).trans rfl
                          have hfz47_0 := blk_frozen BK148.out 0
                          have hfz47_1 := blk_frozen BK148.out 1
                          have hfz47_2 := blk_frozen BK148.out 2
                          have hfz47_3 := blk_frozen BK148.out 3
                          have hfz47_4 := blk_frozen BK148.out 4
                          have hcz48_0 : wr.cell? ⟨gb151, 0, none⟩ = some (.string a0_0) := (blk_cell BK151.out 0).trans rfl
                          have hcz48_1 : wr.cell? ⟨gb151, 1, none⟩ = some (.int .i64 x152001_2) := (blk_cell BK151.out 1).trans rfl
                          have hcz48_2 : wr.cell? ⟨gb151, 2, none⟩ = some (.int .i64 x152002_2) := (blk_cell BK151.out 2).trans rfl
                          have hcz48_3 : wr.cell? ⟨gb151, 3, none⟩ = some (.int .i64 x152003_2) := (blk_cell BK151.out 3).trans rfl
                          have hcz48_4 : wr.cell? ⟨gb151, 4, none⟩ = some (.string x152004_2) := (blk_cell BK151.out 4).trans rfl
                          have hfz48_0 := blk_frozen BK151.out 0
                          have hfz48_1 := blk_frozen BK151.out 1
                          have hfz48_2 := blk_frozen BK151.out 2
                          have hfz48_3 := blk_frozen BK151.out 3
                          have hfz48_4 := blk_frozen BK151.out 4
                          go_wp2_with (first | ((with_reducible refine gate_callee (f := 16) rfl ?_); refine goesL_ (some 105) rfl rfl Tryd.func16 (by kernel_rfl) rfl #[.int .i64 a0_3] rfl (by (try simp only [List.map_toArray, List.map_cons, List.map_nil]); first | done | rfl | (simp only [List.length_drop, List.length_take]; rfl)) ?_; (with_reducible refine (oakumref20_Figures.calls k2 a0_3 t154 _ A44.out).mono ?_); rintro e w49 ⟨rfl, hb⟩; refine ⟨_, rfl, ?_⟩; have n0_ := Aside0.mk (blk_below (g := gb148) (o := .cells #[.string a0_0, .int .i64 a0_1, .int .i64 a0_2, .int .i64 a0_3, .string a0_4] 23 (0, 0)) (by (with_reducible repeat (first | refine blk_drewN ?_ _ | refine blk_drew ?_ | refine blk_alloc ?_ _)); refine blk_far ?_ NB148_151.out _; (with_reducible repeat (first | refine blk_drewN ?_ _ | refine blk_drew ?_ | refine blk_alloc ?_ _)); exact BK148.out) hb); have n1_ := Aside0.mk (blk_below (g := gb151) (o := .cells #[.string a0_0, .int .i64 x152001_2, .int .i64 x152002_2, .int .i64 a0_3, .string x152004_2] 23 (0, 0)) (by (with_reducible repeat (first | refine blk_drewN ?_ _ | refine blk_drew ?_ | refine blk_alloc ?_ _)); refine blk_put (cs := #[.string a0_0, .int .i64 x152001_2, .int .i64 x152002_2, .int .i64 x152003_2, .string x152004_2]) ?_ 3 _ rfl; (with_reducible repeat (first | refine blk_drewN ?_ _ | refine blk_drew ?_ | refine blk_alloc ?_ _)); exact BK151.out) hb); have n2_ := Aside0.mk (below_step (by repeat (first | (with_reducible first | exact HB.out | apply below_alloc | apply pw_below_drewN | apply below_drew1 | refine below_set ?_ GE148.out | refine below_set ?_ GE151.out) | exact HB.out)) hb); clear BK148; clear BK151; clear HB; have BK148 := n0_; have BK151 := n1_; have HB := n2_; clear n0_ n1_ n2_; (try clear hb); (try clear hb2); (try clear hk); (try clear hi)))
                          go_roundg k2
                          case measure => have := HJ2.out; have := HK2.out; omega
                          case rel => exact ⟨((x7_2 ++ (⟨#[32]⟩ : ByteArray)) ++ t154), (wrap64 (x9_2 + 1)), (x152001_2), (x152002_2), (a0_3), (x152004_2), (by first | rfl | (simp; done) | (simp [*]; done)), (by first | rfl | (simp; done) | (simp [*]; done)), H', ⟨by have := HJ2.out; have := HK2.out; omega⟩, ⟨by (with_reducible repeat (first | refine blk_drewN ?_ _ | refine blk_drew ?_ | refine blk_alloc ?_ _)); exact BK148.out⟩, ⟨by (with_reducible repeat (first | refine blk_drewN ?_ _ | refine blk_drew ?_ | refine blk_alloc ?_ _)); exact BK151.out⟩, ⟨by repeat (first | (with_reducible first | exact HB.out | apply below_alloc | apply pw_below_drewN | apply below_drew1 | refine below_set ?_ GE148.out | refine below_set ?_ GE151.out) | exact HB.out)⟩⟩
                        · rw [if_neg c45] at H
                          exact absurd H (by simp)
                      · rw [if_neg c43] at H
                        exact absurd H (by simp)
                    · rw [if_neg c42] at H
                      have c42b0 : ((bt t149 x9_2) == 110) = false := beq_eq_false_iff_ne.mpr c42
                      have c42b1 : ((bt t149 x9_2) != 110) = true := bne_iff_ne.mpr c42
                      by_cases c50 : x7_2.size + 1 ≤ 9223372036854775807
                      · rw [if_pos c50] at H
                        have c50b0 := eq_true c50
                        have c50b1 : decide (x7_2.size + 1 ≤ 9223372036854775807) = true := decide_eq_true c50
                        try have c50b2 : (9223372036854775807 < x7_2.size + 1) = False := eq_false (Nat.not_lt.2 c50)
                        replace H := Option.bind_eq_some_iff.mp H
                        obtain ⟨t155, A510, H⟩ := H
                        replace H : (if (x7_2 ++ (⟨#[32]⟩ : ByteArray)).size + t155.size ≤ 9223372036854775807 then (oakumref21_Print.l0 k2 t149 ((x7_2 ++ (⟨#[32]⟩ : ByteArray)) ++ t155) (wrap64 (x9_2 + 1)) a0_0 a0_1 a0_2 a0_3 a0_4 a0_0 x152001_2 x152002_2 x152003_2 a0_4) else (none)) = some (r1, r2) := H
                        have A51 := Aside0.mk A510
                        clear A510
                        by_cases c52 : (x7_2 ++ (⟨#[32]⟩ : ByteArray)).size + t155.size ≤ 9223372036854775807
                        · rw [if_pos c52] at H
                          have c52b0 := eq_true c52
                          have c52b1 : decide ((x7_2 ++ (⟨#[32]⟩ : ByteArray)).size + t155.size ≤ 9223372036854775807) = true := decide_eq_true c52
                          try have c52b2 : (9223372036854775807 < (x7_2 ++ (⟨#[32]⟩ : ByteArray)).size + t155.size) = False := eq_false (Nat.not_lt.2 c52)
                          try have c52b3 : (9223372036854775807 < x7_2.size + 1 + t155.size) = False := eq_false (by have q := c52; rw [ByteArray.size_append] at q; have q2 : (⟨#[32]⟩ : ByteArray).size = 1 := rfl; omega)
                          have H' := Aside0.mk H
                          clear H
                          have p25 : 0 ≤ (x9_2 : Int) := of_decide_eq_true (by first | (with_reducible assumption) | assumption)
                          have q25 : x9_2 < (t149.size : Int) := of_decide_eq_true (by first | (with_reducible assumption) | assumption)
                          have hx25 := bt_at t149 x9_2
                          replace p25 := eq_true p25
                          replace q25 := eq_true q25
                          have hnb53 := NB148_151.out
                          have hnc53 := NB151_148.out
                          have hcz54_0 : wr.cell? ⟨gb148, 0, none⟩ = some (.string a0_0) := (blk_cell BK148.out 0).trans rfl
                          have hcz54_1 : wr.cell? ⟨gb148, 1, none⟩ = some (.int .i64 a0_1) := (blk_cell BK148.out 1).trans rfl
                          have hcz54_2 : wr.cell? ⟨gb148, 2, none⟩ = some (.int .i64 a0_2) := (blk_cell BK148.out 2).trans rfl
                          have hcz54_3 : wr.cell? ⟨gb148, 3, none⟩ = some (.int .i64 a0_3) := (blk_cell BK148.out 3).trans rfl
                          have hcz54_4 : wr.cell? ⟨gb148, 4, none⟩ = some (.string a0_4) := (blk_cell BK148.out 4).trans rfl
                          have hfz54_0 := blk_frozen BK148.out 0
                          have hfz54_1 := blk_frozen BK148.out 1
                          have hfz54_2 := blk_frozen BK148.out 2
                          have hfz54_3 := blk_frozen BK148.out 3
                          have hfz54_4 := blk_frozen BK148.out 4
                          have hcz55_0 : wr.cell? ⟨gb151, 0, none⟩ = some (.string a0_0) := (blk_cell BK151.out 0).trans rfl
                          have hcz55_1 : wr.cell? ⟨gb151, 1, none⟩ = some (.int .i64 x152001_2) := (blk_cell BK151.out 1).trans rfl
                          have hcz55_2 : wr.cell? ⟨gb151, 2, none⟩ = some (.int .i64 x152002_2) := (blk_cell BK151.out 2).trans rfl
                          have hcz55_3 : wr.cell? ⟨gb151, 3, none⟩ = some (.int .i64 x152003_2) := (blk_cell BK151.out 3).trans rfl
                          have hcz55_4 : wr.cell? ⟨gb151, 4, none⟩ = some (.string x152004_2) := (blk_cell BK151.out 4).trans rfl
                          have hfz55_0 := blk_frozen BK151.out 0
                          have hfz55_1 := blk_frozen BK151.out 1
                          have hfz55_2 := blk_frozen BK151.out 2
                          have hfz55_3 := blk_frozen BK151.out 3
                          have hfz55_4 := blk_frozen BK151.out 4
                          go_wp2_with (first | ((with_reducible refine gate_callee (f := 17) rfl ?_); refine goesL_ (some 72) rfl rfl Tryd.func17 (by kernel_rfl) rfl #[.string a0_4] rfl (by (try simp only [List.map_toArray, List.map_cons, List.map_nil]); first | done | rfl | (simp only [List.length_drop, List.length_take]; rfl)) ?_; (with_reducible refine (oakumref21_Hex.calls a0_4 t155 _ A51.out).mono ?_); rintro e w' ⟨rfl, ⟨nd, rfl⟩⟩; refine ⟨_, rfl, ?_⟩))
                          go_roundg k2
                          case measure => have := HJ2.out; have := HK2.out; omega
                          case rel => exact ⟨((x7_2 ++ (⟨#[32]⟩ : ByteArray)) ++ t155), (wrap64 (x9_2 + 1)), (x152001_2), (x152002_2), (x152003_2), (a0_4), (by first | rfl | (simp; done) | (simp [*]; done)), (by first | rfl | (simp; done) | (simp [*]; done)), H', ⟨by have := HJ2.out; have := HK2.out; omega⟩, ⟨by (with_reducible repeat (first | refine blk_drewN ?_ _ | refine blk_drew ?_ | refine blk_alloc ?_ _)); refine blk_far ?_ NB148_151.out _; (with_reducible repeat (first | refine blk_drewN ?_ _ | refine blk_drew ?_ | refine blk_alloc ?_ _)); exact BK148.out⟩, ⟨by (with_reducible repeat (first | refine blk_drewN ?_ _ | refine blk_drew ?_ | refine blk_alloc ?_ _)); refine blk_put (cs := #[.string a0_0, .int .i64 x152001_2, .int .i64 x152002_2, .int .i64 x152003_2, .string x152004_2]) ?_ 4 _ rfl; (with_reducible repeat (first | refine blk_drewN ?_ _ | refine blk_drew ?_ | refine blk_alloc ?_ _)); exact BK151.out⟩, ⟨by repeat (first | (with_reducible first | exact HB.out | apply below_alloc | apply pw_below_drewN | apply below_drew1 | refine below_set ?_ GE148.out | refine below_set ?_ GE151.out) | exact HB.out)⟩⟩
                        · rw [if_neg c52] at H
                          exact absurd H (by simp)
                      · rw [if_neg c50] at H
                        exact absurd H (by simp)
              · rw [if_neg c24] at H
                exact absurd H (by simp)
            · rw [if_neg c23] at H
              have c23b0 : decide (x9_2 < (t149.size : Int)) = false := decide_eq_false c23
              clear c23
              by_cases c56 : (!(a0_0.toList == a0_0.toList) || (!(x152001_2 == a0_1) || (!(x152002_2 == a0_2) || (!(x152003_2 == a0_3) || (!(x152004_2.toList == a0_4.toList)))))) = true
              · rw [if_pos c56] at H
                have c56b0 : (!(a0_0.toList == a0_0.toList) || (!(x152001_2 == a0_1) || (!(x152002_2 == a0_2) || (!(x152003_2 == a0_3) || (!(x152004_2.toList == a0_4.toList)))))) = true := c56
                clear c56
                simp only [Option.some.injEq, Prod.mk.injEq] at H
                obtain ⟨rfl, rfl⟩ := H
                have hnb57 := NB151_148.out
                have hnc57 := NB148_151.out
                have hcz58_0 : wr.cell? ⟨gb151, 0, none⟩ = some (.string a0_0) := (blk_cell BK151.out 0).trans rfl
                have hcz58_1 : wr.cell? ⟨gb151, 1, none⟩ = some (.int .i64 x152001_2) := (blk_cell BK151.out 1).trans rfl
                have hcz58_2 : wr.cell? ⟨gb151, 2, none⟩ = some (.int .i64 x152002_2) := (blk_cell BK151.out 2).trans rfl
                have hcz58_3 : wr.cell? ⟨gb151, 3, none⟩ = some (.int .i64 x152003_2) := (blk_cell BK151.out 3).trans rfl
                have hcz58_4 : wr.cell? ⟨gb151, 4, none⟩ = some (.string x152004_2) := (blk_cell BK151.out 4).trans rfl
                have hfz58_0 := blk_frozen BK151.out 0
                have hfz58_1 := blk_frozen BK151.out 1
                have hfz58_2 := blk_frozen BK151.out 2
                have hfz58_3 := blk_frozen BK151.out 3
                have hfz58_4 := blk_frozen BK151.out 4
                have hcz59_0 : wr.cell? ⟨gb148, 0, none⟩ = some (.string a0_0) := (blk_cell BK148.out 0).trans rfl
                have hcz59_1 : wr.cell? ⟨gb148, 1, none⟩ = some (.int .i64 a0_1) := (blk_cell BK148.out 1).trans rfl
                have hcz59_2 : wr.cell? ⟨gb148, 2, none⟩ = some (.int .i64 a0_2) := (blk_cell BK148.out 2).trans rfl
                have hcz59_3 : wr.cell? ⟨gb148, 3, none⟩ = some (.int .i64 a0_3) := (blk_cell BK148.out 3).trans rfl
                have hcz59_4 : wr.cell? ⟨gb148, 4, none⟩ = some (.string a0_4) := (blk_cell BK148.out 4).trans rfl
                have hfz59_0 := blk_frozen BK148.out 0
                have hfz59_1 := blk_frozen BK148.out 1
                have hfz59_2 := blk_frozen BK148.out 2
                have hfz59_3 := blk_frozen BK148.out 3
                have hfz59_4 := blk_frozen BK148.out 4
                go_wp2
                all_goals (first | (go_ret2; exact ⟨by rfl, by repeat (first | (with_reducible first | exact HB.out | apply below_alloc | apply pw_below_drewN | apply below_drew1 | refine below_set ?_ GE148.out | refine below_set ?_ GE151.out) | exact HB.out)⟩) | (exfalso; have q_ := c56b0; simp only [Bool.or_eq_false_iff, Bool.not_eq_false', beq_iff_eq, beq_self_eq_true, true_and] at q_; first | exact absurd q_.1 (by assumption) | exact absurd q_.2.1 (by assumption) | exact absurd q_.2.2.1 (by assumption) | exact absurd q_.2.2.2 (by assumption) | exact absurd q_.2.2.2.1 (by assumption) | exact absurd q_.2.2.2.2 (by assumption) | exact absurd q_.2.2.2.2.1 (by assumption) | exact absurd q_.2.2.2.2.2 (by assumption)) | (exfalso; have q_ := c56b0; simp only [Bool.or_eq_false_iff, Bool.not_eq_false', beq_iff_eq, beq_self_eq_true, true_and] at q_; rename_i hh_; revert hh_; simp only [q_.1, q_.2.1, q_.2.2.1, q_.2.2.2, beq_self_eq_true, Bool.not_true, Bool.false_eq_true, or_self]; exact fun h_ => h_) | (exfalso; simp_all; done))
              · rw [if_neg c56] at H
                have c56b0 : (!(a0_0.toList == a0_0.toList) || (!(x152001_2 == a0_1) || (!(x152002_2 == a0_2) || (!(x152003_2 == a0_3) || (!(x152004_2.toList == a0_4.toList)))))) = false := by simpa using c56
                clear c56
                simp only [Option.some.injEq, Prod.mk.injEq] at H
                obtain ⟨rfl, rfl⟩ := H
                have hnb60 := NB151_148.out
                have hnc60 := NB148_151.out
                have hcz61_0 : wr.cell? ⟨gb151, 0, none⟩ = some (.string a0_0) := (blk_cell BK151.out 0).trans rfl
                have hcz61_1 : wr.cell? ⟨gb151, 1, none⟩ = some (.int .i64 x152001_2) := (blk_cell BK151.out 1).trans rfl
                have hcz61_2 : wr.cell? ⟨gb151, 2, none⟩ = some (.int .i64 x152002_2) := (blk_cell BK151.out 2).trans rfl
                have hcz61_3 : wr.cell? ⟨gb151, 3, none⟩ = some (.int .i64 x152003_2) := (blk_cell BK151.out 3).trans rfl
                have hcz61_4 : wr.cell? ⟨gb151, 4, none⟩ = some (.string x152004_2) := (blk_cell BK151.out 4).trans rfl
                have hfz61_0 := blk_frozen BK151.out 0
                have hfz61_1 := blk_frozen BK151.out 1
                have hfz61_2 := blk_frozen BK151.out 2
                have hfz61_3 := blk_frozen BK151.out 3
                have hfz61_4 := blk_frozen BK151.out 4
                have hcz62_0 : wr.cell? ⟨gb148, 0, none⟩ = some (.string a0_0) := (blk_cell BK148.out 0).trans rfl
                have hcz62_1 : wr.cell? ⟨gb148, 1, none⟩ = some (.int .i64 a0_1) := (blk_cell BK148.out 1).trans rfl
                have hcz62_2 : wr.cell? ⟨gb148, 2, none⟩ = some (.int .i64 a0_2) := (blk_cell BK148.out 2).trans rfl
                have hcz62_3 : wr.cell? ⟨gb148, 3, none⟩ = some (.int .i64 a0_3) := (blk_cell BK148.out 3).trans rfl
                have hcz62_4 : wr.cell? ⟨gb148, 4, none⟩ = some (.string a0_4) := (blk_cell BK148.out 4).trans rfl
                have hfz62_0 := blk_frozen BK148.out 0
                have hfz62_1 := blk_frozen BK148.out 1
                have hfz62_2 := blk_frozen BK148.out 2
                have hfz62_3 := blk_frozen BK148.out 3
                have hfz62_4 := blk_frozen BK148.out 4
                go_wp2
                all_goals (first | (go_ret2; exact ⟨by rfl, by repeat (first | (with_reducible first | exact HB.out | apply below_alloc | apply pw_below_drewN | apply below_drew1 | refine below_set ?_ GE148.out | refine below_set ?_ GE151.out) | exact HB.out)⟩) | (exfalso; have q_ := c56b0; simp only [Bool.or_eq_false_iff, Bool.not_eq_false', beq_iff_eq, beq_self_eq_true, true_and] at q_; first | exact absurd q_.1 (by assumption) | exact absurd q_.2.1 (by assumption) | exact absurd q_.2.2.1 (by assumption) | exact absurd q_.2.2.2 (by assumption) | exact absurd q_.2.2.2.1 (by assumption) | exact absurd q_.2.2.2.2 (by assumption) | exact absurd q_.2.2.2.2.1 (by assumption) | exact absurd q_.2.2.2.2.2 (by assumption)) | (exfalso; have q_ := c56b0; simp only [Bool.or_eq_false_iff, Bool.not_eq_false', beq_iff_eq, beq_self_eq_true, true_and] at q_; rename_i hh_; revert hh_; simp only [q_.1, q_.2.1, q_.2.2.1, q_.2.2.2, beq_self_eq_true, Bool.not_true, Bool.false_eq_true, or_self]; exact fun h_ => h_) | (exfalso; simp_all; done))

-- NOT PRINTED: function 3 (oakumlaw21_CommandPrints)

end Go.Proofs.YtlinnmllbbmnpaaDoor.PCmd
