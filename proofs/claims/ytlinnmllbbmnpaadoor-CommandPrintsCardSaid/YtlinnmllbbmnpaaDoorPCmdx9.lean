/- Written by a program of this session out of the translation: the kit's print, run from a copy in which some functions are given by hand. -/
import Derived.Test.YtlinnmllbbmnpaaDoorPCmdx0
import Derived.Test.YtlinnmllbbmnpaaDoorPCmdx5
import Derived.Test.YtlinnmllbbmnpaaDoorPCmdx7
import Derived.Test.YtlinnmllbbmnpaaDoorPCmdx8
namespace Go.Proofs.YtlinnmllbbmnpaaDoor.PCmd
open Go.RowKit Go.Proofs.YtlinnmllbbmnpaaDoorW.PrintWords Go.Proofs.YtlinnmllbbmnpaaDoorW.PrintLast Go.Proofs.YtlinnmllbbmnpaaDoorW.PrintMore
attribute [local go_sem] max2_int min2_int max_two min_two max_three min_three max_four min_four   -- for this text's walks alone
set_option linter.unusedVariables false
set_option linter.unusedSimpArgs false

/-! ### oakumref21_Parse: function 9 -/
mutual
def oakumref21_Parse.j0 : Nat → List ByteArray → ByteArray → Bool → Option (ByteArray × Int × Int × Int × ByteArray × Int)
  | 0, _, _, _ => none
  | k + 1, x4, x5, x29 => if x29 = true then (some ((⟨#[]⟩ : ByteArray), 0, 0, 0, (⟨#[]⟩ : ByteArray), 32)) else (if 0 < (x4.length : Int) then (oakumref21_Parse.l0 k x4 x5 0 (rdOf ByteArray.empty x4 0) 0 0 0 (⟨#[]⟩ : ByteArray)) else (none))
def oakumref21_Parse.l0 : Nat → List ByteArray → ByteArray → Int → ByteArray → Int → Int → Int → ByteArray → Option (ByteArray × Int × Int × Int × ByteArray × Int)
  | 0, _, _, _, _, _, _, _, _ => none
  | k + 1, x4, x5, x8, x185000, x185001, x185002, x185003, x185004 => if x8 < (x5.size : Int) then (if 0 ≤ x8 then (if 0 ≤ (wrap64 (1 + x8)) then (if (wrap64 (1 + x8)) < (x4.length : Int) then ((oakumref21_take.f k x185000 x185001 x185002 x185003 x185004 (bt x5 x8) (rdOf ByteArray.empty x4 (wrap64 (1 + x8)))).bind fun bt186 => (if bt186.2.2.2.2.2 = true then (oakumref21_Parse.l0 k x4 x5 (wrap64 (x8 + 1)) bt186.1 bt186.2.1 bt186.2.2.1 bt186.2.2.2.1 bt186.2.2.2.2.1) else (some ((⟨#[]⟩ : ByteArray), 0, 0, 0, (⟨#[]⟩ : ByteArray), 32)))) else (none)) else (none)) else (none)) else (some (x185000, x185001, x185002, x185003, x185004, 0))
end
def oakumref21_Parse.f (k : Nat) (a0 : ByteArray) : Option (ByteArray × Int × Int × Int × ByteArray × Int) := (oakumref20_Words.f k a0).bind fun t177 => (if 0 < (t177.length : Int) then ((oakumref21_form.f k (rdOf ByteArray.empty t177 0)).bind fun bt181 => (if bt181.2 = true then (oakumref21_Parse.j0 k t177 bt181.1 ((t177.length : Int) != (wrap64 (1 + (bt181.1.size : Int))))) else (oakumref21_Parse.j0 k t177 bt181.1 true))) else (none))
theorem oakumref21_Parse.mono_l : ∀ k, (∀ y0 y1 y2, LeO (oakumref21_Parse.j0 k y0 y1 y2) (oakumref21_Parse.j0 (k + 1) y0 y1 y2)) ∧ (∀ y0 y1 y2 y3 y4 y5 y6 y7, LeO (oakumref21_Parse.l0 k y0 y1 y2 y3 y4 y5 y6 y7) (oakumref21_Parse.l0 (k + 1) y0 y1 y2 y3 y4 y5 y6 y7))
  | 0 => ⟨fun _ _ _ r h => by simp [oakumref21_Parse.j0] at h, fun _ _ _ _ _ _ _ _ r h => by simp [oakumref21_Parse.l0] at h⟩
  | k + 1 => by
    obtain ⟨ih0, ih1⟩ := oakumref21_Parse.mono_l k
    refine ⟨?_, ?_⟩
    · intro y0 y1 y2
      unfold oakumref21_Parse.j0
      repeat' first
      | (with_reducible exact ih0 _ _ _)
      | (with_reducible exact ih1 _ _ _ _ _ _ _ _)
      | (with_reducible exact oakumref20_Words.mono _ _)
      | (with_reducible exact oakumref21_form.mono _ _)
      | (with_reducible exact oakumref21_take.mono _ _ _ _ _ _ _ _)
      | (with_reducible exact LeO.refl _)
      | (with_reducible exact LeO.none _)
      | (with_reducible refine LeO.ite ?_ ?_)
      | (with_reducible refine LeO.bind ?_ (fun _ => ?_))
      | exact ih0 _ _ _
      | exact ih1 _ _ _ _ _ _ _ _
      | exact oakumref20_Words.mono _ _
      | exact oakumref21_form.mono _ _
      | exact oakumref21_take.mono _ _ _ _ _ _ _ _
      | exact LeO.none _
      | refine LeO.ite ?_ ?_
      | refine LeO.bind ?_ (fun _ => ?_)
    · intro y0 y1 y2 y3 y4 y5 y6 y7
      unfold oakumref21_Parse.l0
      repeat' first
      | (with_reducible exact ih0 _ _ _)
      | (with_reducible exact ih1 _ _ _ _ _ _ _ _)
      | (with_reducible exact oakumref20_Words.mono _ _)
      | (with_reducible exact oakumref21_form.mono _ _)
      | (with_reducible exact oakumref21_take.mono _ _ _ _ _ _ _ _)
      | (with_reducible exact LeO.refl _)
      | (with_reducible exact LeO.none _)
      | (with_reducible refine LeO.ite ?_ ?_)
      | (with_reducible refine LeO.bind ?_ (fun _ => ?_))
      | exact ih0 _ _ _
      | exact ih1 _ _ _ _ _ _ _ _
      | exact oakumref20_Words.mono _ _
      | exact oakumref21_form.mono _ _
      | exact oakumref21_take.mono _ _ _ _ _ _ _ _
      | exact LeO.none _
      | refine LeO.ite ?_ ?_
      | refine LeO.bind ?_ (fun _ => ?_)
theorem oakumref21_Parse.mono : ∀ a0 k, LeO (oakumref21_Parse.f k a0) (oakumref21_Parse.f (k + 1) a0) := by
  intro a0 k
  obtain ⟨ih0, ih1⟩ := oakumref21_Parse.mono_l k
  unfold oakumref21_Parse.f
  repeat' first
      | (with_reducible exact ih0 _ _ _)
      | (with_reducible exact ih1 _ _ _ _ _ _ _ _)
      | (with_reducible exact oakumref20_Words.mono _ _)
      | (with_reducible exact oakumref21_form.mono _ _)
      | (with_reducible exact oakumref21_take.mono _ _ _ _ _ _ _ _)
      | (with_reducible exact LeO.refl _)
      | (with_reducible exact LeO.none _)
      | (with_reducible refine LeO.ite ?_ ?_)
      | (with_reducible refine LeO.bind ?_ (fun _ => ?_))
      | exact ih0 _ _ _
      | exact ih1 _ _ _ _ _ _ _ _
      | exact oakumref20_Words.mono _ _
      | exact oakumref21_form.mono _ _
      | exact oakumref21_take.mono _ _ _ _ _ _ _ _
      | exact LeO.none _
      | refine LeO.ite ?_ ?_
      | refine LeO.bind ?_ (fun _ => ?_)
def oakumref21_Parse.T9 : Bool × List (List Nat × List Nat) := (true, [([], []), ([], []), ([], []), ([1, 2], [1, 2]), ([], []), ([], []), ([5], [5]), ([4, 6], [4, 6]), ([7], [7]), ([0, 3, 8], [0, 3, 8]), ([9], [9]), ([10], [10]), ([10], [10]), ([], []), ([13, 11, 9, 0, 1, 2, 3, 4, 5, 6, 7, 8, 9, 10, 11, 13], [11, 13]), ([12, 14, 0, 1, 2, 3, 4, 5, 6, 7, 8, 9, 10, 11, 12, 13, 14], [12])])
def oakumref21_Parse.B9 : List Nat := [0, 0, 0, 6, 0, 0, 32, 112, 240, 511, 1023, 2047, 2047, 0, 12287, 32767]
theorem oakumref21_Parse.tab9 : rtab .any (opsOf Tryd.f9 9) = oakumref21_Parse.T9 := by kernel_rfl
theorem oakumref21_Parse.bits9 : waitsOk oakumref21_Parse.T9.2 oakumref21_Parse.B9 = true := by kernel_rfl
set_option maxHeartbeats 8000000 in
set_option maxRecDepth 100000 in
theorem oakumref21_Parse.calls (k : Nat) (a0 : ByteArray) (r1 : ByteArray) (r2 : Int) (r3 : Int) (r4 : Int) (r5 : ByteArray) (r6 : Int) (w : World) (h : oakumref21_Parse.f k a0 = some (r1, r2, r3, r4, r5, r6)) :
    Calls Tryd.prog 9 #[.string a0] w fun e w' => e = .returned (.tuple #[.agg #[.string r1, .int .i64 r2, .int .i64 r3, .int .i64 r4, .string r5], .int .i64 r6]) ∧ Below w.heap.size w w' := by
  have hu23 := Tryd.underlying23
  have HB := Aside0.mk (Below.refl w.heap.size w)
  have H : ((oakumref20_Words.f k a0).bind fun t177 => (if 0 < (t177.length : Int) then ((oakumref21_form.f k (rdOf ByteArray.empty t177 0)).bind fun bt181 => (if bt181.2 = true then (oakumref21_Parse.j0 k t177 bt181.1 ((t177.length : Int) != (wrap64 (1 + (bt181.1.size : Int))))) else (oakumref21_Parse.j0 k t177 bt181.1 true))) else (none))) = some (r1, r2, r3, r4, r5, r6) := h
  clear h
  replace H := Option.bind_eq_some_iff.mp H
  obtain ⟨t177, A20, H⟩ := H
  replace H : (if 0 < (t177.length : Int) then ((oakumref21_form.f k (rdOf ByteArray.empty t177 0)).bind fun bt181 => (if bt181.2 = true then (oakumref21_Parse.j0 k t177 bt181.1 ((t177.length : Int) != (wrap64 (1 + (bt181.1.size : Int))))) else (oakumref21_Parse.j0 k t177 bt181.1 true))) else (none)) = some (r1, r2, r3, r4, r5, r6) := H
  have A2 := Aside0.mk A20
  clear A20
  by_cases c3 : 0 < (t177.length : Int)
  · rw [if_pos c3] at H
    have c3b0 : decide (0 < (t177.length : Int)) = true := decide_eq_true c3
    have c3b1 : decide (0 < t177.length) = true := decide_eq_true (by omega)
    clear c3
    replace H := Option.bind_eq_some_iff.mp H
    obtain ⟨⟨t181, t182⟩, A40, H⟩ := H
    replace H : (if t182 = true then (oakumref21_Parse.j0 k t177 t181 ((t177.length : Int) != (wrap64 (1 + (t181.size : Int))))) else (oakumref21_Parse.j0 k t177 t181 true)) = some (r1, r2, r3, r4, r5, r6) := H
    have A4 := Aside0.mk A40
    clear A40
    have HC5 := Aside0.mk H
    clear H
    go_enter Tryd.func9, Tryd.ntmps9
    go_upto_region 3 with (first | ((with_reducible refine gate_dst (N := 2) rfl ?_); (try (refine gate_guard (by rfl) ?_; dsimp only)); refine box_event ?hg (N := 2) ?hd (cs := #[.string (⟨#[]⟩ : ByteArray), .int .i64 0, .int .i64 0, .int .i64 0, .string (⟨#[]⟩ : ByteArray)]) (t := 23) ?hr ?_; (case hd => rfl); (case hg => rfl); (case hr => first | (go_simp; done) | (go_simp; rfl)); intro gb176 hg w6 hbox hb; have n0_ := Aside0.mk (below_step (by repeat (first | (with_reducible first | exact HB.out | apply below_alloc | apply pw_below_drewN | apply below_drew1) | exact HB.out)) hb); have n1_ := Aside0.mk (hbox); have n2_ := Aside0.mk ((by rw [hg]; exact (below_size (by repeat (first | (with_reducible first | exact HB.out | apply below_alloc | apply pw_below_drewN | apply below_drew1) | exact HB.out))) : w.heap.size ≤ gb176)); have n3_ := Aside0.mk ((by rw [hg]; exact (below_size (by repeat (first | (with_reducible first | exact HB.out | apply below_alloc | apply pw_below_drewN | apply below_drew1) | exact HB.out))) : w.heap.size ≤ gb176)); clear HB; have HB := n0_; have BK176 := n1_; have GW176 := n2_; have GE176 := n3_; clear n0_ n1_ n2_ n3_; clear hb hbox hg) | ((with_reducible refine gate_callee (f := 20) rfl ?_); refine goesL_ (some 12) rfl rfl Tryd.func20 (by kernel_rfl) rfl #[.string a0] rfl (by (try simp only [List.map_toArray, List.map_cons, List.map_nil]); first | done | rfl | (simp only [List.length_drop, List.length_take]; rfl)) ?_; (with_reducible refine (oakumref20_Words.calls k a0 t177 _ A2.out).mono ?_); rintro e w7 ⟨v178, rfl, ho0, hb⟩; refine ⟨_, rfl, ?_⟩; have n0_ := Aside0.mk (Kd.R_lower ho0 (below_size (by repeat (first | (with_reducible first | exact HB.out | apply below_alloc | apply pw_below_drewN | apply below_drew1 | refine below_set ?_ GE176.out) | exact HB.out)))); have n1_ := Aside0.mk (blk_below (g := gb176) (o := .cells #[.string (⟨#[]⟩ : ByteArray), .int .i64 0, .int .i64 0, .int .i64 0, .string (⟨#[]⟩ : ByteArray)] 23 (0, 0)) (by (with_reducible repeat (first | refine blk_drewN ?_ _ | refine blk_drew ?_ | refine blk_alloc ?_ _)); exact BK176.out) hb); have n2_ := Aside0.mk (below_step (by repeat (first | (with_reducible first | exact HB.out | apply below_alloc | apply pw_below_drewN | apply below_drew1 | refine below_set ?_ GE176.out) | exact HB.out)) hb); clear BK176; clear HB; have HO179 := n0_; have BK176 := n1_; have HB := n2_; clear n0_ n1_ n2_; (try clear hb); (try clear hb2); (try clear hk); (try clear hi); (try clear ho0); obtain ⟨Ao8, co8, eo8⟩ := Kd.R_slice HO179.out; subst eo8; have p180 : 0 ≤ (0 : Int) := (by omega); have q180 : 0 < (t177.length : Int) := of_decide_eq_true (by first | (with_reducible assumption) | assumption); obtain ⟨ad180, e180, hx180_0⟩ := Kd.at_string (Kd.R_reads' HO179.out).2.2 0 p180 q180; cases e180; have qi180 : (0 < t177.length) = True := eq_true (by omega); (try rw [show ((0 : Int)).toNat = 0 from rfl] at hx180_0); (try rw [Addr.add_zero'] at hx180_0); replace p180 := eq_true p180; replace q180 := eq_true q180) | ((with_reducible refine gate_callee (f := 15) rfl ?_); refine goesL_ (some 17) rfl rfl Tryd.func15 (by kernel_rfl) rfl #[.string (rdOf ByteArray.empty t177 0)] rfl (by (try simp only [List.map_toArray, List.map_cons, List.map_nil]); first | done | rfl | (simp only [List.length_drop, List.length_take]; rfl)) ?_; (with_reducible refine (oakumref21_form.calls k (rdOf ByteArray.empty t177 0) t181 t182 _ A4.out).mono ?_); rintro e w' ⟨rfl, ⟨nd, rfl⟩⟩; refine ⟨_, rfl, ?_⟩))
    (try simp only [Act.put, List.setIfInBounds_toArray, List.set_cons_zero, List.set_cons_succ])
    go_cut [29] (fun v29 wc => ∃ (kq : Nat) (x29_4 : Bool), v29 = .bool x29_4 ∧ Aside0 (oakumref21_Parse.j0 kq t177 t181 x29_4 = some (r1, r2, r3, r4, r5, r6)) ∧ Aside0 (kq ≤ k) ∧ Aside0 (Kd.R Kd.string 9 wc w.heap.size (fun _ => True) (.slice (some ad180) t177.length co8) t177) ∧ Aside0 (wc.heap[gb176]? = some (.cells #[.string (⟨#[]⟩ : ByteArray), .int .i64 0, .int .i64 0, .int .i64 0, .string (⟨#[]⟩ : ByteArray)] 23 (0, 0))) ∧ Aside0 (Below w.heap.size w wc))
    case first =>
      have H := HC5.out
      clear HC5
      by_cases c9 : t182 = true
      · subst c9
        have H1 : (oakumref21_Parse.j0 k t177 t181 ((t177.length : Int) != (wrap64 (1 + (t181.size : Int))))) = some (r1, r2, r3, r4, r5, r6) := by rw [if_pos rfl] at H; exact H
        clear H
        have H := H1
        clear H1
        have H' := Aside0.mk H
        clear H
        go_wp2
        go_meet
        case rel => exact ⟨_, (((t177.length : Int) != (wrap64 (1 + (t181.size : Int))))), (by first | rfl | (simp; done) | (simp [*]; done)), H', ⟨by first | omega | exact Nat.le_refl _⟩, ⟨by (with_reducible repeat (first | apply Kd.R_alloc | apply Kd.R_drewN | apply Kd.R_drew)); exact HO179.out⟩, ⟨by (with_reducible repeat (first | refine blk_drewN ?_ _ | refine blk_drew ?_ | refine blk_alloc ?_ _)); exact BK176.out⟩, ⟨by repeat (first | (with_reducible first | exact HB.out | apply below_alloc | apply pw_below_drewN | apply below_drew1 | refine below_set ?_ GE176.out) | exact HB.out)⟩⟩
      · replace c9 := Bool.eq_false_iff.mpr c9
        subst c9
        have H1 : (oakumref21_Parse.j0 k t177 t181 true) = some (r1, r2, r3, r4, r5, r6) := by rw [if_neg (show ¬ (false = true) by decide)] at H; exact H
        clear H
        have H := H1
        clear H1
        have H' := Aside0.mk H
        clear H
        go_wp2
        go_meet
        case rel => exact ⟨_, (true), (by first | rfl | (simp; done) | (simp [*]; done)), H', ⟨by first | omega | exact Nat.le_refl _⟩, ⟨by (with_reducible repeat (first | apply Kd.R_alloc | apply Kd.R_drewN | apply Kd.R_drew)); exact HO179.out⟩, ⟨by (with_reducible repeat (first | refine blk_drewN ?_ _ | refine blk_drew ?_ | refine blk_alloc ?_ _)); exact BK176.out⟩, ⟨by repeat (first | (with_reducible first | exact HB.out | apply below_alloc | apply pw_below_drewN | apply below_drew1 | refine below_set ?_ GE176.out) | exact HB.out)⟩⟩
    case rest =>
      clear HC5
      try clear c1
      try clear p1
      try clear q1
      try clear hx1
      try clear qi1
      try clear c2
      try clear p2
      try clear c3
      try clear c3b0
      try clear c3b1
      try clear p6
      try clear c9
      try clear hx180_0
      try clear p180
      try clear q180
      obtain ⟨kq, x29_4, rfl, HA, HJ4, HO_4, BK176, HB⟩ := hcut
      cases kq with
      | zero => exact absurd HA.out (by simp [oakumref21_Parse.j0])
      | succ kj4 =>
        have H := HA.out
        clear HA
        simp only [oakumref21_Parse.j0] at H
        by_cases c10 : x29_4 = true
        · subst c10
          have H1 : (some ((⟨#[]⟩ : ByteArray), 0, 0, 0, (⟨#[]⟩ : ByteArray), 32)) = some (r1, r2, r3, r4, r5, r6) := by rw [if_pos rfl] at H; exact H
          clear H
          have H := H1
          clear H1
          simp only [Option.some.injEq, Prod.mk.injEq] at H
          obtain ⟨rfl, rfl, rfl, rfl, rfl, rfl⟩ := H
          have hcz11_0 : wc.cell? ⟨gb176, 0, none⟩ = some (.string (⟨#[]⟩ : ByteArray)) := (blk_cell BK176.out 0).trans rfl
          have hcz11_1 : wc.cell? ⟨gb176, 1, none⟩ = some (.int .i64 0) := (blk_cell BK176.out 1).trans rfl
          have hcz11_2 : wc.cell? ⟨gb176, 2, none⟩ = some (.int .i64 0) := (blk_cell BK176.out 2).trans rfl
          have hcz11_3 : wc.cell? ⟨gb176, 3, none⟩ = some (.int .i64 0) := (blk_cell BK176.out 3).trans rfl
          have hcz11_4 : wc.cell? ⟨gb176, 4, none⟩ = some (.string (⟨#[]⟩ : ByteArray)) := (blk_cell BK176.out 4).trans rfl
          have hfz11_0 := blk_frozen BK176.out 0
          have hfz11_1 := blk_frozen BK176.out 1
          have hfz11_2 := blk_frozen BK176.out 2
          have hfz11_3 := blk_frozen BK176.out 3
          have hfz11_4 := blk_frozen BK176.out 4
          go_wp2
          refine bodyPost_ret (results_ct rfl _ _ gb176 23 #[.string (⟨#[]⟩ : ByteArray), .int .i64 0, .int .i64 0, .int .i64 0, .string (⟨#[]⟩ : ByteArray)] (0, 0) _ rfl (by (with_reducible repeat (first | refine blk_drewN ?_ _ | refine blk_drew ?_ | refine blk_alloc ?_ _)); refine blk_put (cs := #[.string (⟨#[]⟩ : ByteArray), .int .i64 0, .int .i64 0, .int .i64 0, .string (⟨#[]⟩ : ByteArray)]) ?_ 4 _ rfl; (with_reducible repeat (first | refine blk_drewN ?_ _ | refine blk_drew ?_ | refine blk_alloc ?_ _)); refine blk_put (cs := #[.string (⟨#[]⟩ : ByteArray), .int .i64 0, .int .i64 0, .int .i64 0, .string (⟨#[]⟩ : ByteArray)]) ?_ 3 _ rfl; (with_reducible repeat (first | refine blk_drewN ?_ _ | refine blk_drew ?_ | refine blk_alloc ?_ _)); refine blk_put (cs := #[.string (⟨#[]⟩ : ByteArray), .int .i64 0, .int .i64 0, .int .i64 0, .string (⟨#[]⟩ : ByteArray)]) ?_ 2 _ rfl; (with_reducible repeat (first | refine blk_drewN ?_ _ | refine blk_drew ?_ | refine blk_alloc ?_ _)); refine blk_put (cs := #[.string (⟨#[]⟩ : ByteArray), .int .i64 0, .int .i64 0, .int .i64 0, .string (⟨#[]⟩ : ByteArray)]) ?_ 1 _ rfl; (with_reducible repeat (first | refine blk_drewN ?_ _ | refine blk_drew ?_ | refine blk_alloc ?_ _)); refine blk_put (cs := #[.string (⟨#[]⟩ : ByteArray), .int .i64 0, .int .i64 0, .int .i64 0, .string (⟨#[]⟩ : ByteArray)]) ?_ 0 _ rfl; (with_reducible repeat (first | refine blk_drewN ?_ _ | refine blk_drew ?_ | refine blk_alloc ?_ _)); exact BK176.out) Tryd.underlying23 rfl (by kernel_rfl)) rfl ?_
          exact ⟨by first | rfl | (simp [errW_none, errW_some] <;> rfl) | (simp [*, errW_none, errW_some] <;> rfl), by repeat (first | (with_reducible first | exact HB.out | apply below_alloc | apply pw_below_drewN | apply below_drew1 | refine below_set ?_ GE176.out) | exact HB.out)⟩
        · replace c10 := Bool.eq_false_iff.mpr c10
          subst c10
          have H1 : (if 0 < (t177.length : Int) then (oakumref21_Parse.l0 kj4 t177 t181 0 (rdOf ByteArray.empty t177 0) 0 0 0 (⟨#[]⟩ : ByteArray)) else (none)) = some (r1, r2, r3, r4, r5, r6) := by rw [if_neg (show ¬ (false = true) by decide)] at H; exact H
          clear H
          have H := H1
          clear H1
          by_cases c12 : 0 < (t177.length : Int)
          · rw [if_pos c12] at H
            have c12b0 : decide (0 < (t177.length : Int)) = true := decide_eq_true c12
            have c12b1 : decide (0 < t177.length) = true := decide_eq_true (by omega)
            clear c12
            have H' := Aside0.mk H
            clear H
            have p183 : 0 ≤ (0 : Int) := (by omega)
            have q183 : 0 < (t177.length : Int) := of_decide_eq_true (by first | (with_reducible assumption) | assumption)
            obtain ⟨ad183, e183, hx183_0⟩ := Kd.at_string (Kd.R_reads' HO_4.out).2.2 0 p183 q183
            obtain rfl : ad180 = ad183 := (by injection e183)
            have qi183 : (0 < t177.length) = True := eq_true (by omega)
            (try rw [show ((0 : Int)).toNat = 0 from rfl] at hx183_0)
            (try rw [Addr.add_zero'] at hx183_0)
            replace p183 := eq_true p183
            replace q183 := eq_true q183
            go_wp2_with (first | ((with_reducible refine gate_dst (N := 7) rfl ?_); (try (refine gate_guard (by rfl) ?_; dsimp only)); refine box_event ?hg (N := 7) ?hd (cs := #[.string (⟨#[]⟩ : ByteArray), .int .i64 0, .int .i64 0, .int .i64 0, .string (⟨#[]⟩ : ByteArray)]) (t := 23) ?hr ?_; (case hd => rfl); (case hg => rfl); (case hr => first | (go_simp; done) | (go_simp; rfl)); intro gb184 hg w13 hbox hb; have n0_ := Aside0.mk (Kd.R_below (by (with_reducible repeat (first | apply Kd.R_alloc | apply Kd.R_drewN | apply Kd.R_drew)); exact HO_4.out) hb); have n1_ := Aside0.mk (blk_below (g := gb176) (o := .cells #[.string (⟨#[]⟩ : ByteArray), .int .i64 0, .int .i64 0, .int .i64 0, .string (⟨#[]⟩ : ByteArray)] 23 (0, 0)) (by (with_reducible repeat (first | refine blk_drewN ?_ _ | refine blk_drew ?_ | refine blk_alloc ?_ _)); exact BK176.out) hb); have n2_ := Aside0.mk (below_step (by repeat (first | (with_reducible first | exact HB.out | apply below_alloc | apply pw_below_drewN | apply below_drew1 | refine below_set ?_ GE176.out) | exact HB.out)) hb); have n3_ := Aside0.mk (hbox); have n4_ := Aside0.mk ((by rw [hg]; exact (below_size (by repeat (first | (with_reducible first | exact HB.out | apply below_alloc | apply pw_below_drewN | apply below_drew1 | refine below_set ?_ GE176.out) | exact HB.out))) : w.heap.size ≤ gb184)); have n5_ := Aside0.mk ((by rw [hg]; exact (below_size (by repeat (first | (with_reducible first | exact HB.out | apply below_alloc | apply pw_below_drewN | apply below_drew1 | refine below_set ?_ GE176.out) | exact HB.out))) : w.heap.size ≤ gb184)); have n6_ := Aside0.mk ((by rw [hg]; exact Nat.ne_of_lt (blk_lt (g := gb176) (o := .cells #[.string (⟨#[]⟩ : ByteArray), .int .i64 0, .int .i64 0, .int .i64 0, .string (⟨#[]⟩ : ByteArray)] 23 (0, 0)) (by (with_reducible repeat (first | refine blk_drewN ?_ _ | refine blk_drew ?_ | refine blk_alloc ?_ _)); exact BK176.out)) : gb176 ≠ gb184)); have n7_ := Aside0.mk ((by rw [hg]; exact Nat.ne_of_gt (blk_lt (g := gb176) (o := .cells #[.string (⟨#[]⟩ : ByteArray), .int .i64 0, .int .i64 0, .int .i64 0, .string (⟨#[]⟩ : ByteArray)] 23 (0, 0)) (by (with_reducible repeat (first | refine blk_drewN ?_ _ | refine blk_drew ?_ | refine blk_alloc ?_ _)); exact BK176.out)) : gb184 ≠ gb176)); clear HO_4; clear BK176; clear HB; have HO_4 := n0_; have BK176 := n1_; have HB := n2_; have BK184 := n3_; have GW184 := n4_; have GE184 := n5_; have NB176_184 := n6_; have NB184_176 := n7_; clear n0_ n1_ n2_ n3_ n4_ n5_ n6_ n7_; clear hb hbox hg; have hnb14 := NB184_176.out; have hnc14 := NB176_184.out; have hcz15_0 : w13.cell? ⟨gb184, 0, none⟩ = some (.string (⟨#[]⟩ : ByteArray)) := (blk_cell BK184.out 0).trans rfl; have hcz15_1 : w13.cell? ⟨gb184, 1, none⟩ = some (.int .i64 0) := (blk_cell BK184.out 1).trans rfl; have hcz15_2 : w13.cell? ⟨gb184, 2, none⟩ = some (.int .i64 0) := (blk_cell BK184.out 2).trans rfl; have hcz15_3 : w13.cell? ⟨gb184, 3, none⟩ = some (.int .i64 0) := (blk_cell BK184.out 3).trans rfl; have hcz15_4 : w13.cell? ⟨gb184, 4, none⟩ = some (.string (⟨#[]⟩ : ByteArray)) := (blk_cell BK184.out 4).trans rfl; have hfz15_0 := blk_frozen BK184.out 0; have hfz15_1 := blk_frozen BK184.out 1; have hfz15_2 := blk_frozen BK184.out 2; have hfz15_3 := blk_frozen BK184.out 3; have hfz15_4 := blk_frozen BK184.out 4))
            go_loopg [8] kj4 (fun kq v8 w' => ∃ (x8_2 : Int) (x177000_2 : ByteArray) (x177001_2 : Int) (x177002_2 : Int) (x177003_2 : Int) (x177004_2 : ByteArray) (x185000_2 : ByteArray) (x185001_2 : Int) (x185002_2 : Int) (x185003_2 : Int) (x185004_2 : ByteArray), v8 = .int .i64 x8_2 ∧ Aside0 (oakumref21_Parse.l0 kq t177 t181 x8_2 x185000_2 x185001_2 x185002_2 x185003_2 x185004_2 = some (r1, r2, r3, r4, r5, r6)) ∧ Aside0 (kq ≤ kj4) ∧ Aside0 (Kd.R Kd.string 9 w' w.heap.size (fun _ => True) (.slice (some ad180) t177.length co8) t177) ∧ Aside0 (w'.heap[gb176]? = some (.cells #[.string x177000_2, .int .i64 x177001_2, .int .i64 x177002_2, .int .i64 x177003_2, .string x177004_2] 23 (0, 0))) ∧ Aside0 (w'.heap[gb184]? = some (.cells #[.string x185000_2, .int .i64 x185001_2, .int .i64 x185002_2, .int .i64 x185003_2, .string x185004_2] 23 (0, 0))) ∧ Aside0 (Below w.heap.size w w'))
            case atStart => exact ⟨(0), ((⟨#[]⟩ : ByteArray)), (0), (0), (0), ((⟨#[]⟩ : ByteArray)), (rdOf ByteArray.empty t177 0), (0), (0), (0), ((⟨#[]⟩ : ByteArray)), (by first | rfl | (simp; done) | (simp [*]; done)), H', ⟨Nat.le_refl _⟩, ⟨by (with_reducible repeat (first | apply Kd.R_alloc | apply Kd.R_drewN | apply Kd.R_drew)); exact Kd.R_mono (Kd.R_far (p := ⟨gb184, 4, none⟩) (Kd.R_far (p := ⟨gb184, 3, none⟩) (Kd.R_far (p := ⟨gb184, 2, none⟩) (Kd.R_far (p := ⟨gb184, 1, none⟩) (Kd.R_far (p := ⟨gb184, 0, none⟩) (Kd.R_types HO_4.out BK184.out (by decide)) (fun _ hk => hk.2) (.string (rdOf ByteArray.empty t177 0))) (fun _ hk => hk.2) (.int .i64 0)) (fun _ hk => hk.2) (.int .i64 0)) (fun _ hk => hk.2) (.int .i64 0)) (fun _ hk => hk.2) (.string (⟨#[]⟩ : ByteArray))) (fun _ hk => trivial)⟩, ⟨by (with_reducible repeat (first | refine blk_drewN ?_ _ | refine blk_drew ?_ | refine blk_alloc ?_ _)); refine blk_far ?_ NB176_184.out _; (with_reducible repeat (first | refine blk_drewN ?_ _ | refine blk_drew ?_ | refine blk_alloc ?_ _)); refine blk_far ?_ NB176_184.out _; (with_reducible repeat (first | refine blk_drewN ?_ _ | refine blk_drew ?_ | refine blk_alloc ?_ _)); refine blk_far ?_ NB176_184.out _; (with_reducible repeat (first | refine blk_drewN ?_ _ | refine blk_drew ?_ | refine blk_alloc ?_ _)); refine blk_far ?_ NB176_184.out _; (with_reducible repeat (first | refine blk_drewN ?_ _ | refine blk_drew ?_ | refine blk_alloc ?_ _)); refine blk_far ?_ NB176_184.out _; (with_reducible repeat (first | refine blk_drewN ?_ _ | refine blk_drew ?_ | refine blk_alloc ?_ _)); exact BK176.out⟩, ⟨by (with_reducible repeat (first | refine blk_drewN ?_ _ | refine blk_drew ?_ | refine blk_alloc ?_ _)); refine blk_put (cs := #[.string (rdOf ByteArray.empty t177 0), .int .i64 0, .int .i64 0, .int .i64 0, .string (⟨#[]⟩ : ByteArray)]) ?_ 4 _ rfl; (with_reducible repeat (first | refine blk_drewN ?_ _ | refine blk_drew ?_ | refine blk_alloc ?_ _)); refine blk_put (cs := #[.string (rdOf ByteArray.empty t177 0), .int .i64 0, .int .i64 0, .int .i64 0, .string (⟨#[]⟩ : ByteArray)]) ?_ 3 _ rfl; (with_reducible repeat (first | refine blk_drewN ?_ _ | refine blk_drew ?_ | refine blk_alloc ?_ _)); refine blk_put (cs := #[.string (rdOf ByteArray.empty t177 0), .int .i64 0, .int .i64 0, .int .i64 0, .string (⟨#[]⟩ : ByteArray)]) ?_ 2 _ rfl; (with_reducible repeat (first | refine blk_drewN ?_ _ | refine blk_drew ?_ | refine blk_alloc ?_ _)); refine blk_put (cs := #[.string (rdOf ByteArray.empty t177 0), .int .i64 0, .int .i64 0, .int .i64 0, .string (⟨#[]⟩ : ByteArray)]) ?_ 1 _ rfl; (with_reducible repeat (first | refine blk_drewN ?_ _ | refine blk_drew ?_ | refine blk_alloc ?_ _)); refine blk_put (cs := #[.string (⟨#[]⟩ : ByteArray), .int .i64 0, .int .i64 0, .int .i64 0, .string (⟨#[]⟩ : ByteArray)]) ?_ 0 _ rfl; (with_reducible repeat (first | refine blk_drewN ?_ _ | refine blk_drew ?_ | refine blk_alloc ?_ _)); exact BK184.out⟩, ⟨by repeat (first | (with_reducible first | exact HB.out | apply below_alloc | apply pw_below_drewN | apply below_drew1 | refine below_set ?_ GE176.out | refine below_set ?_ GE184.out) | exact HB.out)⟩⟩
            case round =>
              clear H'
              try clear c1
              try clear p1
              try clear q1
              try clear hx1
              try clear qi1
              try clear c2
              try clear p2
              try clear c3
              try clear c3b0
              try clear c3b1
              try clear p6
              try clear c9
              try clear c10
              try clear c12
              try clear c12b0
              try clear c12b1
              try clear c14
              try clear c15
              try clear hcz11_0
              try clear hcz11_1
              try clear hcz11_2
              try clear hcz11_3
              try clear hcz11_4
              try clear hcz15_0
              try clear hcz15_1
              try clear hcz15_2
              try clear hcz15_3
              try clear hcz15_4
              try clear hfz11_0
              try clear hfz11_1
              try clear hfz11_2
              try clear hfz11_3
              try clear hfz11_4
              try clear hfz15_0
              try clear hfz15_1
              try clear hfz15_2
              try clear hfz15_3
              try clear hfz15_4
              try clear hx180_0
              try clear hx183_0
              try clear p1
              try clear p180
              try clear p183
              try clear p2
              try clear p6
              try clear q1
              try clear q180
              try clear q183
              obtain ⟨x8_2, x177000_2, x177001_2, x177002_2, x177003_2, x177004_2, x185000_2, x185001_2, x185002_2, x185003_2, x185004_2, rfl, HA, HK2, HO_4, BK176, BK184, HB⟩ := hrel
              cases gk with
              | zero => exact absurd HA.out (by simp [oakumref21_Parse.l0])
              | succ k2 =>
                have H := HA.out
                clear HA
                simp only [oakumref21_Parse.l0] at H
                by_cases c16 : x8_2 < (t181.size : Int)
                · rw [if_pos c16] at H
                  have c16b0 : decide (x8_2 < (t181.size : Int)) = true := decide_eq_true c16
                  clear c16
                  by_cases c17 : 0 ≤ x8_2
                  · rw [if_pos c17] at H
                    have c17b0 : decide (0 ≤ x8_2) = true := decide_eq_true c17
                    clear c17
                    obtain ⟨ji19, hji19⟩ : ∃ j_ : Int, (wrap64 (1 + x8_2)) = j_ := ⟨_, rfl⟩
                    replace H : (if 0 ≤ (ji19) then (if (ji19) < (t177.length : Int) then ((oakumref21_take.f k2 x185000_2 x185001_2 x185002_2 x185003_2 x185004_2 (bt t181 x8_2) (rdOf ByteArray.empty t177 (ji19))).bind fun bt186 => (if bt186.2.2.2.2.2 = true then (oakumref21_Parse.l0 k2 t177 t181 (wrap64 (x8_2 + 1)) bt186.1 bt186.2.1 bt186.2.2.1 bt186.2.2.2.1 bt186.2.2.2.2.1) else (some ((⟨#[]⟩ : ByteArray), 0, 0, 0, (⟨#[]⟩ : ByteArray), 32)))) else (none)) else (none)) = some (r1, r2, r3, r4, r5, r6) := by first | (rw [hji19] at H; exact H) | (simp only [hji19] at H ⊢; exact H)
                    have hji19w : (IntKind.i64.wrap (1 + x8_2)) = ji19 := (i64_w _).trans hji19
                    by_cases c20 : 0 ≤ (ji19)
                    · rw [if_pos c20] at H
                      have c20b0 : decide (0 ≤ (ji19)) = true := decide_eq_true c20
                      clear c20
                      by_cases c21 : (ji19) < (t177.length : Int)
                      · rw [if_pos c21] at H
                        have c21b0 : decide ((ji19) < (t177.length : Int)) = true := decide_eq_true c21
                        clear c21
                        replace H := Option.bind_eq_some_iff.mp H
                        obtain ⟨⟨t186, t187, t188, t189, t190, t191⟩, A220, H⟩ := H
                        replace H : (if t191 = true then (oakumref21_Parse.l0 k2 t177 t181 (wrap64 (x8_2 + 1)) t186 t187 t188 t189 t190) else (some ((⟨#[]⟩ : ByteArray), 0, 0, 0, (⟨#[]⟩ : ByteArray), 32))) = some (r1, r2, r3, r4, r5, r6) := H
                        have A22 := Aside0.mk A220
                        clear A220
                        by_cases c23 : t191 = true
                        · subst c23
                          have H1 : (oakumref21_Parse.l0 k2 t177 t181 (wrap64 (x8_2 + 1)) t186 t187 t188 t189 t190) = some (r1, r2, r3, r4, r5, r6) := by rw [if_pos rfl] at H; exact H
                          clear H
                          have H := H1
                          clear H1
                          have H' := Aside0.mk H
                          clear H
                          try go_wp2
                          have n0_ := Aside0.mk (Kd.R_drew HO_4.out)
                          have n1_ := Aside0.mk (blk_drew BK176.out)
                          have n2_ := Aside0.mk (blk_drew BK184.out)
                          have n3_ := Aside0.mk (below_drew1 HB.out)
                          clear HO_4
                          clear BK176
                          clear BK184
                          clear HB
                          have HO_4 := n0_
                          have BK176 := n1_
                          have BK184 := n2_
                          have HB := n3_
                          clear n0_ n1_ n2_ n3_
                          have p18 : 0 ≤ (x8_2 : Int) := of_decide_eq_true (by first | (with_reducible assumption) | assumption)
                          have q18 : x8_2 < (t181.size : Int) := of_decide_eq_true (by first | (with_reducible assumption) | assumption)
                          have hx18 := bt_at t181 x8_2
                          replace p18 := eq_true p18
                          replace q18 := eq_true q18
                          have p185 : 0 ≤ ((ji19) : Int) := of_decide_eq_true (by first | (with_reducible assumption) | assumption)
                          have q185 : (ji19) < (t177.length : Int) := of_decide_eq_true (by first | (with_reducible assumption) | assumption)
                          obtain ⟨ad185, e185, hx185_0⟩ := Kd.at_string (Kd.R_reads' HO_4.out).2.2 (ji19) p185 q185
                          obtain rfl : ad180 = ad185 := (by injection e185)
                          replace p185 := eq_true p185
                          replace q185 := eq_true q185
                          refine start_ (n := 16) (S := fun w' => w'.cell? ⟨gb184, 0, none⟩ = some (.string x185000_2) ∧ w'.cell? ⟨gb184, 1, none⟩ = some (.int .i64 x185001_2) ∧ w'.cell? ⟨gb184, 2, none⟩ = some (.int .i64 x185002_2) ∧ w'.cell? ⟨gb184, 3, none⟩ = some (.int .i64 x185003_2) ∧ w'.cell? ⟨gb184, 4, none⟩ = some (.string x185004_2) ∧ w'.cell? (ad180.add ((ji19)).toNat) = some (.string (rdOf ByteArray.empty t177 (ji19)))) (ds := []) #[false, false, false, false, false, false, false, false, false, false, false, false, false, false, false, false] (by kernel_rfl) rfl rfl ⟨(blk_cell BK184.out 0).trans rfl, (blk_cell BK184.out 1).trans rfl, (blk_cell BK184.out 2).trans rfl, (blk_cell BK184.out 3).trans rfl, (blk_cell BK184.out 4).trans rfl, hx185_0⟩ (fun hHeld => ?_); refine with_tabW oakumref21_Parse.tab9 oakumref21_Parse.bits9 (fun HT_ HW_ => ?_)
                          generalize wr.drew = w24 at HO_4 BK176 BK184 HB hx185_0 hHeld ⊢
                          refine pure_ (i := 1) (N := some 43) (v := ?_) (a' := ?_) #[false, true, false, false, false, false, false, false, false, false, false, false, false, false, false, false] rfl rfl (any_of HT_.out (by kernel_rfl)) (fun _ _ _ h => h) (Or.inl ⟨by rfl, ?_⟩) ?_ ?_
                          rotate_left
                          · intro w'
                            go_simp
                            with_reducible rfl
                          rotate_left
                          · simp only [Act.put, List.setIfInBounds_toArray, List.set_cons_zero, List.set_cons_succ, i64_w, i32_w]
                            rfl
                          refine pure_ (i := 2) (N := some 44) (v := ?_) (a' := ?_) #[false, true, true, false, false, false, false, false, false, false, false, false, false, false, false, false] rfl rfl (any_of HT_.out (by kernel_rfl)) (fun _ _ _ h => h) (Or.inl ⟨by rfl, ?_⟩) ?_ ?_
                          rotate_left
                          · intro w'
                            go_simp
                            with_reducible rfl
                          rotate_left
                          · simp only [Act.put, List.setIfInBounds_toArray, List.set_cons_zero, List.set_cons_succ, i64_w, i32_w]
                            rfl
                          refine pure_ (i := 4) (N := some 46) (v := ?_) (a' := ?_) #[false, true, true, false, true, false, false, false, false, false, false, false, false, false, false, false] rfl rfl (any_of HT_.out (by kernel_rfl)) (fun _ _ _ h => h) (Or.inl ⟨by rfl, ?_⟩) ?_ ?_
                          rotate_left
                          · intro w'
                            go_simp
                            with_reducible rfl
                          rotate_left
                          · simp only [Act.put, List.setIfInBounds_toArray, List.set_cons_zero, List.set_cons_succ, i64_w, i32_w]
                            rfl
                          refine pure_ (i := 5) (N := some 47) (v := ?_) (a' := ?_) #[false, true, true, false, true, true, false, false, false, false, false, false, false, false, false, false] rfl rfl (any_of HT_.out (by kernel_rfl)) (fun _ _ _ h => h) (Or.inl ⟨by rfl, ?_⟩) ?_ ?_
                          rotate_left
                          · intro w'
                            go_simp
                            with_reducible rfl
                          rotate_left
                          · simp only [Act.put, List.setIfInBounds_toArray, List.set_cons_zero, List.set_cons_succ, i64_w, i32_w]
                            rfl
                          refine pure_ (i := 6) (N := some 48) (v := ?_) (a' := ?_) #[false, true, true, false, true, true, true, false, false, false, false, false, false, false, false, false] rfl rfl (any_of HT_.out (by kernel_rfl)) (fun _ _ _ h => h) (Or.inl ⟨by rfl, ?_⟩) ?_ ?_
                          rotate_left
                          · intro w'
                            go_simp
                            with_reducible rfl
                          rotate_left
                          · simp only [Act.put, List.setIfInBounds_toArray, List.set_cons_zero, List.set_cons_succ, i64_w, i32_w]
                            rfl
                          refine pure_ (i := 7) (N := some 49) (v := ?_) (a' := ?_) #[false, true, true, false, true, true, true, true, false, false, false, false, false, false, false, false] rfl rfl (any_of HT_.out (by kernel_rfl)) (fun _ _ _ h => h) (Or.inl ⟨by rfl, ?_⟩) ?_ ?_
                          rotate_left
                          · intro w'
                            go_simp
                            with_reducible rfl
                          rotate_left
                          · simp only [Act.put, List.setIfInBounds_toArray, List.set_cons_zero, List.set_cons_succ, i64_w, i32_w]
                            rfl
                          refine take_ (i := 0) (N := some 42) (v := ?_) (a' := ?_) #[true, true, true, false, true, true, true, true, false, false, false, false, false, false, false, false] rfl rfl (take_ofW HT_.out HW_.out (by kernel_rfl)) (fun _ _ _ h => h) (Or.inl ⟨by rfl, ?_⟩) hHeld ?_ ?_
                          rotate_left
                          · rintro w' ⟨s0, s1, s2, s3, s4, s5⟩
                            go_simp
                            with_reducible rfl
                          rotate_left
                          · simp only [Act.put, List.setIfInBounds_toArray, List.set_cons_zero, List.set_cons_succ, i64_w, i32_w]
                            rfl
                          refine take_ (i := 3) (N := some 45) (v := ?_) (a' := ?_) #[true, true, true, true, true, true, true, true, false, false, false, false, false, false, false, false] rfl rfl (take_ofW HT_.out HW_.out (by kernel_rfl)) (fun _ _ _ h => h) (Or.inl ⟨by rfl, ?_⟩) hHeld ?_ ?_
                          rotate_left
                          · rintro w' ⟨s0, s1, s2, s3, s4, s5⟩
                            go_simp
                            with_reducible rfl
                          rotate_left
                          · simp only [Act.put, List.setIfInBounds_toArray, List.set_cons_zero, List.set_cons_succ, i64_w, i32_w]
                            rfl
                          refine take_ (i := 8) (N := some 50) (v := ?_) (a' := ?_) #[true, true, true, true, true, true, true, true, true, false, false, false, false, false, false, false] rfl rfl (take_ofW HT_.out HW_.out (by kernel_rfl)) (fun _ _ _ h => h) (Or.inl ⟨by rfl, ?_⟩) hHeld ?_ ?_
                          rotate_left
                          · rintro w' ⟨s0, s1, s2, s3, s4, s5⟩
                            go_simp
                            with_reducible rfl
                          rotate_left
                          · simp only [Act.put, List.setIfInBounds_toArray, List.set_cons_zero, List.set_cons_succ, i64_w, i32_w]
                            rfl
                          refine join_ (σ := Nat) 2 #[true, true, true, true, true, true, true, true, true, true, true, true, true, true, false, false] (fun s_ => [(51, .tuple #[.agg #[.string t186, .int .i64 t187, .int .i64 t188, .int .i64 t189, .string t190], .bool true]), (9, .pointer (some ⟨s_, 0, none⟩)), (41, .tuple #[.agg #[.string t186, .int .i64 t187, .int .i64 t188, .int .i64 t189, .string t190], .bool true]), (52, .agg #[.string t186, .int .i64 t187, .int .i64 t188, .int .i64 t189, .string t190]), (53, .bool true)]) (fun s_ w' => (w'.cell? ⟨gb184, 0, none⟩ = some (.string x185000_2) ∧ w'.cell? ⟨gb184, 1, none⟩ = some (.int .i64 x185001_2) ∧ w'.cell? ⟨gb184, 2, none⟩ = some (.int .i64 x185002_2) ∧ w'.cell? ⟨gb184, 3, none⟩ = some (.int .i64 x185003_2) ∧ w'.cell? ⟨gb184, 4, none⟩ = some (.string x185004_2) ∧ w'.cell? (ad180.add ((ji19)).toNat) = some (.string (rdOf ByteArray.empty t177 (ji19)))) ∧ (Kd.R Kd.string 9 w' w.heap.size (fun _ => True) (.slice (some ad180) t177.length co8) t177) ∧ (w'.heap[gb176]? = some (.cells #[.string x177000_2, .int .i64 x177001_2, .int .i64 x177002_2, .int .i64 x177003_2, .string x177004_2] 23 (0, 0))) ∧ (w'.heap[gb184]? = some (.cells #[.string x185000_2, .int .i64 x185001_2, .int .i64 x185002_2, .int .i64 x185003_2, .string x185004_2] 23 (0, 0))) ∧ (w'.heap[s_]? = some (.cells #[.string (⟨#[]⟩ : ByteArray), .int .i64 0, .int .i64 0, .int .i64 0, .string (⟨#[]⟩ : ByteArray)] 23 (0, 0))) ∧ (w.heap.size ≤ s_) ∧ (w.heap.size ≤ s_) ∧ (gb176 ≠ s_) ∧ (s_ ≠ gb176) ∧ (gb184 ≠ s_) ∧ (s_ ≠ gb184) ∧ (Below w.heap.size w w')) ?_ ?_
                          rotate_left
                          · intro hCont
                            refine two_ (i := 9) (j := 13) (Ni := some 51) (Nj := some 9) #[true, true, true, true, true, true, true, true, true, true, false, false, false, false, false, false] #[true, true, true, true, true, true, true, true, true, false, false, false, false, true, false, false] rfl rfl rfl rfl (two_of HT_.out (by kernel_rfl)) (by decide) (by decide) (fun K hK => ?_) (fun K hK => ?_)
                            · skip
                              refine goes_ Tryd.func21 (by kernel_rfl) rfl #[.agg #[.string x185000_2, .int .i64 x185001_2, .int .i64 x185002_2, .int .i64 x185003_2, .string x185004_2], .int .u8 (bt t181 x8_2), .string (rdOf ByteArray.empty t177 (ji19))] (by rfl) rfl rfl (by (try simp only [List.map_toArray, List.map_cons, List.map_nil]); first | done | (simp only [hji19]; rfl) | rfl | (simp only [List.length_drop, List.length_take]; rfl)) ?_
                              with_reducible refine (oakumref21_take.calls k2 x185000_2 x185001_2 x185002_2 x185003_2 x185004_2 (bt t181 x8_2) (rdOf ByteArray.empty t177 (ji19)) t186 t187 t188 t189 t190 true _ A22.out).mono ?_
                              rintro e w25 ⟨rfl, hb⟩
                              have HS5_ := (hb.cell (World.block_lt_of_cell? _ _ (hHeld.2.2.2.2.2))).trans (hHeld.2.2.2.2.2)
                              refine ⟨_, rfl, ?_⟩
                              have n0_ := Aside0.mk (Kd.R_below (by (with_reducible repeat (first | apply Kd.R_alloc | apply Kd.R_drewN | apply Kd.R_drew)); exact HO_4.out) hb)
                              have n1_ := Aside0.mk (blk_below (g := gb176) (o := .cells #[.string x177000_2, .int .i64 x177001_2, .int .i64 x177002_2, .int .i64 x177003_2, .string x177004_2] 23 (0, 0)) (by (with_reducible repeat (first | refine blk_drewN ?_ _ | refine blk_drew ?_ | refine blk_alloc ?_ _)); exact BK176.out) hb)
                              have n2_ := Aside0.mk (blk_below (g := gb184) (o := .cells #[.string x185000_2, .int .i64 x185001_2, .int .i64 x185002_2, .int .i64 x185003_2, .string x185004_2] 23 (0, 0)) (by (with_reducible repeat (first | refine blk_drewN ?_ _ | refine blk_drew ?_ | refine blk_alloc ?_ _)); exact BK184.out) hb)
                              have n3_ := Aside0.mk (below_step (by repeat (first | (with_reducible first | exact HB.out | apply below_alloc | apply pw_below_drewN | apply below_drew1 | refine below_set ?_ GE176.out | refine below_set ?_ GE184.out) | exact HB.out)) hb)
                              clear HO_4
                              clear BK176
                              clear BK184
                              clear HB
                              have HO_4 := n0_
                              have BK176 := n1_
                              have BK184 := n2_
                              have HB := n3_
                              clear n0_ n1_ n2_ n3_
                              (try clear hb)
                              (try clear hb2)
                              (try clear hk)
                              (try clear hi)
                              refine hK.out _ _ ⟨(blk_cell BK184.out 0).trans rfl, (blk_cell BK184.out 1).trans rfl, (blk_cell BK184.out 2).trans rfl, (blk_cell BK184.out 3).trans rfl, (blk_cell BK184.out 4).trans rfl, HS5_⟩ (fun hHeld => ?_)
                              clear hK K
                              refine norm_ (a' := ?_) ?_ ?_
                              rotate_left
                              · show Act.put _ (some 51) _ = _
                                simp only [Act.put, List.setIfInBounds_toArray, List.set_cons_zero, List.set_cons_succ, i64_w, i32_w]
                                rfl
                              refine pure_ (i := 10) (N := some 41) (v := ?_) (a' := ?_) #[true, true, true, true, true, true, true, true, true, true, true, false, false, false, false, false] rfl rfl (any_of HT_.out (by kernel_rfl)) (fun _ _ _ h => h) (Or.inl ⟨by rfl, ?_⟩) ?_ ?_
                              rotate_left
                              · intro w'
                                go_simp
                                with_reducible rfl
                              rotate_left
                              · simp only [Act.put, List.setIfInBounds_toArray, List.set_cons_zero, List.set_cons_succ, i64_w, i32_w]
                                rfl
                              refine pure_ (i := 11) (N := some 52) (v := ?_) (a' := ?_) #[true, true, true, true, true, true, true, true, true, true, true, true, false, false, false, false] rfl rfl (any_of HT_.out (by kernel_rfl)) (fun _ _ _ h => h) (Or.inl ⟨by rfl, ?_⟩) ?_ ?_
                              rotate_left
                              · intro w'
                                go_simp
                                with_reducible rfl
                              rotate_left
                              · simp only [Act.put, List.setIfInBounds_toArray, List.set_cons_zero, List.set_cons_succ, i64_w, i32_w]
                                rfl
                              refine pure_ (i := 12) (N := some 53) (v := ?_) (a' := ?_) #[true, true, true, true, true, true, true, true, true, true, true, true, true, false, false, false] rfl rfl (any_of HT_.out (by kernel_rfl)) (fun _ _ _ h => h) (Or.inl ⟨by rfl, ?_⟩) ?_ ?_
                              rotate_left
                              · intro w'
                                go_simp
                                with_reducible rfl
                              rotate_left
                              · simp only [Act.put, List.setIfInBounds_toArray, List.set_cons_zero, List.set_cons_succ, i64_w, i32_w]
                                rfl
                              refine one_ (i := 13) (N := some 9) #[true, true, true, true, true, true, true, true, true, true, true, true, true, true, false, false] rfl rfl (one_of HT_.out (by kernel_rfl)) (by decide) (fun K hK => ?_)
                              refine box_step ?hg (N := 9) ?hd (cs := #[.string (⟨#[]⟩ : ByteArray), .int .i64 0, .int .i64 0, .int .i64 0, .string (⟨#[]⟩ : ByteArray)]) (t := 23) ?hr ?_; (case hd => rfl); (case hg => rfl); (case hr => first | (go_simp; done) | (go_simp; rfl))
                              intro gb192 hg w26 hbox hb
                              have HS5_ := (hb.cell (World.block_lt_of_cell? _ _ (hHeld.2.2.2.2.2))).trans (hHeld.2.2.2.2.2)
                              have n0_ := Aside0.mk (Kd.R_below (by (with_reducible repeat (first | apply Kd.R_alloc | apply Kd.R_drewN | apply Kd.R_drew)); exact HO_4.out) hb)
                              have n1_ := Aside0.mk (blk_below (g := gb176) (o := .cells #[.string x177000_2, .int .i64 x177001_2, .int .i64 x177002_2, .int .i64 x177003_2, .string x177004_2] 23 (0, 0)) (by (with_reducible repeat (first | refine blk_drewN ?_ _ | refine blk_drew ?_ | refine blk_alloc ?_ _)); exact BK176.out) hb)
                              have n2_ := Aside0.mk (blk_below (g := gb184) (o := .cells #[.string x185000_2, .int .i64 x185001_2, .int .i64 x185002_2, .int .i64 x185003_2, .string x185004_2] 23 (0, 0)) (by (with_reducible repeat (first | refine blk_drewN ?_ _ | refine blk_drew ?_ | refine blk_alloc ?_ _)); exact BK184.out) hb)
                              have n3_ := Aside0.mk (below_step (by repeat (first | (with_reducible first | exact HB.out | apply below_alloc | apply pw_below_drewN | apply below_drew1 | refine below_set ?_ GE176.out | refine below_set ?_ GE184.out) | exact HB.out)) hb)
                              have n4_ := Aside0.mk (hbox)
                              have n5_ := Aside0.mk ((by rw [hg]; exact (below_size (by repeat (first | (with_reducible first | exact HB.out | apply below_alloc | apply pw_below_drewN | apply below_drew1 | refine below_set ?_ GE176.out | refine below_set ?_ GE184.out) | exact HB.out))) : w.heap.size ≤ gb192))
                              have n6_ := Aside0.mk ((by rw [hg]; exact (below_size (by repeat (first | (with_reducible first | exact HB.out | apply below_alloc | apply pw_below_drewN | apply below_drew1 | refine below_set ?_ GE176.out | refine below_set ?_ GE184.out) | exact HB.out))) : w.heap.size ≤ gb192))
                              have n7_ := Aside0.mk ((by rw [hg]; exact Nat.ne_of_lt (blk_lt (g := gb176) (o := .cells #[.string x177000_2, .int .i64 x177001_2, .int .i64 x177002_2, .int .i64 x177003_2, .string x177004_2] 23 (0, 0)) (by (with_reducible repeat (first | refine blk_drewN ?_ _ | refine blk_drew ?_ | refine blk_alloc ?_ _)); exact BK176.out)) : gb176 ≠ gb192))
                              have n8_ := Aside0.mk ((by rw [hg]; exact Nat.ne_of_gt (blk_lt (g := gb176) (o := .cells #[.string x177000_2, .int .i64 x177001_2, .int .i64 x177002_2, .int .i64 x177003_2, .string x177004_2] 23 (0, 0)) (by (with_reducible repeat (first | refine blk_drewN ?_ _ | refine blk_drew ?_ | refine blk_alloc ?_ _)); exact BK176.out)) : gb192 ≠ gb176))
                              have n9_ := Aside0.mk ((by rw [hg]; exact Nat.ne_of_lt (blk_lt (g := gb184) (o := .cells #[.string x185000_2, .int .i64 x185001_2, .int .i64 x185002_2, .int .i64 x185003_2, .string x185004_2] 23 (0, 0)) (by (with_reducible repeat (first | refine blk_drewN ?_ _ | refine blk_drew ?_ | refine blk_alloc ?_ _)); exact BK184.out)) : gb184 ≠ gb192))
                              have n10_ := Aside0.mk ((by rw [hg]; exact Nat.ne_of_gt (blk_lt (g := gb184) (o := .cells #[.string x185000_2, .int .i64 x185001_2, .int .i64 x185002_2, .int .i64 x185003_2, .string x185004_2] 23 (0, 0)) (by (with_reducible repeat (first | refine blk_drewN ?_ _ | refine blk_drew ?_ | refine blk_alloc ?_ _)); exact BK184.out)) : gb192 ≠ gb184))
                              clear HO_4
                              clear BK176
                              clear BK184
                              clear HB
                              have HO_4 := n0_
                              have BK176 := n1_
                              have BK184 := n2_
                              have HB := n3_
                              have BK192 := n4_
                              have GW192 := n5_
                              have GE192 := n6_
                              have NB176_192 := n7_
                              have NB192_176 := n8_
                              have NB184_192 := n9_
                              have NB192_184 := n10_
                              clear n0_ n1_ n2_ n3_ n4_ n5_ n6_ n7_ n8_ n9_ n10_
                              clear hb hbox hg
                              refine hK.out _ _ ⟨(blk_cell BK184.out 0).trans rfl, (blk_cell BK184.out 1).trans rfl, (blk_cell BK184.out 2).trans rfl, (blk_cell BK184.out 3).trans rfl, (blk_cell BK184.out 4).trans rfl, HS5_⟩ (fun hHeld => ?_)
                              clear hK K
                              refine norm_ (a' := ?_) ?_ ?_
                              rotate_left
                              · show Act.put _ (some 9) _ = _
                                simp only [Act.put, List.setIfInBounds_toArray, List.set_cons_zero, List.set_cons_succ, i64_w, i32_w]
                                rfl
                              exact norm_ (by simp only [putAll, Act.put, List.setIfInBounds_toArray, List.set_cons_zero, List.set_cons_succ]) (hCont (gb192) _ ⟨hHeld, (by (with_reducible repeat (first | apply Kd.R_alloc | apply Kd.R_drewN | apply Kd.R_drew)); exact HO_4.out), (by (with_reducible repeat (first | refine blk_drewN ?_ _ | refine blk_drew ?_ | refine blk_alloc ?_ _)); exact BK176.out), (by (with_reducible repeat (first | refine blk_drewN ?_ _ | refine blk_drew ?_ | refine blk_alloc ?_ _)); exact BK184.out), (by (with_reducible repeat (first | refine blk_drewN ?_ _ | refine blk_drew ?_ | refine blk_alloc ?_ _)); exact BK192.out), GW192.out, GE192.out, NB176_192.out, NB192_176.out, NB184_192.out, NB192_184.out, (by repeat (first | (with_reducible first | exact HB.out | apply below_alloc | apply pw_below_drewN | apply below_drew1 | refine below_set ?_ GE176.out | refine below_set ?_ GE184.out | refine below_set ?_ GE192.out) | exact HB.out))⟩)
                            · skip
                              refine box_step ?hg (N := 9) ?hd (cs := #[.string (⟨#[]⟩ : ByteArray), .int .i64 0, .int .i64 0, .int .i64 0, .string (⟨#[]⟩ : ByteArray)]) (t := 23) ?hr ?_; (case hd => rfl); (case hg => rfl); (case hr => first | (go_simp; done) | (go_simp; rfl))
                              intro gb192 hg w25 hbox hb
                              have HS5_ := (hb.cell (World.block_lt_of_cell? _ _ (hHeld.2.2.2.2.2))).trans (hHeld.2.2.2.2.2)
                              have n0_ := Aside0.mk (Kd.R_below (by (with_reducible repeat (first | apply Kd.R_alloc | apply Kd.R_drewN | apply Kd.R_drew)); exact HO_4.out) hb)
                              have n1_ := Aside0.mk (blk_below (g := gb176) (o := .cells #[.string x177000_2, .int .i64 x177001_2, .int .i64 x177002_2, .int .i64 x177003_2, .string x177004_2] 23 (0, 0)) (by (with_reducible repeat (first | refine blk_drewN ?_ _ | refine blk_drew ?_ | refine blk_alloc ?_ _)); exact BK176.out) hb)
                              have n2_ := Aside0.mk (blk_below (g := gb184) (o := .cells #[.string x185000_2, .int .i64 x185001_2, .int .i64 x185002_2, .int .i64 x185003_2, .string x185004_2] 23 (0, 0)) (by (with_reducible repeat (first | refine blk_drewN ?_ _ | refine blk_drew ?_ | refine blk_alloc ?_ _)); exact BK184.out) hb)
                              have n3_ := Aside0.mk (below_step (by repeat (first | (with_reducible first | exact HB.out | apply below_alloc | apply pw_below_drewN | apply below_drew1 | refine below_set ?_ GE176.out | refine below_set ?_ GE184.out) | exact HB.out)) hb)
                              have n4_ := Aside0.mk (hbox)
                              have n5_ := Aside0.mk ((by rw [hg]; exact (below_size (by repeat (first | (with_reducible first | exact HB.out | apply below_alloc | apply pw_below_drewN | apply below_drew1 | refine below_set ?_ GE176.out | refine below_set ?_ GE184.out) | exact HB.out))) : w.heap.size ≤ gb192))
                              have n6_ := Aside0.mk ((by rw [hg]; exact (below_size (by repeat (first | (with_reducible first | exact HB.out | apply below_alloc | apply pw_below_drewN | apply below_drew1 | refine below_set ?_ GE176.out | refine below_set ?_ GE184.out) | exact HB.out))) : w.heap.size ≤ gb192))
                              have n7_ := Aside0.mk ((by rw [hg]; exact Nat.ne_of_lt (blk_lt (g := gb176) (o := .cells #[.string x177000_2, .int .i64 x177001_2, .int .i64 x177002_2, .int .i64 x177003_2, .string x177004_2] 23 (0, 0)) (by (with_reducible repeat (first | refine blk_drewN ?_ _ | refine blk_drew ?_ | refine blk_alloc ?_ _)); exact BK176.out)) : gb176 ≠ gb192))
                              have n8_ := Aside0.mk ((by rw [hg]; exact Nat.ne_of_gt (blk_lt (g := gb176) (o := .cells #[.string x177000_2, .int .i64 x177001_2, .int .i64 x177002_2, .int .i64 x177003_2, .string x177004_2] 23 (0, 0)) (by (with_reducible repeat (first | refine blk_drewN ?_ _ | refine blk_drew ?_ | refine blk_alloc ?_ _)); exact BK176.out)) : gb192 ≠ gb176))
                              have n9_ := Aside0.mk ((by rw [hg]; exact Nat.ne_of_lt (blk_lt (g := gb184) (o := .cells #[.string x185000_2, .int .i64 x185001_2, .int .i64 x185002_2, .int .i64 x185003_2, .string x185004_2] 23 (0, 0)) (by (with_reducible repeat (first | refine blk_drewN ?_ _ | refine blk_drew ?_ | refine blk_alloc ?_ _)); exact BK184.out)) : gb184 ≠ gb192))
                              have n10_ := Aside0.mk ((by rw [hg]; exact Nat.ne_of_gt (blk_lt (g := gb184) (o := .cells #[.string x185000_2, .int .i64 x185001_2, .int .i64 x185002_2, .int .i64 x185003_2, .string x185004_2] 23 (0, 0)) (by (with_reducible repeat (first | refine blk_drewN ?_ _ | refine blk_drew ?_ | refine blk_alloc ?_ _)); exact BK184.out)) : gb192 ≠ gb184))
                              clear HO_4
                              clear BK176
                              clear BK184
                              clear HB
                              have HO_4 := n0_
                              have BK176 := n1_
                              have BK184 := n2_
                              have HB := n3_
                              have BK192 := n4_
                              have GW192 := n5_
                              have GE192 := n6_
                              have NB176_192 := n7_
                              have NB192_176 := n8_
                              have NB184_192 := n9_
                              have NB192_184 := n10_
                              clear n0_ n1_ n2_ n3_ n4_ n5_ n6_ n7_ n8_ n9_ n10_
                              clear hb hbox hg
                              refine hK.out _ _ ⟨(blk_cell BK184.out 0).trans rfl, (blk_cell BK184.out 1).trans rfl, (blk_cell BK184.out 2).trans rfl, (blk_cell BK184.out 3).trans rfl, (blk_cell BK184.out 4).trans rfl, HS5_⟩ (fun hHeld => ?_)
                              clear hK K
                              refine norm_ (a' := ?_) ?_ ?_
                              rotate_left
                              · show Act.put _ (some 9) _ = _
                                simp only [Act.put, List.setIfInBounds_toArray, List.set_cons_zero, List.set_cons_succ, i64_w, i32_w]
                                rfl
                              refine one_ (i := 9) (N := some 51) #[true, true, true, true, true, true, true, true, true, true, false, false, false, true, false, false] rfl rfl (one_of HT_.out (by kernel_rfl)) (by decide) (fun K hK => ?_)
                              refine goes_ Tryd.func21 (by kernel_rfl) rfl #[.agg #[.string x185000_2, .int .i64 x185001_2, .int .i64 x185002_2, .int .i64 x185003_2, .string x185004_2], .int .u8 (bt t181 x8_2), .string (rdOf ByteArray.empty t177 (ji19))] (by rfl) rfl rfl (by (try simp only [List.map_toArray, List.map_cons, List.map_nil]); first | done | (simp only [hji19]; rfl) | rfl | (simp only [List.length_drop, List.length_take]; rfl)) ?_
                              with_reducible refine (oakumref21_take.calls k2 x185000_2 x185001_2 x185002_2 x185003_2 x185004_2 (bt t181 x8_2) (rdOf ByteArray.empty t177 (ji19)) t186 t187 t188 t189 t190 true _ A22.out).mono ?_
                              rintro e w26 ⟨rfl, hb⟩
                              have HS5_ := (hb.cell (World.block_lt_of_cell? _ _ (hHeld.2.2.2.2.2))).trans (hHeld.2.2.2.2.2)
                              refine ⟨_, rfl, ?_⟩
                              have n0_ := Aside0.mk (Kd.R_below (by (with_reducible repeat (first | apply Kd.R_alloc | apply Kd.R_drewN | apply Kd.R_drew)); exact HO_4.out) hb)
                              have n1_ := Aside0.mk (blk_below (g := gb176) (o := .cells #[.string x177000_2, .int .i64 x177001_2, .int .i64 x177002_2, .int .i64 x177003_2, .string x177004_2] 23 (0, 0)) (by (with_reducible repeat (first | refine blk_drewN ?_ _ | refine blk_drew ?_ | refine blk_alloc ?_ _)); exact BK176.out) hb)
                              have n2_ := Aside0.mk (blk_below (g := gb184) (o := .cells #[.string x185000_2, .int .i64 x185001_2, .int .i64 x185002_2, .int .i64 x185003_2, .string x185004_2] 23 (0, 0)) (by (with_reducible repeat (first | refine blk_drewN ?_ _ | refine blk_drew ?_ | refine blk_alloc ?_ _)); exact BK184.out) hb)
                              have n3_ := Aside0.mk (blk_below (g := gb192) (o := .cells #[.string (⟨#[]⟩ : ByteArray), .int .i64 0, .int .i64 0, .int .i64 0, .string (⟨#[]⟩ : ByteArray)] 23 (0, 0)) (by (with_reducible repeat (first | refine blk_drewN ?_ _ | refine blk_drew ?_ | refine blk_alloc ?_ _)); exact BK192.out) hb)
                              have n4_ := Aside0.mk (below_step (by repeat (first | (with_reducible first | exact HB.out | apply below_alloc | apply pw_below_drewN | apply below_drew1 | refine below_set ?_ GE176.out | refine below_set ?_ GE184.out | refine below_set ?_ GE192.out) | exact HB.out)) hb)
                              clear HO_4
                              clear BK176
                              clear BK184
                              clear BK192
                              clear HB
                              have HO_4 := n0_
                              have BK176 := n1_
                              have BK184 := n2_
                              have BK192 := n3_
                              have HB := n4_
                              clear n0_ n1_ n2_ n3_ n4_
                              (try clear hb)
                              (try clear hb2)
                              (try clear hk)
                              (try clear hi)
                              refine hK.out _ _ ⟨(blk_cell BK184.out 0).trans rfl, (blk_cell BK184.out 1).trans rfl, (blk_cell BK184.out 2).trans rfl, (blk_cell BK184.out 3).trans rfl, (blk_cell BK184.out 4).trans rfl, HS5_⟩ (fun hHeld => ?_)
                              clear hK K
                              refine norm_ (a' := ?_) ?_ ?_
                              rotate_left
                              · show Act.put _ (some 51) _ = _
                                simp only [Act.put, List.setIfInBounds_toArray, List.set_cons_zero, List.set_cons_succ, i64_w, i32_w]
                                rfl
                              refine pure_ (i := 10) (N := some 41) (v := ?_) (a' := ?_) #[true, true, true, true, true, true, true, true, true, true, true, false, false, true, false, false] rfl rfl (any_of HT_.out (by kernel_rfl)) (fun _ _ _ h => h) (Or.inl ⟨by rfl, ?_⟩) ?_ ?_
                              rotate_left
                              · intro w'
                                go_simp
                                with_reducible rfl
                              rotate_left
                              · simp only [Act.put, List.setIfInBounds_toArray, List.set_cons_zero, List.set_cons_succ, i64_w, i32_w]
                                rfl
                              refine pure_ (i := 11) (N := some 52) (v := ?_) (a' := ?_) #[true, true, true, true, true, true, true, true, true, true, true, true, false, true, false, false] rfl rfl (any_of HT_.out (by kernel_rfl)) (fun _ _ _ h => h) (Or.inl ⟨by rfl, ?_⟩) ?_ ?_
                              rotate_left
                              · intro w'
                                go_simp
                                with_reducible rfl
                              rotate_left
                              · simp only [Act.put, List.setIfInBounds_toArray, List.set_cons_zero, List.set_cons_succ, i64_w, i32_w]
                                rfl
                              refine pure_ (i := 12) (N := some 53) (v := ?_) (a' := ?_) #[true, true, true, true, true, true, true, true, true, true, true, true, true, true, false, false] rfl rfl (any_of HT_.out (by kernel_rfl)) (fun _ _ _ h => h) (Or.inl ⟨by rfl, ?_⟩) ?_ ?_
                              rotate_left
                              · intro w'
                                go_simp
                                with_reducible rfl
                              rotate_left
                              · simp only [Act.put, List.setIfInBounds_toArray, List.set_cons_zero, List.set_cons_succ, i64_w, i32_w]
                                rfl
                              exact norm_ (by simp only [putAll, Act.put, List.setIfInBounds_toArray, List.set_cons_zero, List.set_cons_succ]) (hCont (gb192) _ ⟨hHeld, (by (with_reducible repeat (first | apply Kd.R_alloc | apply Kd.R_drewN | apply Kd.R_drew)); exact HO_4.out), (by (with_reducible repeat (first | refine blk_drewN ?_ _ | refine blk_drew ?_ | refine blk_alloc ?_ _)); exact BK176.out), (by (with_reducible repeat (first | refine blk_drewN ?_ _ | refine blk_drew ?_ | refine blk_alloc ?_ _)); exact BK184.out), (by (with_reducible repeat (first | refine blk_drewN ?_ _ | refine blk_drew ?_ | refine blk_alloc ?_ _)); exact BK192.out), GW192.out, GE192.out, NB176_192.out, NB192_176.out, NB184_192.out, NB192_184.out, (by repeat (first | (with_reducible first | exact HB.out | apply below_alloc | apply pw_below_drewN | apply below_drew1 | refine below_set ?_ GE176.out | refine below_set ?_ GE184.out | refine below_set ?_ GE192.out) | exact HB.out))⟩)
                          rintro gb192 w27 ⟨hS_, h0_, h1_, h2_, h3_, h4_, h5_, h6_, h7_, h8_, h9_, h10_⟩
                          have n0_ : Aside0 (Kd.R Kd.string 9 w27 w.heap.size (fun _ => True) (.slice (some ad180) t177.length co8) t177) := ⟨h0_⟩
                          have n1_ : Aside0 (w27.heap[gb176]? = some (.cells #[.string x177000_2, .int .i64 x177001_2, .int .i64 x177002_2, .int .i64 x177003_2, .string x177004_2] 23 (0, 0))) := ⟨h1_⟩
                          have n2_ : Aside0 (w27.heap[gb184]? = some (.cells #[.string x185000_2, .int .i64 x185001_2, .int .i64 x185002_2, .int .i64 x185003_2, .string x185004_2] 23 (0, 0))) := ⟨h2_⟩
                          have n3_ : Aside0 (w27.heap[gb192]? = some (.cells #[.string (⟨#[]⟩ : ByteArray), .int .i64 0, .int .i64 0, .int .i64 0, .string (⟨#[]⟩ : ByteArray)] 23 (0, 0))) := ⟨h3_⟩
                          have n4_ : Aside0 (w.heap.size ≤ gb192) := ⟨h4_⟩
                          have n5_ : Aside0 (w.heap.size ≤ gb192) := ⟨h5_⟩
                          have n6_ : Aside0 (gb176 ≠ gb192) := ⟨h6_⟩
                          have n7_ : Aside0 (gb192 ≠ gb176) := ⟨h7_⟩
                          have n8_ : Aside0 (gb184 ≠ gb192) := ⟨h8_⟩
                          have n9_ : Aside0 (gb192 ≠ gb184) := ⟨h9_⟩
                          have n10_ : Aside0 (Below w.heap.size w w27) := ⟨h10_⟩
                          clear HO_4
                          clear BK176
                          clear BK184
                          clear HB
                          clear h0_ h1_ h2_ h3_ h4_ h5_ h6_ h7_ h8_ h9_ h10_
                          have HO_4 := n0_
                          have BK176 := n1_
                          have BK184 := n2_
                          have BK192 := n3_
                          have GW192 := n4_
                          have GE192 := n5_
                          have NB176_192 := n6_
                          have NB192_176 := n7_
                          have NB184_192 := n8_
                          have NB192_184 := n9_
                          have HB := n10_
                          clear n0_ n1_ n2_ n3_ n4_ n5_ n6_ n7_ n8_ n9_ n10_
                          have hHeld : w27.cell? ⟨gb184, 0, none⟩ = some (.string x185000_2) ∧ w27.cell? ⟨gb184, 1, none⟩ = some (.int .i64 x185001_2) ∧ w27.cell? ⟨gb184, 2, none⟩ = some (.int .i64 x185002_2) ∧ w27.cell? ⟨gb184, 3, none⟩ = some (.int .i64 x185003_2) ∧ w27.cell? ⟨gb184, 4, none⟩ = some (.string x185004_2) ∧ w27.cell? (ad180.add ((ji19)).toNat) = some (.string (rdOf ByteArray.empty t177 (ji19))) := hS_
                          refine norm_ (a' := ?_) ?_ ?_
                          rotate_left
                          · simp only [putAll, Act.put, List.setIfInBounds_toArray, List.set_cons_zero, List.set_cons_succ]
                            rfl
                          refine one_ (i := 14) (N := none) #[true, true, true, true, true, true, true, true, true, true, true, true, true, true, true, false] rfl rfl (one_of HT_.out (by kernel_rfl)) (by decide) (fun K hK => ?_)
                          have hs28 : w27.cell? ⟨gb192, 0, none⟩ = some (.string (⟨#[]⟩ : ByteArray)) := (blk_cell BK192.out 0).trans rfl
                          have hfs28 := blk_frozen BK192.out 0
                          have hns28_0 := NB176_192.out
                          have hns28_1 := NB184_192.out
                          have hms28_0 := NB192_176.out
                          have hms28_1 := NB192_184.out
                          have hs29 : w27.cell? ⟨gb192, 1, none⟩ = some (.int .i64 0) := (blk_cell BK192.out 1).trans rfl
                          have hfs29 := blk_frozen BK192.out 1
                          have hns29_0 := NB176_192.out
                          have hns29_1 := NB184_192.out
                          have hms29_0 := NB192_176.out
                          have hms29_1 := NB192_184.out
                          have hs30 : w27.cell? ⟨gb192, 2, none⟩ = some (.int .i64 0) := (blk_cell BK192.out 2).trans rfl
                          have hfs30 := blk_frozen BK192.out 2
                          have hns30_0 := NB176_192.out
                          have hns30_1 := NB184_192.out
                          have hms30_0 := NB192_176.out
                          have hms30_1 := NB192_184.out
                          have hs31 : w27.cell? ⟨gb192, 3, none⟩ = some (.int .i64 0) := (blk_cell BK192.out 3).trans rfl
                          have hfs31 := blk_frozen BK192.out 3
                          have hns31_0 := NB176_192.out
                          have hns31_1 := NB184_192.out
                          have hms31_0 := NB192_176.out
                          have hms31_1 := NB192_184.out
                          have hs32 : w27.cell? ⟨gb192, 4, none⟩ = some (.string (⟨#[]⟩ : ByteArray)) := (blk_cell BK192.out 4).trans rfl
                          have hfs32 := blk_frozen BK192.out 4
                          have hns32_0 := NB176_192.out
                          have hns32_1 := NB184_192.out
                          have hms32_0 := NB192_176.out
                          have hms32_1 := NB192_184.out
                          refine skip_ (w1 := ?_) (by rfl) rfl ?_ ?_
                          rotate_left
                          · go_simp
                            rfl
                          refine hK.out _ _ ⟨((cell_far (p := ⟨gb192, _, none⟩) NB184_192.out _).trans (((cell_far (p := ⟨gb192, _, none⟩) NB184_192.out _).trans (((cell_far (p := ⟨gb192, _, none⟩) NB184_192.out _).trans (((cell_far (p := ⟨gb192, _, none⟩) NB184_192.out _).trans (((cell_far (p := ⟨gb192, _, none⟩) NB184_192.out _).trans (hHeld.1)))))))))), ((cell_far (p := ⟨gb192, _, none⟩) NB184_192.out _).trans (((cell_far (p := ⟨gb192, _, none⟩) NB184_192.out _).trans (((cell_far (p := ⟨gb192, _, none⟩) NB184_192.out _).trans (((cell_far (p := ⟨gb192, _, none⟩) NB184_192.out _).trans (((cell_far (p := ⟨gb192, _, none⟩) NB184_192.out _).trans (hHeld.2.1)))))))))), ((cell_far (p := ⟨gb192, _, none⟩) NB184_192.out _).trans (((cell_far (p := ⟨gb192, _, none⟩) NB184_192.out _).trans (((cell_far (p := ⟨gb192, _, none⟩) NB184_192.out _).trans (((cell_far (p := ⟨gb192, _, none⟩) NB184_192.out _).trans (((cell_far (p := ⟨gb192, _, none⟩) NB184_192.out _).trans (hHeld.2.2.1)))))))))), ((cell_far (p := ⟨gb192, _, none⟩) NB184_192.out _).trans (((cell_far (p := ⟨gb192, _, none⟩) NB184_192.out _).trans (((cell_far (p := ⟨gb192, _, none⟩) NB184_192.out _).trans (((cell_far (p := ⟨gb192, _, none⟩) NB184_192.out _).trans (((cell_far (p := ⟨gb192, _, none⟩) NB184_192.out _).trans (hHeld.2.2.2.1)))))))))), ((cell_far (p := ⟨gb192, _, none⟩) NB184_192.out _).trans (((cell_far (p := ⟨gb192, _, none⟩) NB184_192.out _).trans (((cell_far (p := ⟨gb192, _, none⟩) NB184_192.out _).trans (((cell_far (p := ⟨gb192, _, none⟩) NB184_192.out _).trans (((cell_far (p := ⟨gb192, _, none⟩) NB184_192.out _).trans (hHeld.2.2.2.2.1)))))))))), ((cell_far (p := ⟨gb192, _, none⟩) (by first | exact Kd.own_blk (Kd.R_ne HO_4.out BK192.out (by decide)) | (rw [add_block]; exact Kd.own_blk (Kd.R_ne HO_4.out BK192.out (by decide))) | (show (Addr.add _ _).block ≠ _; rw [add_block]; exact Kd.own_blk (Kd.R_ne HO_4.out BK192.out (by decide))) | (dsimp only; exact Kd.own_blk (Kd.R_ne HO_4.out BK192.out (by decide)))) _).trans (((cell_far (p := ⟨gb192, _, none⟩) (by first | exact Kd.own_blk (Kd.R_ne HO_4.out BK192.out (by decide)) | (rw [add_block]; exact Kd.own_blk (Kd.R_ne HO_4.out BK192.out (by decide))) | (show (Addr.add _ _).block ≠ _; rw [add_block]; exact Kd.own_blk (Kd.R_ne HO_4.out BK192.out (by decide))) | (dsimp only; exact Kd.own_blk (Kd.R_ne HO_4.out BK192.out (by decide)))) _).trans (((cell_far (p := ⟨gb192, _, none⟩) (by first | exact Kd.own_blk (Kd.R_ne HO_4.out BK192.out (by decide)) | (rw [add_block]; exact Kd.own_blk (Kd.R_ne HO_4.out BK192.out (by decide))) | (show (Addr.add _ _).block ≠ _; rw [add_block]; exact Kd.own_blk (Kd.R_ne HO_4.out BK192.out (by decide))) | (dsimp only; exact Kd.own_blk (Kd.R_ne HO_4.out BK192.out (by decide)))) _).trans (((cell_far (p := ⟨gb192, _, none⟩) (by first | exact Kd.own_blk (Kd.R_ne HO_4.out BK192.out (by decide)) | (rw [add_block]; exact Kd.own_blk (Kd.R_ne HO_4.out BK192.out (by decide))) | (show (Addr.add _ _).block ≠ _; rw [add_block]; exact Kd.own_blk (Kd.R_ne HO_4.out BK192.out (by decide))) | (dsimp only; exact Kd.own_blk (Kd.R_ne HO_4.out BK192.out (by decide)))) _).trans (((cell_far (p := ⟨gb192, _, none⟩) (by first | exact Kd.own_blk (Kd.R_ne HO_4.out BK192.out (by decide)) | (rw [add_block]; exact Kd.own_blk (Kd.R_ne HO_4.out BK192.out (by decide))) | (show (Addr.add _ _).block ≠ _; rw [add_block]; exact Kd.own_blk (Kd.R_ne HO_4.out BK192.out (by decide))) | (dsimp only; exact Kd.own_blk (Kd.R_ne HO_4.out BK192.out (by decide)))) _).trans (hHeld.2.2.2.2.2))))))))))⟩ (fun hHeld => ?_)
                          clear hK K
                          refine pure_ (i := 15) (N := some 10) (v := ?_) (a' := ?_) #[true, true, true, true, true, true, true, true, true, true, true, true, true, true, true, true] rfl rfl (any_of HT_.out (by kernel_rfl)) (fun _ _ _ h => h) (Or.inl ⟨by rfl, ?_⟩) ?_ ?_
                          rotate_left
                          · intro w'
                            go_simp
                            with_reducible rfl
                          rotate_left
                          · simp only [Act.put, List.setIfInBounds_toArray, List.set_cons_zero, List.set_cons_succ, i64_w, i32_w]
                            rfl
                          refine done_ (done_of HT_.out (by kernel_rfl)) ?_
                          have hnb33 := NB192_176.out
                          have hnc33 := NB176_192.out
                          have hnb34 := NB192_184.out
                          have hnc34 := NB184_192.out
                          have hcz35_0 : w27.cell? ⟨gb192, 0, none⟩ = some (.string (⟨#[]⟩ : ByteArray)) := (blk_cell BK192.out 0).trans rfl
                          have hcz35_1 : w27.cell? ⟨gb192, 1, none⟩ = some (.int .i64 0) := (blk_cell BK192.out 1).trans rfl
                          have hcz35_2 : w27.cell? ⟨gb192, 2, none⟩ = some (.int .i64 0) := (blk_cell BK192.out 2).trans rfl
                          have hcz35_3 : w27.cell? ⟨gb192, 3, none⟩ = some (.int .i64 0) := (blk_cell BK192.out 3).trans rfl
                          have hcz35_4 : w27.cell? ⟨gb192, 4, none⟩ = some (.string (⟨#[]⟩ : ByteArray)) := (blk_cell BK192.out 4).trans rfl
                          have hfz35_0 := blk_frozen BK192.out 0
                          have hfz35_1 := blk_frozen BK192.out 1
                          have hfz35_2 := blk_frozen BK192.out 2
                          have hfz35_3 := blk_frozen BK192.out 3
                          have hfz35_4 := blk_frozen BK192.out 4
                          have hnb36 := NB184_176.out
                          have hnc36 := NB176_184.out
                          have hcz37_0 : w27.cell? ⟨gb184, 0, none⟩ = some (.string x185000_2) := (blk_cell BK184.out 0).trans rfl
                          have hcz37_1 : w27.cell? ⟨gb184, 1, none⟩ = some (.int .i64 x185001_2) := (blk_cell BK184.out 1).trans rfl
                          have hcz37_2 : w27.cell? ⟨gb184, 2, none⟩ = some (.int .i64 x185002_2) := (blk_cell BK184.out 2).trans rfl
                          have hcz37_3 : w27.cell? ⟨gb184, 3, none⟩ = some (.int .i64 x185003_2) := (blk_cell BK184.out 3).trans rfl
                          have hcz37_4 : w27.cell? ⟨gb184, 4, none⟩ = some (.string x185004_2) := (blk_cell BK184.out 4).trans rfl
                          have hfz37_0 := blk_frozen BK184.out 0
                          have hfz37_1 := blk_frozen BK184.out 1
                          have hfz37_2 := blk_frozen BK184.out 2
                          have hfz37_3 := blk_frozen BK184.out 3
                          have hfz37_4 := blk_frozen BK184.out 4
                          try go_wp2
                          go_roundg k2
                          case measure => have := HJ4.out; have := HK2.out; omega
                          case rel => exact ⟨(wrap64 (x8_2 + 1)), (x177000_2), (x177001_2), (x177002_2), (x177003_2), (x177004_2), (t186), (t187), (t188), (t189), (t190), (by first | rfl | (simp; done) | (simp [*]; done)), H', ⟨by have := HJ4.out; have := HK2.out; omega⟩, ⟨by (with_reducible repeat (first | apply Kd.R_alloc | apply Kd.R_drewN | apply Kd.R_drew)); exact Kd.R_mono (Kd.R_far (p := ⟨gb184, 4, none⟩) (Kd.R_far (p := ⟨gb184, 3, none⟩) (Kd.R_far (p := ⟨gb184, 2, none⟩) (Kd.R_far (p := ⟨gb184, 1, none⟩) (Kd.R_far (p := ⟨gb184, 0, none⟩) (Kd.R_far (p := ⟨gb192, 4, none⟩) (Kd.R_far (p := ⟨gb192, 3, none⟩) (Kd.R_far (p := ⟨gb192, 2, none⟩) (Kd.R_far (p := ⟨gb192, 1, none⟩) (Kd.R_far (p := ⟨gb192, 0, none⟩) (Kd.R_types (Kd.R_types HO_4.out BK192.out (by decide)) BK184.out (by decide)) (fun _ hk => hk.1.2) (.string t186)) (fun _ hk => hk.1.2) (.int .i64 t187)) (fun _ hk => hk.1.2) (.int .i64 t188)) (fun _ hk => hk.1.2) (.int .i64 t189)) (fun _ hk => hk.1.2) (.string t190)) (fun _ hk => hk.2) (.string t186)) (fun _ hk => hk.2) (.int .i64 t187)) (fun _ hk => hk.2) (.int .i64 t188)) (fun _ hk => hk.2) (.int .i64 t189)) (fun _ hk => hk.2) (.string t190)) (fun _ hk => trivial)⟩, ⟨by (with_reducible repeat (first | refine blk_drewN ?_ _ | refine blk_drew ?_ | refine blk_alloc ?_ _)); refine blk_far ?_ NB176_184.out _; (with_reducible repeat (first | refine blk_drewN ?_ _ | refine blk_drew ?_ | refine blk_alloc ?_ _)); refine blk_far ?_ NB176_184.out _; (with_reducible repeat (first | refine blk_drewN ?_ _ | refine blk_drew ?_ | refine blk_alloc ?_ _)); refine blk_far ?_ NB176_184.out _; (with_reducible repeat (first | refine blk_drewN ?_ _ | refine blk_drew ?_ | refine blk_alloc ?_ _)); refine blk_far ?_ NB176_184.out _; (with_reducible repeat (first | refine blk_drewN ?_ _ | refine blk_drew ?_ | refine blk_alloc ?_ _)); refine blk_far ?_ NB176_184.out _; (with_reducible repeat (first | refine blk_drewN ?_ _ | refine blk_drew ?_ | refine blk_alloc ?_ _)); refine blk_far ?_ NB176_192.out _; (with_reducible repeat (first | refine blk_drewN ?_ _ | refine blk_drew ?_ | refine blk_alloc ?_ _)); refine blk_far ?_ NB176_192.out _; (with_reducible repeat (first | refine blk_drewN ?_ _ | refine blk_drew ?_ | refine blk_alloc ?_ _)); refine blk_far ?_ NB176_192.out _; (with_reducible repeat (first | refine blk_drewN ?_ _ | refine blk_drew ?_ | refine blk_alloc ?_ _)); refine blk_far ?_ NB176_192.out _; (with_reducible repeat (first | refine blk_drewN ?_ _ | refine blk_drew ?_ | refine blk_alloc ?_ _)); refine blk_far ?_ NB176_192.out _; (with_reducible repeat (first | refine blk_drewN ?_ _ | refine blk_drew ?_ | refine blk_alloc ?_ _)); exact BK176.out⟩, ⟨by (with_reducible repeat (first | refine blk_drewN ?_ _ | refine blk_drew ?_ | refine blk_alloc ?_ _)); refine blk_put (cs := #[.string t186, .int .i64 t187, .int .i64 t188, .int .i64 t189, .string x185004_2]) ?_ 4 _ rfl; (with_reducible repeat (first | refine blk_drewN ?_ _ | refine blk_drew ?_ | refine blk_alloc ?_ _)); refine blk_put (cs := #[.string t186, .int .i64 t187, .int .i64 t188, .int .i64 x185003_2, .string x185004_2]) ?_ 3 _ rfl; (with_reducible repeat (first | refine blk_drewN ?_ _ | refine blk_drew ?_ | refine blk_alloc ?_ _)); refine blk_put (cs := #[.string t186, .int .i64 t187, .int .i64 x185002_2, .int .i64 x185003_2, .string x185004_2]) ?_ 2 _ rfl; (with_reducible repeat (first | refine blk_drewN ?_ _ | refine blk_drew ?_ | refine blk_alloc ?_ _)); refine blk_put (cs := #[.string t186, .int .i64 x185001_2, .int .i64 x185002_2, .int .i64 x185003_2, .string x185004_2]) ?_ 1 _ rfl; (with_reducible repeat (first | refine blk_drewN ?_ _ | refine blk_drew ?_ | refine blk_alloc ?_ _)); refine blk_put (cs := #[.string x185000_2, .int .i64 x185001_2, .int .i64 x185002_2, .int .i64 x185003_2, .string x185004_2]) ?_ 0 _ rfl; (with_reducible repeat (first | refine blk_drewN ?_ _ | refine blk_drew ?_ | refine blk_alloc ?_ _)); refine blk_far ?_ NB184_192.out _; (with_reducible repeat (first | refine blk_drewN ?_ _ | refine blk_drew ?_ | refine blk_alloc ?_ _)); refine blk_far ?_ NB184_192.out _; (with_reducible repeat (first | refine blk_drewN ?_ _ | refine blk_drew ?_ | refine blk_alloc ?_ _)); refine blk_far ?_ NB184_192.out _; (with_reducible repeat (first | refine blk_drewN ?_ _ | refine blk_drew ?_ | refine blk_alloc ?_ _)); refine blk_far ?_ NB184_192.out _; (with_reducible repeat (first | refine blk_drewN ?_ _ | refine blk_drew ?_ | refine blk_alloc ?_ _)); refine blk_far ?_ NB184_192.out _; (with_reducible repeat (first | refine blk_drewN ?_ _ | refine blk_drew ?_ | refine blk_alloc ?_ _)); exact BK184.out⟩, ⟨by repeat (first | (with_reducible first | exact HB.out | apply below_alloc | apply pw_below_drewN | apply below_drew1 | refine below_set ?_ GE176.out | refine below_set ?_ GE184.out | refine below_set ?_ GE192.out) | exact HB.out)⟩⟩
                        · replace c23 := Bool.eq_false_iff.mpr c23
                          subst c23
                          have H1 : (some ((⟨#[]⟩ : ByteArray), 0, 0, 0, (⟨#[]⟩ : ByteArray), 32)) = some (r1, r2, r3, r4, r5, r6) := by rw [if_neg (show ¬ (false = true) by decide)] at H; exact H
                          clear H
                          have H := H1
                          clear H1
                          simp only [Option.some.injEq, Prod.mk.injEq] at H
                          obtain ⟨rfl, rfl, rfl, rfl, rfl, rfl⟩ := H
                          try go_wp2
                          have n0_ := Aside0.mk (Kd.R_drew HO_4.out)
                          have n1_ := Aside0.mk (blk_drew BK176.out)
                          have n2_ := Aside0.mk (blk_drew BK184.out)
                          have n3_ := Aside0.mk (below_drew1 HB.out)
                          clear HO_4
                          clear BK176
                          clear BK184
                          clear HB
                          have HO_4 := n0_
                          have BK176 := n1_
                          have BK184 := n2_
                          have HB := n3_
                          clear n0_ n1_ n2_ n3_
                          have p18 : 0 ≤ (x8_2 : Int) := of_decide_eq_true (by first | (with_reducible assumption) | assumption)
                          have q18 : x8_2 < (t181.size : Int) := of_decide_eq_true (by first | (with_reducible assumption) | assumption)
                          have hx18 := bt_at t181 x8_2
                          replace p18 := eq_true p18
                          replace q18 := eq_true q18
                          have p185 : 0 ≤ ((ji19) : Int) := of_decide_eq_true (by first | (with_reducible assumption) | assumption)
                          have q185 : (ji19) < (t177.length : Int) := of_decide_eq_true (by first | (with_reducible assumption) | assumption)
                          obtain ⟨ad185, e185, hx185_0⟩ := Kd.at_string (Kd.R_reads' HO_4.out).2.2 (ji19) p185 q185
                          obtain rfl : ad180 = ad185 := (by injection e185)
                          replace p185 := eq_true p185
                          replace q185 := eq_true q185
                          refine start_ (n := 16) (S := fun w' => w'.cell? ⟨gb184, 0, none⟩ = some (.string x185000_2) ∧ w'.cell? ⟨gb184, 1, none⟩ = some (.int .i64 x185001_2) ∧ w'.cell? ⟨gb184, 2, none⟩ = some (.int .i64 x185002_2) ∧ w'.cell? ⟨gb184, 3, none⟩ = some (.int .i64 x185003_2) ∧ w'.cell? ⟨gb184, 4, none⟩ = some (.string x185004_2) ∧ w'.cell? (ad180.add ((ji19)).toNat) = some (.string (rdOf ByteArray.empty t177 (ji19)))) (ds := []) #[false, false, false, false, false, false, false, false, false, false, false, false, false, false, false, false] (by kernel_rfl) rfl rfl ⟨(blk_cell BK184.out 0).trans rfl, (blk_cell BK184.out 1).trans rfl, (blk_cell BK184.out 2).trans rfl, (blk_cell BK184.out 3).trans rfl, (blk_cell BK184.out 4).trans rfl, hx185_0⟩ (fun hHeld => ?_); refine with_tabW oakumref21_Parse.tab9 oakumref21_Parse.bits9 (fun HT_ HW_ => ?_)
                          generalize wr.drew = w38 at HO_4 BK176 BK184 HB hx185_0 hHeld ⊢
                          refine pure_ (i := 1) (N := some 43) (v := ?_) (a' := ?_) #[false, true, false, false, false, false, false, false, false, false, false, false, false, false, false, false] rfl rfl (any_of HT_.out (by kernel_rfl)) (fun _ _ _ h => h) (Or.inl ⟨by rfl, ?_⟩) ?_ ?_
                          rotate_left
                          · intro w'
                            go_simp
                            with_reducible rfl
                          rotate_left
                          · simp only [Act.put, List.setIfInBounds_toArray, List.set_cons_zero, List.set_cons_succ, i64_w, i32_w]
                            rfl
                          refine pure_ (i := 2) (N := some 44) (v := ?_) (a' := ?_) #[false, true, true, false, false, false, false, false, false, false, false, false, false, false, false, false] rfl rfl (any_of HT_.out (by kernel_rfl)) (fun _ _ _ h => h) (Or.inl ⟨by rfl, ?_⟩) ?_ ?_
                          rotate_left
                          · intro w'
                            go_simp
                            with_reducible rfl
                          rotate_left
                          · simp only [Act.put, List.setIfInBounds_toArray, List.set_cons_zero, List.set_cons_succ, i64_w, i32_w]
                            rfl
                          refine pure_ (i := 4) (N := some 46) (v := ?_) (a' := ?_) #[false, true, true, false, true, false, false, false, false, false, false, false, false, false, false, false] rfl rfl (any_of HT_.out (by kernel_rfl)) (fun _ _ _ h => h) (Or.inl ⟨by rfl, ?_⟩) ?_ ?_
                          rotate_left
                          · intro w'
                            go_simp
                            with_reducible rfl
                          rotate_left
                          · simp only [Act.put, List.setIfInBounds_toArray, List.set_cons_zero, List.set_cons_succ, i64_w, i32_w]
                            rfl
                          refine pure_ (i := 5) (N := some 47) (v := ?_) (a' := ?_) #[false, true, true, false, true, true, false, false, false, false, false, false, false, false, false, false] rfl rfl (any_of HT_.out (by kernel_rfl)) (fun _ _ _ h => h) (Or.inl ⟨by rfl, ?_⟩) ?_ ?_
                          rotate_left
                          · intro w'
                            go_simp
                            with_reducible rfl
                          rotate_left
                          · simp only [Act.put, List.setIfInBounds_toArray, List.set_cons_zero, List.set_cons_succ, i64_w, i32_w]
                            rfl
                          refine pure_ (i := 6) (N := some 48) (v := ?_) (a' := ?_) #[false, true, true, false, true, true, true, false, false, false, false, false, false, false, false, false] rfl rfl (any_of HT_.out (by kernel_rfl)) (fun _ _ _ h => h) (Or.inl ⟨by rfl, ?_⟩) ?_ ?_
                          rotate_left
                          · intro w'
                            go_simp
                            with_reducible rfl
                          rotate_left
                          · simp only [Act.put, List.setIfInBounds_toArray, List.set_cons_zero, List.set_cons_succ, i64_w, i32_w]
                            rfl
                          refine pure_ (i := 7) (N := some 49) (v := ?_) (a' := ?_) #[false, true, true, false, true, true, true, true, false, false, false, false, false, false, false, false] rfl rfl (any_of HT_.out (by kernel_rfl)) (fun _ _ _ h => h) (Or.inl ⟨by rfl, ?_⟩) ?_ ?_
                          rotate_left
                          · intro w'
                            go_simp
                            with_reducible rfl
                          rotate_left
                          · simp only [Act.put, List.setIfInBounds_toArray, List.set_cons_zero, List.set_cons_succ, i64_w, i32_w]
                            rfl
                          refine take_ (i := 0) (N := some 42) (v := ?_) (a' := ?_) #[true, true, true, false, true, true, true, true, false, false, false, false, false, false, false, false] rfl rfl (take_ofW HT_.out HW_.out (by kernel_rfl)) (fun _ _ _ h => h) (Or.inl ⟨by rfl, ?_⟩) hHeld ?_ ?_
                          rotate_left
                          · rintro w' ⟨s0, s1, s2, s3, s4, s5⟩
                            go_simp
                            with_reducible rfl
                          rotate_left
                          · simp only [Act.put, List.setIfInBounds_toArray, List.set_cons_zero, List.set_cons_succ, i64_w, i32_w]
                            rfl
                          refine take_ (i := 3) (N := some 45) (v := ?_) (a' := ?_) #[true, true, true, true, true, true, true, true, false, false, false, false, false, false, false, false] rfl rfl (take_ofW HT_.out HW_.out (by kernel_rfl)) (fun _ _ _ h => h) (Or.inl ⟨by rfl, ?_⟩) hHeld ?_ ?_
                          rotate_left
                          · rintro w' ⟨s0, s1, s2, s3, s4, s5⟩
                            go_simp
                            with_reducible rfl
                          rotate_left
                          · simp only [Act.put, List.setIfInBounds_toArray, List.set_cons_zero, List.set_cons_succ, i64_w, i32_w]
                            rfl
                          refine take_ (i := 8) (N := some 50) (v := ?_) (a' := ?_) #[true, true, true, true, true, true, true, true, true, false, false, false, false, false, false, false] rfl rfl (take_ofW HT_.out HW_.out (by kernel_rfl)) (fun _ _ _ h => h) (Or.inl ⟨by rfl, ?_⟩) hHeld ?_ ?_
                          rotate_left
                          · rintro w' ⟨s0, s1, s2, s3, s4, s5⟩
                            go_simp
                            with_reducible rfl
                          rotate_left
                          · simp only [Act.put, List.setIfInBounds_toArray, List.set_cons_zero, List.set_cons_succ, i64_w, i32_w]
                            rfl
                          refine join_ (σ := Nat) 2 #[true, true, true, true, true, true, true, true, true, true, true, true, true, true, false, false] (fun s_ => [(51, .tuple #[.agg #[.string t186, .int .i64 t187, .int .i64 t188, .int .i64 t189, .string t190], .bool false]), (9, .pointer (some ⟨s_, 0, none⟩)), (41, .tuple #[.agg #[.string t186, .int .i64 t187, .int .i64 t188, .int .i64 t189, .string t190], .bool false]), (52, .agg #[.string t186, .int .i64 t187, .int .i64 t188, .int .i64 t189, .string t190]), (53, .bool false)]) (fun s_ w' => (w'.cell? ⟨gb184, 0, none⟩ = some (.string x185000_2) ∧ w'.cell? ⟨gb184, 1, none⟩ = some (.int .i64 x185001_2) ∧ w'.cell? ⟨gb184, 2, none⟩ = some (.int .i64 x185002_2) ∧ w'.cell? ⟨gb184, 3, none⟩ = some (.int .i64 x185003_2) ∧ w'.cell? ⟨gb184, 4, none⟩ = some (.string x185004_2) ∧ w'.cell? (ad180.add ((ji19)).toNat) = some (.string (rdOf ByteArray.empty t177 (ji19)))) ∧ (Kd.R Kd.string 9 w' w.heap.size (fun _ => True) (.slice (some ad180) t177.length co8) t177) ∧ (w'.heap[gb176]? = some (.cells #[.string x177000_2, .int .i64 x177001_2, .int .i64 x177002_2, .int .i64 x177003_2, .string x177004_2] 23 (0, 0))) ∧ (w'.heap[gb184]? = some (.cells #[.string x185000_2, .int .i64 x185001_2, .int .i64 x185002_2, .int .i64 x185003_2, .string x185004_2] 23 (0, 0))) ∧ (w'.heap[s_]? = some (.cells #[.string (⟨#[]⟩ : ByteArray), .int .i64 0, .int .i64 0, .int .i64 0, .string (⟨#[]⟩ : ByteArray)] 23 (0, 0))) ∧ (w.heap.size ≤ s_) ∧ (w.heap.size ≤ s_) ∧ (gb176 ≠ s_) ∧ (s_ ≠ gb176) ∧ (gb184 ≠ s_) ∧ (s_ ≠ gb184) ∧ (Below w.heap.size w w')) ?_ ?_
                          rotate_left
                          · intro hCont
                            refine two_ (i := 9) (j := 13) (Ni := some 51) (Nj := some 9) #[true, true, true, true, true, true, true, true, true, true, false, false, false, false, false, false] #[true, true, true, true, true, true, true, true, true, false, false, false, false, true, false, false] rfl rfl rfl rfl (two_of HT_.out (by kernel_rfl)) (by decide) (by decide) (fun K hK => ?_) (fun K hK => ?_)
                            · skip
                              refine goes_ Tryd.func21 (by kernel_rfl) rfl #[.agg #[.string x185000_2, .int .i64 x185001_2, .int .i64 x185002_2, .int .i64 x185003_2, .string x185004_2], .int .u8 (bt t181 x8_2), .string (rdOf ByteArray.empty t177 (ji19))] (by rfl) rfl rfl (by (try simp only [List.map_toArray, List.map_cons, List.map_nil]); first | done | (simp only [hji19]; rfl) | rfl | (simp only [List.length_drop, List.length_take]; rfl)) ?_
                              with_reducible refine (oakumref21_take.calls k2 x185000_2 x185001_2 x185002_2 x185003_2 x185004_2 (bt t181 x8_2) (rdOf ByteArray.empty t177 (ji19)) t186 t187 t188 t189 t190 false _ A22.out).mono ?_
                              rintro e w39 ⟨rfl, hb⟩
                              have HS5_ := (hb.cell (World.block_lt_of_cell? _ _ (hHeld.2.2.2.2.2))).trans (hHeld.2.2.2.2.2)
                              refine ⟨_, rfl, ?_⟩
                              have n0_ := Aside0.mk (Kd.R_below (by (with_reducible repeat (first | apply Kd.R_alloc | apply Kd.R_drewN | apply Kd.R_drew)); exact HO_4.out) hb)
                              have n1_ := Aside0.mk (blk_below (g := gb176) (o := .cells #[.string x177000_2, .int .i64 x177001_2, .int .i64 x177002_2, .int .i64 x177003_2, .string x177004_2] 23 (0, 0)) (by (with_reducible repeat (first | refine blk_drewN ?_ _ | refine blk_drew ?_ | refine blk_alloc ?_ _)); exact BK176.out) hb)
                              have n2_ := Aside0.mk (blk_below (g := gb184) (o := .cells #[.string x185000_2, .int .i64 x185001_2, .int .i64 x185002_2, .int .i64 x185003_2, .string x185004_2] 23 (0, 0)) (by (with_reducible repeat (first | refine blk_drewN ?_ _ | refine blk_drew ?_ | refine blk_alloc ?_ _)); exact BK184.out) hb)
                              have n3_ := Aside0.mk (below_step (by repeat (first | (with_reducible first | exact HB.out | apply below_alloc | apply pw_below_drewN | apply below_drew1 | refine below_set ?_ GE176.out | refine below_set ?_ GE184.out) | exact HB.out)) hb)
                              clear HO_4
                              clear BK176
                              clear BK184
                              clear HB
                              have HO_4 := n0_
                              have BK176 := n1_
                              have BK184 := n2_
                              have HB := n3_
                              clear n0_ n1_ n2_ n3_
                              (try clear hb)
                              (try clear hb2)
                              (try clear hk)
                              (try clear hi)
                              refine hK.out _ _ ⟨(blk_cell BK184.out 0).trans rfl, (blk_cell BK184.out 1).trans rfl, (blk_cell BK184.out 2).trans rfl, (blk_cell BK184.out 3).trans rfl, (blk_cell BK184.out 4).trans rfl, HS5_⟩ (fun hHeld => ?_)
                              clear hK K
                              refine norm_ (a' := ?_) ?_ ?_
                              rotate_left
                              · show Act.put _ (some 51) _ = _
                                simp only [Act.put, List.setIfInBounds_toArray, List.set_cons_zero, List.set_cons_succ, i64_w, i32_w]
                                rfl
                              refine pure_ (i := 10) (N := some 41) (v := ?_) (a' := ?_) #[true, true, true, true, true, true, true, true, true, true, true, false, false, false, false, false] rfl rfl (any_of HT_.out (by kernel_rfl)) (fun _ _ _ h => h) (Or.inl ⟨by rfl, ?_⟩) ?_ ?_
                              rotate_left
                              · intro w'
                                go_simp
                                with_reducible rfl
                              rotate_left
                              · simp only [Act.put, List.setIfInBounds_toArray, List.set_cons_zero, List.set_cons_succ, i64_w, i32_w]
                                rfl
                              refine pure_ (i := 11) (N := some 52) (v := ?_) (a' := ?_) #[true, true, true, true, true, true, true, true, true, true, true, true, false, false, false, false] rfl rfl (any_of HT_.out (by kernel_rfl)) (fun _ _ _ h => h) (Or.inl ⟨by rfl, ?_⟩) ?_ ?_
                              rotate_left
                              · intro w'
                                go_simp
                                with_reducible rfl
                              rotate_left
                              · simp only [Act.put, List.setIfInBounds_toArray, List.set_cons_zero, List.set_cons_succ, i64_w, i32_w]
                                rfl
                              refine pure_ (i := 12) (N := some 53) (v := ?_) (a' := ?_) #[true, true, true, true, true, true, true, true, true, true, true, true, true, false, false, false] rfl rfl (any_of HT_.out (by kernel_rfl)) (fun _ _ _ h => h) (Or.inl ⟨by rfl, ?_⟩) ?_ ?_
                              rotate_left
                              · intro w'
                                go_simp
                                with_reducible rfl
                              rotate_left
                              · simp only [Act.put, List.setIfInBounds_toArray, List.set_cons_zero, List.set_cons_succ, i64_w, i32_w]
                                rfl
                              refine one_ (i := 13) (N := some 9) #[true, true, true, true, true, true, true, true, true, true, true, true, true, true, false, false] rfl rfl (one_of HT_.out (by kernel_rfl)) (by decide) (fun K hK => ?_)
                              refine box_step ?hg (N := 9) ?hd (cs := #[.string (⟨#[]⟩ : ByteArray), .int .i64 0, .int .i64 0, .int .i64 0, .string (⟨#[]⟩ : ByteArray)]) (t := 23) ?hr ?_; (case hd => rfl); (case hg => rfl); (case hr => first | (go_simp; done) | (go_simp; rfl))
                              intro gb192 hg w40 hbox hb
                              have HS5_ := (hb.cell (World.block_lt_of_cell? _ _ (hHeld.2.2.2.2.2))).trans (hHeld.2.2.2.2.2)
                              have n0_ := Aside0.mk (Kd.R_below (by (with_reducible repeat (first | apply Kd.R_alloc | apply Kd.R_drewN | apply Kd.R_drew)); exact HO_4.out) hb)
                              have n1_ := Aside0.mk (blk_below (g := gb176) (o := .cells #[.string x177000_2, .int .i64 x177001_2, .int .i64 x177002_2, .int .i64 x177003_2, .string x177004_2] 23 (0, 0)) (by (with_reducible repeat (first | refine blk_drewN ?_ _ | refine blk_drew ?_ | refine blk_alloc ?_ _)); exact BK176.out) hb)
                              have n2_ := Aside0.mk (blk_below (g := gb184) (o := .cells #[.string x185000_2, .int .i64 x185001_2, .int .i64 x185002_2, .int .i64 x185003_2, .string x185004_2] 23 (0, 0)) (by (with_reducible repeat (first | refine blk_drewN ?_ _ | refine blk_drew ?_ | refine blk_alloc ?_ _)); exact BK184.out) hb)
                              have n3_ := Aside0.mk (below_step (by repeat (first | (with_reducible first | exact HB.out | apply below_alloc | apply pw_below_drewN | apply below_drew1 | refine below_set ?_ GE176.out | refine below_set ?_ GE184.out) | exact HB.out)) hb)
                              have n4_ := Aside0.mk (hbox)
                              have n5_ := Aside0.mk ((by rw [hg]; exact (below_size (by repeat (first | (with_reducible first | exact HB.out | apply below_alloc | apply pw_below_drewN | apply below_drew1 | refine below_set ?_ GE176.out | refine below_set ?_ GE184.out) | exact HB.out))) : w.heap.size ≤ gb192))
                              have n6_ := Aside0.mk ((by rw [hg]; exact (below_size (by repeat (first | (with_reducible first | exact HB.out | apply below_alloc | apply pw_below_drewN | apply below_drew1 | refine below_set ?_ GE176.out | refine below_set ?_ GE184.out) | exact HB.out))) : w.heap.size ≤ gb192))
                              have n7_ := Aside0.mk ((by rw [hg]; exact Nat.ne_of_lt (blk_lt (g := gb176) (o := .cells #[.string x177000_2, .int .i64 x177001_2, .int .i64 x177002_2, .int .i64 x177003_2, .string x177004_2] 23 (0, 0)) (by (with_reducible repeat (first | refine blk_drewN ?_ _ | refine blk_drew ?_ | refine blk_alloc ?_ _)); exact BK176.out)) : gb176 ≠ gb192))
                              have n8_ := Aside0.mk ((by rw [hg]; exact Nat.ne_of_gt (blk_lt (g := gb176) (o := .cells #[.string x177000_2, .int .i64 x177001_2, .int .i64 x177002_2, .int .i64 x177003_2, .string x177004_2] 23 (0, 0)) (by (with_reducible repeat (first | refine blk_drewN ?_ _ | refine blk_drew ?_ | refine blk_alloc ?_ _)); exact BK176.out)) : gb192 ≠ gb176))
                              have n9_ := Aside0.mk ((by rw [hg]; exact Nat.ne_of_lt (blk_lt (g := gb184) (o := .cells #[.string x185000_2, .int .i64 x185001_2, .int .i64 x185002_2, .int .i64 x185003_2, .string x185004_2] 23 (0, 0)) (by (with_reducible repeat (first | refine blk_drewN ?_ _ | refine blk_drew ?_ | refine blk_alloc ?_ _)); exact BK184.out)) : gb184 ≠ gb192))
                              have n10_ := Aside0.mk ((by rw [hg]; exact Nat.ne_of_gt (blk_lt (g := gb184) (o := .cells #[.string x185000_2, .int .i64 x185001_2, .int .i64 x185002_2, .int .i64 x185003_2, .string x185004_2] 23 (0, 0)) (by (with_reducible repeat (first | refine blk_drewN ?_ _ | refine blk_drew ?_ | refine blk_alloc ?_ _)); exact BK184.out)) : gb192 ≠ gb184))
                              clear HO_4
                              clear BK176
                              clear BK184
                              clear HB
                              have HO_4 := n0_
                              have BK176 := n1_
                              have BK184 := n2_
                              have HB := n3_
                              have BK192 := n4_
                              have GW192 := n5_
                              have GE192 := n6_
                              have NB176_192 := n7_
                              have NB192_176 := n8_
                              have NB184_192 := n9_
                              have NB192_184 := n10_
                              clear n0_ n1_ n2_ n3_ n4_ n5_ n6_ n7_ n8_ n9_ n10_
                              clear hb hbox hg
                              refine hK.out _ _ ⟨(blk_cell BK184.out 0).trans rfl, (blk_cell BK184.out 1).trans rfl, (blk_cell BK184.out 2).trans rfl, (blk_cell BK184.out 3).trans rfl, (blk_cell BK184.out 4).trans rfl, HS5_⟩ (fun hHeld => ?_)
                              clear hK K
                              refine norm_ (a' := ?_) ?_ ?_
                              rotate_left
                              · show Act.put _ (some 9) _ = _
                                simp only [Act.put, List.setIfInBounds_toArray, List.set_cons_zero, List.set_cons_succ, i64_w, i32_w]
                                rfl
                              exact norm_ (by simp only [putAll, Act.put, List.setIfInBounds_toArray, List.set_cons_zero, List.set_cons_succ]) (hCont (gb192) _ ⟨hHeld, (by (with_reducible repeat (first | apply Kd.R_alloc | apply Kd.R_drewN | apply Kd.R_drew)); exact HO_4.out), (by (with_reducible repeat (first | refine blk_drewN ?_ _ | refine blk_drew ?_ | refine blk_alloc ?_ _)); exact BK176.out), (by (with_reducible repeat (first | refine blk_drewN ?_ _ | refine blk_drew ?_ | refine blk_alloc ?_ _)); exact BK184.out), (by (with_reducible repeat (first | refine blk_drewN ?_ _ | refine blk_drew ?_ | refine blk_alloc ?_ _)); exact BK192.out), GW192.out, GE192.out, NB176_192.out, NB192_176.out, NB184_192.out, NB192_184.out, (by repeat (first | (with_reducible first | exact HB.out | apply below_alloc | apply pw_below_drewN | apply below_drew1 | refine below_set ?_ GE176.out | refine below_set ?_ GE184.out | refine below_set ?_ GE192.out) | exact HB.out))⟩)
                            · skip
                              refine box_step ?hg (N := 9) ?hd (cs := #[.string (⟨#[]⟩ : ByteArray), .int .i64 0, .int .i64 0, .int .i64 0, .string (⟨#[]⟩ : ByteArray)]) (t := 23) ?hr ?_; (case hd => rfl); (case hg => rfl); (case hr => first | (go_simp; done) | (go_simp; rfl))
                              intro gb192 hg w39 hbox hb
                              have HS5_ := (hb.cell (World.block_lt_of_cell? _ _ (hHeld.2.2.2.2.2))).trans (hHeld.2.2.2.2.2)
                              have n0_ := Aside0.mk (Kd.R_below (by (with_reducible repeat (first | apply Kd.R_alloc | apply Kd.R_drewN | apply Kd.R_drew)); exact HO_4.out) hb)
                              have n1_ := Aside0.mk (blk_below (g := gb176) (o := .cells #[.string x177000_2, .int .i64 x177001_2, .int .i64 x177002_2, .int .i64 x177003_2, .string x177004_2] 23 (0, 0)) (by (with_reducible repeat (first | refine blk_drewN ?_ _ | refine blk_drew ?_ | refine blk_alloc ?_ _)); exact BK176.out) hb)
                              have n2_ := Aside0.mk (blk_below (g := gb184) (o := .cells #[.string x185000_2, .int .i64 x185001_2, .int .i64 x185002_2, .int .i64 x185003_2, .string x185004_2] 23 (0, 0)) (by (with_reducible repeat (first | refine blk_drewN ?_ _ | refine blk_drew ?_ | refine blk_alloc ?_ _)); exact BK184.out) hb)
                              have n3_ := Aside0.mk (below_step (by repeat (first | (with_reducible first | exact HB.out | apply below_alloc | apply pw_below_drewN | apply below_drew1 | refine below_set ?_ GE176.out | refine below_set ?_ GE184.out) | exact HB.out)) hb)
                              have n4_ := Aside0.mk (hbox)
                              have n5_ := Aside0.mk ((by rw [hg]; exact (below_size (by repeat (first | (with_reducible first | exact HB.out | apply below_alloc | apply pw_below_drewN | apply below_drew1 | refine below_set ?_ GE176.out | refine below_set ?_ GE184.out) | exact HB.out))) : w.heap.size ≤ gb192))
                              have n6_ := Aside0.mk ((by rw [hg]; exact (below_size (by repeat (first | (with_reducible first | exact HB.out | apply below_alloc | apply pw_below_drewN | apply below_drew1 | refine below_set ?_ GE176.out | refine below_set ?_ GE184.out) | exact HB.out))) : w.heap.size ≤ gb192))
                              have n7_ := Aside0.mk ((by rw [hg]; exact Nat.ne_of_lt (blk_lt (g := gb176) (o := .cells #[.string x177000_2, .int .i64 x177001_2, .int .i64 x177002_2, .int .i64 x177003_2, .string x177004_2] 23 (0, 0)) (by (with_reducible repeat (first | refine blk_drewN ?_ _ | refine blk_drew ?_ | refine blk_alloc ?_ _)); exact BK176.out)) : gb176 ≠ gb192))
                              have n8_ := Aside0.mk ((by rw [hg]; exact Nat.ne_of_gt (blk_lt (g := gb176) (o := .cells #[.string x177000_2, .int .i64 x177001_2, .int .i64 x177002_2, .int .i64 x177003_2, .string x177004_2] 23 (0, 0)) (by (with_reducible repeat (first | refine blk_drewN ?_ _ | refine blk_drew ?_ | refine blk_alloc ?_ _)); exact BK176.out)) : gb192 ≠ gb176))
                              have n9_ := Aside0.mk ((by rw [hg]; exact Nat.ne_of_lt (blk_lt (g := gb184) (o := .cells #[.string x185000_2, .int .i64 x185001_2, .int .i64 x185002_2, .int .i64 x185003_2, .string x185004_2] 23 (0, 0)) (by (with_reducible repeat (first | refine blk_drewN ?_ _ | refine blk_drew ?_ | refine blk_alloc ?_ _)); exact BK184.out)) : gb184 ≠ gb192))
                              have n10_ := Aside0.mk ((by rw [hg]; exact Nat.ne_of_gt (blk_lt (g := gb184) (o := .cells #[.string x185000_2, .int .i64 x185001_2, .int .i64 x185002_2, .int .i64 x185003_2, .string x185004_2] 23 (0, 0)) (by (with_reducible repeat (first | refine blk_drewN ?_ _ | refine blk_drew ?_ | refine blk_alloc ?_ _)); exact BK184.out)) : gb192 ≠ gb184))
                              clear HO_4
                              clear BK176
                              clear BK184
                              clear HB
                              have HO_4 := n0_
                              have BK176 := n1_
                              have BK184 := n2_
                              have HB := n3_
                              have BK192 := n4_
                              have GW192 := n5_
                              have GE192 := n6_
                              have NB176_192 := n7_
                              have NB192_176 := n8_
                              have NB184_192 := n9_
                              have NB192_184 := n10_
                              clear n0_ n1_ n2_ n3_ n4_ n5_ n6_ n7_ n8_ n9_ n10_
                              clear hb hbox hg
                              refine hK.out _ _ ⟨(blk_cell BK184.out 0).trans rfl, (blk_cell BK184.out 1).trans rfl, (blk_cell BK184.out 2).trans rfl, (blk_cell BK184.out 3).trans rfl, (blk_cell BK184.out 4).trans rfl, HS5_⟩ (fun hHeld => ?_)
                              clear hK K
                              refine norm_ (a' := ?_) ?_ ?_
                              rotate_left
                              · show Act.put _ (some 9) _ = _
                                simp only [Act.put, List.setIfInBounds_toArray, List.set_cons_zero, List.set_cons_succ, i64_w, i32_w]
                                rfl
                              refine one_ (i := 9) (N := some 51) #[true, true, true, true, true, true, true, true, true, true, false, false, false, true, false, false] rfl rfl (one_of HT_.out (by kernel_rfl)) (by decide) (fun K hK => ?_)
                              refine goes_ Tryd.func21 (by kernel_rfl) rfl #[.agg #[.string x185000_2, .int .i64 x185001_2, .int .i64 x185002_2, .int .i64 x185003_2, .string x185004_2], .int .u8 (bt t181 x8_2), .string (rdOf ByteArray.empty t177 (ji19))] (by rfl) rfl rfl (by (try simp only [List.map_toArray, List.map_cons, List.map_nil]); first | done | (simp only [hji19]; rfl) | rfl | (simp only [List.length_drop, List.length_take]; rfl)) ?_
                              with_reducible refine (oakumref21_take.calls k2 x185000_2 x185001_2 x185002_2 x185003_2 x185004_2 (bt t181 x8_2) (rdOf ByteArray.empty t177 (ji19)) t186 t187 t188 t189 t190 false _ A22.out).mono ?_
                              rintro e w40 ⟨rfl, hb⟩
                              have HS5_ := (hb.cell (World.block_lt_of_cell? _ _ (hHeld.2.2.2.2.2))).trans (hHeld.2.2.2.2.2)
                              refine ⟨_, rfl, ?_⟩
                              have n0_ := Aside0.mk (Kd.R_below (by (with_reducible repeat (first | apply Kd.R_alloc | apply Kd.R_drewN | apply Kd.R_drew)); exact HO_4.out) hb)
                              have n1_ := Aside0.mk (blk_below (g := gb176) (o := .cells #[.string x177000_2, .int .i64 x177001_2, .int .i64 x177002_2, .int .i64 x177003_2, .string x177004_2] 23 (0, 0)) (by (with_reducible repeat (first | refine blk_drewN ?_ _ | refine blk_drew ?_ | refine blk_alloc ?_ _)); exact BK176.out) hb)
                              have n2_ := Aside0.mk (blk_below (g := gb184) (o := .cells #[.string x185000_2, .int .i64 x185001_2, .int .i64 x185002_2, .int .i64 x185003_2, .string x185004_2] 23 (0, 0)) (by (with_reducible repeat (first | refine blk_drewN ?_ _ | refine blk_drew ?_ | refine blk_alloc ?_ _)); exact BK184.out) hb)
                              have n3_ := Aside0.mk (blk_below (g := gb192) (o := .cells #[.string (⟨#[]⟩ : ByteArray), .int .i64 0, .int .i64 0, .int .i64 0, .string (⟨#[]⟩ : ByteArray)] 23 (0, 0)) (by (with_reducible repeat (first | refine blk_drewN ?_ _ | refine blk_drew ?_ | refine blk_alloc ?_ _)); exact BK192.out) hb)
                              have n4_ := Aside0.mk (below_step (by repeat (first | (with_reducible first | exact HB.out | apply below_alloc | apply pw_below_drewN | apply below_drew1 | refine below_set ?_ GE176.out | refine below_set ?_ GE184.out | refine below_set ?_ GE192.out) | exact HB.out)) hb)
                              clear HO_4
                              clear BK176
                              clear BK184
                              clear BK192
                              clear HB
                              have HO_4 := n0_
                              have BK176 := n1_
                              have BK184 := n2_
                              have BK192 := n3_
                              have HB := n4_
                              clear n0_ n1_ n2_ n3_ n4_
                              (try clear hb)
                              (try clear hb2)
                              (try clear hk)
                              (try clear hi)
                              refine hK.out _ _ ⟨(blk_cell BK184.out 0).trans rfl, (blk_cell BK184.out 1).trans rfl, (blk_cell BK184.out 2).trans rfl, (blk_cell BK184.out 3).trans rfl, (blk_cell BK184.out 4).trans rfl, HS5_⟩ (fun hHeld => ?_)
                              clear hK K
                              refine norm_ (a' := ?_) ?_ ?_
                              rotate_left
                              · show Act.put _ (some 51) _ = _
                                simp only [Act.put, List.setIfInBounds_toArray, List.set_cons_zero, List.set_cons_succ, i64_w, i32_w]
                                rfl
                              refine pure_ (i := 10) (N := some 41) (v := ?_) (a' := ?_) #[true, true, true, true, true, true, true, true, true, true, true, false, false, true, false, false] rfl rfl (any_of HT_.out (by kernel_rfl)) (fun _ _ _ h => h) (Or.inl ⟨by rfl, ?_⟩) ?_ ?_
                              rotate_left
                              · intro w'
                                go_simp
                                with_reducible rfl
                              rotate_left
                              · simp only [Act.put, List.setIfInBounds_toArray, List.set_cons_zero, List.set_cons_succ, i64_w, i32_w]
                                rfl
                              refine pure_ (i := 11) (N := some 52) (v := ?_) (a' := ?_) #[true, true, true, true, true, true, true, true, true, true, true, true, false, true, false, false] rfl rfl (any_of HT_.out (by kernel_rfl)) (fun _ _ _ h => h) (Or.inl ⟨by rfl, ?_⟩) ?_ ?_
                              rotate_left
                              · intro w'
                                go_simp
                                with_reducible rfl
                              rotate_left
                              · simp only [Act.put, List.setIfInBounds_toArray, List.set_cons_zero, List.set_cons_succ, i64_w, i32_w]
                                rfl
                              refine pure_ (i := 12) (N := some 53) (v := ?_) (a' := ?_) #[true, true, true, true, true, true, true, true, true, true, true, true, true, true, false, false] rfl rfl (any_of HT_.out (by kernel_rfl)) (fun _ _ _ h => h) (Or.inl ⟨by rfl, ?_⟩) ?_ ?_
                              rotate_left
                              · intro w'
                                go_simp
                                with_reducible rfl
                              rotate_left
                              · simp only [Act.put, List.setIfInBounds_toArray, List.set_cons_zero, List.set_cons_succ, i64_w, i32_w]
                                rfl
                              exact norm_ (by simp only [putAll, Act.put, List.setIfInBounds_toArray, List.set_cons_zero, List.set_cons_succ]) (hCont (gb192) _ ⟨hHeld, (by (with_reducible repeat (first | apply Kd.R_alloc | apply Kd.R_drewN | apply Kd.R_drew)); exact HO_4.out), (by (with_reducible repeat (first | refine blk_drewN ?_ _ | refine blk_drew ?_ | refine blk_alloc ?_ _)); exact BK176.out), (by (with_reducible repeat (first | refine blk_drewN ?_ _ | refine blk_drew ?_ | refine blk_alloc ?_ _)); exact BK184.out), (by (with_reducible repeat (first | refine blk_drewN ?_ _ | refine blk_drew ?_ | refine blk_alloc ?_ _)); exact BK192.out), GW192.out, GE192.out, NB176_192.out, NB192_176.out, NB184_192.out, NB192_184.out, (by repeat (first | (with_reducible first | exact HB.out | apply below_alloc | apply pw_below_drewN | apply below_drew1 | refine below_set ?_ GE176.out | refine below_set ?_ GE184.out | refine below_set ?_ GE192.out) | exact HB.out))⟩)
                          rintro gb192 w41 ⟨hS_, h0_, h1_, h2_, h3_, h4_, h5_, h6_, h7_, h8_, h9_, h10_⟩
                          have n0_ : Aside0 (Kd.R Kd.string 9 w41 w.heap.size (fun _ => True) (.slice (some ad180) t177.length co8) t177) := ⟨h0_⟩
                          have n1_ : Aside0 (w41.heap[gb176]? = some (.cells #[.string x177000_2, .int .i64 x177001_2, .int .i64 x177002_2, .int .i64 x177003_2, .string x177004_2] 23 (0, 0))) := ⟨h1_⟩
                          have n2_ : Aside0 (w41.heap[gb184]? = some (.cells #[.string x185000_2, .int .i64 x185001_2, .int .i64 x185002_2, .int .i64 x185003_2, .string x185004_2] 23 (0, 0))) := ⟨h2_⟩
                          have n3_ : Aside0 (w41.heap[gb192]? = some (.cells #[.string (⟨#[]⟩ : ByteArray), .int .i64 0, .int .i64 0, .int .i64 0, .string (⟨#[]⟩ : ByteArray)] 23 (0, 0))) := ⟨h3_⟩
                          have n4_ : Aside0 (w.heap.size ≤ gb192) := ⟨h4_⟩
                          have n5_ : Aside0 (w.heap.size ≤ gb192) := ⟨h5_⟩
                          have n6_ : Aside0 (gb176 ≠ gb192) := ⟨h6_⟩
                          have n7_ : Aside0 (gb192 ≠ gb176) := ⟨h7_⟩
                          have n8_ : Aside0 (gb184 ≠ gb192) := ⟨h8_⟩
                          have n9_ : Aside0 (gb192 ≠ gb184) := ⟨h9_⟩
                          have n10_ : Aside0 (Below w.heap.size w w41) := ⟨h10_⟩
                          clear HO_4
                          clear BK176
                          clear BK184
                          clear HB
                          clear h0_ h1_ h2_ h3_ h4_ h5_ h6_ h7_ h8_ h9_ h10_
                          have HO_4 := n0_
                          have BK176 := n1_
                          have BK184 := n2_
                          have BK192 := n3_
                          have GW192 := n4_
                          have GE192 := n5_
                          have NB176_192 := n6_
                          have NB192_176 := n7_
                          have NB184_192 := n8_
                          have NB192_184 := n9_
                          have HB := n10_
                          clear n0_ n1_ n2_ n3_ n4_ n5_ n6_ n7_ n8_ n9_ n10_
                          have hHeld : w41.cell? ⟨gb184, 0, none⟩ = some (.string x185000_2) ∧ w41.cell? ⟨gb184, 1, none⟩ = some (.int .i64 x185001_2) ∧ w41.cell? ⟨gb184, 2, none⟩ = some (.int .i64 x185002_2) ∧ w41.cell? ⟨gb184, 3, none⟩ = some (.int .i64 x185003_2) ∧ w41.cell? ⟨gb184, 4, none⟩ = some (.string x185004_2) ∧ w41.cell? (ad180.add ((ji19)).toNat) = some (.string (rdOf ByteArray.empty t177 (ji19))) := hS_
                          refine norm_ (a' := ?_) ?_ ?_
                          rotate_left
                          · simp only [putAll, Act.put, List.setIfInBounds_toArray, List.set_cons_zero, List.set_cons_succ]
                            rfl
                          refine one_ (i := 14) (N := none) #[true, true, true, true, true, true, true, true, true, true, true, true, true, true, true, false] rfl rfl (one_of HT_.out (by kernel_rfl)) (by decide) (fun K hK => ?_)
                          have hs42 : w41.cell? ⟨gb192, 0, none⟩ = some (.string (⟨#[]⟩ : ByteArray)) := (blk_cell BK192.out 0).trans rfl
                          have hfs42 := blk_frozen BK192.out 0
                          have hns42_0 := NB176_192.out
                          have hns42_1 := NB184_192.out
                          have hms42_0 := NB192_176.out
                          have hms42_1 := NB192_184.out
                          have hs43 : w41.cell? ⟨gb192, 1, none⟩ = some (.int .i64 0) := (blk_cell BK192.out 1).trans rfl
                          have hfs43 := blk_frozen BK192.out 1
                          have hns43_0 := NB176_192.out
                          have hns43_1 := NB184_192.out
                          have hms43_0 := NB192_176.out
                          have hms43_1 := NB192_184.out
                          have hs44 : w41.cell? ⟨gb192, 2, none⟩ = some (.int .i64 0) := (blk_cell BK192.out 2).trans rfl
                          have hfs44 := blk_frozen BK192.out 2
                          have hns44_0 := NB176_192.out
                          have hns44_1 := NB184_192.out
                          have hms44_0 := NB192_176.out
                          have hms44_1 := NB192_184.out
                          have hs45 : w41.cell? ⟨gb192, 3, none⟩ = some (.int .i64 0) := (blk_cell BK192.out 3).trans rfl
                          have hfs45 := blk_frozen BK192.out 3
                          have hns45_0 := NB176_192.out
                          have hns45_1 := NB184_192.out
                          have hms45_0 := NB192_176.out
                          have hms45_1 := NB192_184.out
                          have hs46 : w41.cell? ⟨gb192, 4, none⟩ = some (.string (⟨#[]⟩ : ByteArray)) := (blk_cell BK192.out 4).trans rfl
                          have hfs46 := blk_frozen BK192.out 4
                          have hns46_0 := NB176_192.out
                          have hns46_1 := NB184_192.out
                          have hms46_0 := NB192_176.out
                          have hms46_1 := NB192_184.out
                          refine skip_ (w1 := ?_) (by rfl) rfl ?_ ?_
                          rotate_left
                          · go_simp
                            rfl
                          refine hK.out _ _ ⟨((cell_far (p := ⟨gb192, _, none⟩) NB184_192.out _).trans (((cell_far (p := ⟨gb192, _, none⟩) NB184_192.out _).trans (((cell_far (p := ⟨gb192, _, none⟩) NB184_192.out _).trans (((cell_far (p := ⟨gb192, _, none⟩) NB184_192.out _).trans (((cell_far (p := ⟨gb192, _, none⟩) NB184_192.out _).trans (hHeld.1)))))))))), ((cell_far (p := ⟨gb192, _, none⟩) NB184_192.out _).trans (((cell_far (p := ⟨gb192, _, none⟩) NB184_192.out _).trans (((cell_far (p := ⟨gb192, _, none⟩) NB184_192.out _).trans (((cell_far (p := ⟨gb192, _, none⟩) NB184_192.out _).trans (((cell_far (p := ⟨gb192, _, none⟩) NB184_192.out _).trans (hHeld.2.1)))))))))), ((cell_far (p := ⟨gb192, _, none⟩) NB184_192.out _).trans (((cell_far (p := ⟨gb192, _, none⟩) NB184_192.out _).trans (((cell_far (p := ⟨gb192, _, none⟩) NB184_192.out _).trans (((cell_far (p := ⟨gb192, _, none⟩) NB184_192.out _).trans (((cell_far (p := ⟨gb192, _, none⟩) NB184_192.out _).trans (hHeld.2.2.1)))))))))), ((cell_far (p := ⟨gb192, _, none⟩) NB184_192.out _).trans (((cell_far (p := ⟨gb192, _, none⟩) NB184_192.out _).trans (((cell_far (p := ⟨gb192, _, none⟩) NB184_192.out _).trans (((cell_far (p := ⟨gb192, _, none⟩) NB184_192.out _).trans (((cell_far (p := ⟨gb192, _, none⟩) NB184_192.out _).trans (hHeld.2.2.2.1)))))))))), ((cell_far (p := ⟨gb192, _, none⟩) NB184_192.out _).trans (((cell_far (p := ⟨gb192, _, none⟩) NB184_192.out _).trans (((cell_far (p := ⟨gb192, _, none⟩) NB184_192.out _).trans (((cell_far (p := ⟨gb192, _, none⟩) NB184_192.out _).trans (((cell_far (p := ⟨gb192, _, none⟩) NB184_192.out _).trans (hHeld.2.2.2.2.1)))))))))), ((cell_far (p := ⟨gb192, _, none⟩) (by first | exact Kd.own_blk (Kd.R_ne HO_4.out BK192.out (by decide)) | (rw [add_block]; exact Kd.own_blk (Kd.R_ne HO_4.out BK192.out (by decide))) | (show (Addr.add _ _).block ≠ _; rw [add_block]; exact Kd.own_blk (Kd.R_ne HO_4.out BK192.out (by decide))) | (dsimp only; exact Kd.own_blk (Kd.R_ne HO_4.out BK192.out (by decide)))) _).trans (((cell_far (p := ⟨gb192, _, none⟩) (by first | exact Kd.own_blk (Kd.R_ne HO_4.out BK192.out (by decide)) | (rw [add_block]; exact Kd.own_blk (Kd.R_ne HO_4.out BK192.out (by decide))) | (show (Addr.add _ _).block ≠ _; rw [add_block]; exact Kd.own_blk (Kd.R_ne HO_4.out BK192.out (by decide))) | (dsimp only; exact Kd.own_blk (Kd.R_ne HO_4.out BK192.out (by decide)))) _).trans (((cell_far (p := ⟨gb192, _, none⟩) (by first | exact Kd.own_blk (Kd.R_ne HO_4.out BK192.out (by decide)) | (rw [add_block]; exact Kd.own_blk (Kd.R_ne HO_4.out BK192.out (by decide))) | (show (Addr.add _ _).block ≠ _; rw [add_block]; exact Kd.own_blk (Kd.R_ne HO_4.out BK192.out (by decide))) | (dsimp only; exact Kd.own_blk (Kd.R_ne HO_4.out BK192.out (by decide)))) _).trans (((cell_far (p := ⟨gb192, _, none⟩) (by first | exact Kd.own_blk (Kd.R_ne HO_4.out BK192.out (by decide)) | (rw [add_block]; exact Kd.own_blk (Kd.R_ne HO_4.out BK192.out (by decide))) | (show (Addr.add _ _).block ≠ _; rw [add_block]; exact Kd.own_blk (Kd.R_ne HO_4.out BK192.out (by decide))) | (dsimp only; exact Kd.own_blk (Kd.R_ne HO_4.out BK192.out (by decide)))) _).trans (((cell_far (p := ⟨gb192, _, none⟩) (by first | exact Kd.own_blk (Kd.R_ne HO_4.out BK192.out (by decide)) | (rw [add_block]; exact Kd.own_blk (Kd.R_ne HO_4.out BK192.out (by decide))) | (show (Addr.add _ _).block ≠ _; rw [add_block]; exact Kd.own_blk (Kd.R_ne HO_4.out BK192.out (by decide))) | (dsimp only; exact Kd.own_blk (Kd.R_ne HO_4.out BK192.out (by decide)))) _).trans (hHeld.2.2.2.2.2))))))))))⟩ (fun hHeld => ?_)
                          clear hK K
                          refine pure_ (i := 15) (N := some 10) (v := ?_) (a' := ?_) #[true, true, true, true, true, true, true, true, true, true, true, true, true, true, true, true] rfl rfl (any_of HT_.out (by kernel_rfl)) (fun _ _ _ h => h) (Or.inl ⟨by rfl, ?_⟩) ?_ ?_
                          rotate_left
                          · intro w'
                            go_simp
                            with_reducible rfl
                          rotate_left
                          · simp only [Act.put, List.setIfInBounds_toArray, List.set_cons_zero, List.set_cons_succ, i64_w, i32_w]
                            rfl
                          refine done_ (done_of HT_.out (by kernel_rfl)) ?_
                          have hnb47 := NB176_184.out
                          have hnc47 := NB184_176.out
                          have hnb48 := NB176_192.out
                          have hnc48 := NB192_176.out
                          have hcz49_0 : w41.cell? ⟨gb176, 0, none⟩ = some (.string x177000_2) := (blk_cell BK176.out 0).trans rfl
                          have hcz49_1 : w41.cell? ⟨gb176, 1, none⟩ = some (.int .i64 x177001_2) := (blk_cell BK176.out 1).trans rfl
                          have hcz49_2 : w41.cell? ⟨gb176, 2, none⟩ = some (.int .i64 x177002_2) := (blk_cell BK176.out 2).trans rfl
                          have hcz49_3 : w41.cell? ⟨gb176, 3, none⟩ = some (.int .i64 x177003_2) := (blk_cell BK176.out 3).trans rfl
                          have hcz49_4 : w41.cell? ⟨gb176, 4, none⟩ = some (.string x177004_2) := (blk_cell BK176.out 4).trans rfl
                          have hfz49_0 := blk_frozen BK176.out 0
                          have hfz49_1 := blk_frozen BK176.out 1
                          have hfz49_2 := blk_frozen BK176.out 2
                          have hfz49_3 := blk_frozen BK176.out 3
                          have hfz49_4 := blk_frozen BK176.out 4
                          try go_wp2
                          refine bodyPost_ret (results_ct rfl _ _ gb176 23 #[.string (⟨#[]⟩ : ByteArray), .int .i64 0, .int .i64 0, .int .i64 0, .string (⟨#[]⟩ : ByteArray)] (0, 0) _ rfl (by (with_reducible repeat (first | refine blk_drewN ?_ _ | refine blk_drew ?_ | refine blk_alloc ?_ _)); refine blk_put (cs := #[.string (⟨#[]⟩ : ByteArray), .int .i64 0, .int .i64 0, .int .i64 0, .string x177004_2]) ?_ 4 _ rfl; (with_reducible repeat (first | refine blk_drewN ?_ _ | refine blk_drew ?_ | refine blk_alloc ?_ _)); refine blk_put (cs := #[.string (⟨#[]⟩ : ByteArray), .int .i64 0, .int .i64 0, .int .i64 x177003_2, .string x177004_2]) ?_ 3 _ rfl; (with_reducible repeat (first | refine blk_drewN ?_ _ | refine blk_drew ?_ | refine blk_alloc ?_ _)); refine blk_put (cs := #[.string (⟨#[]⟩ : ByteArray), .int .i64 0, .int .i64 x177002_2, .int .i64 x177003_2, .string x177004_2]) ?_ 2 _ rfl; (with_reducible repeat (first | refine blk_drewN ?_ _ | refine blk_drew ?_ | refine blk_alloc ?_ _)); refine blk_put (cs := #[.string (⟨#[]⟩ : ByteArray), .int .i64 x177001_2, .int .i64 x177002_2, .int .i64 x177003_2, .string x177004_2]) ?_ 1 _ rfl; (with_reducible repeat (first | refine blk_drewN ?_ _ | refine blk_drew ?_ | refine blk_alloc ?_ _)); refine blk_put (cs := #[.string x177000_2, .int .i64 x177001_2, .int .i64 x177002_2, .int .i64 x177003_2, .string x177004_2]) ?_ 0 _ rfl; (with_reducible repeat (first | refine blk_drewN ?_ _ | refine blk_drew ?_ | refine blk_alloc ?_ _)); refine blk_far ?_ NB176_192.out _; (with_reducible repeat (first | refine blk_drewN ?_ _ | refine blk_drew ?_ | refine blk_alloc ?_ _)); refine blk_far ?_ NB176_192.out _; (with_reducible repeat (first | refine blk_drewN ?_ _ | refine blk_drew ?_ | refine blk_alloc ?_ _)); refine blk_far ?_ NB176_192.out _; (with_reducible repeat (first | refine blk_drewN ?_ _ | refine blk_drew ?_ | refine blk_alloc ?_ _)); refine blk_far ?_ NB176_192.out _; (with_reducible repeat (first | refine blk_drewN ?_ _ | refine blk_drew ?_ | refine blk_alloc ?_ _)); refine blk_far ?_ NB176_192.out _; (with_reducible repeat (first | refine blk_drewN ?_ _ | refine blk_drew ?_ | refine blk_alloc ?_ _)); exact BK176.out) Tryd.underlying23 rfl (by kernel_rfl)) rfl ?_
                          exact ⟨by first | rfl | (simp [errW_none, errW_some] <;> rfl) | (simp only [← hji19]; first | rfl | (simp [errW_none, errW_some] <;> rfl)) | (simp [*, errW_none, errW_some] <;> rfl), by repeat (first | (with_reducible first | exact HB.out | apply below_alloc | apply pw_below_drewN | apply below_drew1 | refine below_set ?_ GE176.out | refine below_set ?_ GE184.out | refine below_set ?_ GE192.out) | exact HB.out)⟩
                      · rw [if_neg c21] at H
                        exact absurd H (by simp)
                    · rw [if_neg c20] at H
                      exact absurd H (by simp)
                  · rw [if_neg c17] at H
                    exact absurd H (by simp)
                · rw [if_neg c16] at H
                  have c16b0 : decide (x8_2 < (t181.size : Int)) = false := decide_eq_false c16
                  clear c16
                  simp only [Option.some.injEq, Prod.mk.injEq] at H
                  obtain ⟨rfl, rfl, rfl, rfl, rfl, rfl⟩ := H
                  have hnb50 := NB184_176.out
                  have hnc50 := NB176_184.out
                  have hcz51_0 : wr.cell? ⟨gb184, 0, none⟩ = some (.string x185000_2) := (blk_cell BK184.out 0).trans rfl
                  have hcz51_1 : wr.cell? ⟨gb184, 1, none⟩ = some (.int .i64 x185001_2) := (blk_cell BK184.out 1).trans rfl
                  have hcz51_2 : wr.cell? ⟨gb184, 2, none⟩ = some (.int .i64 x185002_2) := (blk_cell BK184.out 2).trans rfl
                  have hcz51_3 : wr.cell? ⟨gb184, 3, none⟩ = some (.int .i64 x185003_2) := (blk_cell BK184.out 3).trans rfl
                  have hcz51_4 : wr.cell? ⟨gb184, 4, none⟩ = some (.string x185004_2) := (blk_cell BK184.out 4).trans rfl
                  have hfz51_0 := blk_frozen BK184.out 0
                  have hfz51_1 := blk_frozen BK184.out 1
                  have hfz51_2 := blk_frozen BK184.out 2
                  have hfz51_3 := blk_frozen BK184.out 3
                  have hfz51_4 := blk_frozen BK184.out 4
                  have hcz52_0 : wr.cell? ⟨gb176, 0, none⟩ = some (.string x177000_2) := (blk_cell BK176.out 0).trans rfl
                  have hcz52_1 : wr.cell? ⟨gb176, 1, none⟩ = some (.int .i64 x177001_2) := (blk_cell BK176.out 1).trans rfl
                  have hcz52_2 : wr.cell? ⟨gb176, 2, none⟩ = some (.int .i64 x177002_2) := (blk_cell BK176.out 2).trans rfl
                  have hcz52_3 : wr.cell? ⟨gb176, 3, none⟩ = some (.int .i64 x177003_2) := (blk_cell BK176.out 3).trans rfl
                  have hcz52_4 : wr.cell? ⟨gb176, 4, none⟩ = some (.string x177004_2) := (blk_cell BK176.out 4).trans rfl
                  have hfz52_0 := blk_frozen BK176.out 0
                  have hfz52_1 := blk_frozen BK176.out 1
                  have hfz52_2 := blk_frozen BK176.out 2
                  have hfz52_3 := blk_frozen BK176.out 3
                  have hfz52_4 := blk_frozen BK176.out 4
                  go_wp2
                  refine bodyPost_ret (results_ct rfl _ _ gb176 23 #[.string x185000_2, .int .i64 x185001_2, .int .i64 x185002_2, .int .i64 x185003_2, .string x185004_2] (0, 0) _ rfl (by (with_reducible repeat (first | refine blk_drewN ?_ _ | refine blk_drew ?_ | refine blk_alloc ?_ _)); refine blk_put (cs := #[.string x185000_2, .int .i64 x185001_2, .int .i64 x185002_2, .int .i64 x185003_2, .string x177004_2]) ?_ 4 _ rfl; (with_reducible repeat (first | refine blk_drewN ?_ _ | refine blk_drew ?_ | refine blk_alloc ?_ _)); refine blk_put (cs := #[.string x185000_2, .int .i64 x185001_2, .int .i64 x185002_2, .int .i64 x177003_2, .string x177004_2]) ?_ 3 _ rfl; (with_reducible repeat (first | refine blk_drewN ?_ _ | refine blk_drew ?_ | refine blk_alloc ?_ _)); refine blk_put (cs := #[.string x185000_2, .int .i64 x185001_2, .int .i64 x177002_2, .int .i64 x177003_2, .string x177004_2]) ?_ 2 _ rfl; (with_reducible repeat (first | refine blk_drewN ?_ _ | refine blk_drew ?_ | refine blk_alloc ?_ _)); refine blk_put (cs := #[.string x185000_2, .int .i64 x177001_2, .int .i64 x177002_2, .int .i64 x177003_2, .string x177004_2]) ?_ 1 _ rfl; (with_reducible repeat (first | refine blk_drewN ?_ _ | refine blk_drew ?_ | refine blk_alloc ?_ _)); refine blk_put (cs := #[.string x177000_2, .int .i64 x177001_2, .int .i64 x177002_2, .int .i64 x177003_2, .string x177004_2]) ?_ 0 _ rfl; (with_reducible repeat (first | refine blk_drewN ?_ _ | refine blk_drew ?_ | refine blk_alloc ?_ _)); exact BK176.out) Tryd.underlying23 rfl (by kernel_rfl)) rfl ?_
                  exact ⟨by first | rfl | (simp [errW_none, errW_some] <;> rfl) | (simp [*, errW_none, errW_some] <;> rfl), by repeat (first | (with_reducible first | exact HB.out | apply below_alloc | apply pw_below_drewN | apply below_drew1 | refine below_set ?_ GE176.out | refine below_set ?_ GE184.out) | exact HB.out)⟩
          · rw [if_neg c12] at H
            exact absurd H (by simp)
  · rw [if_neg c3] at H
    exact absurd H (by simp)

end Go.Proofs.YtlinnmllbbmnpaaDoor.PCmd
