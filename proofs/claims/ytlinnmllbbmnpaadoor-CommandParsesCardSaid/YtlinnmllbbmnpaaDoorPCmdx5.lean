/- Written by a program of this session out of the translation: the kit's print, run from a copy in which some functions are given by hand. -/
import Derived.Test.YtlinnmllbbmnpaaDoorPCmdx0
namespace Go.Proofs.YtlinnmllbbmnpaaDoor.PCmd
open Go.RowKit Go.Proofs.YtlinnmllbbmnpaaDoorW.PrintWords Go.Proofs.YtlinnmllbbmnpaaDoorW.PrintLast Go.Proofs.YtlinnmllbbmnpaaDoorW.PrintMore
attribute [local go_sem] max2_int min2_int max_two min_two max_three min_three max_four min_four   -- for this text's walks alone
set_option linter.unusedVariables false
set_option linter.unusedSimpArgs false

-- NOT PRINTED: function 69 (strconv_ParseUint)

-- NOT PRINTED: function 56 (strconv_ParseInt)

-- NOT PRINTED: function 39 (strconv_Atoi_39)

-- NOT PRINTED: function 70 (stringslite_Clone)

-- NOT PRINTED: function 57 (strconv_syntaxError)

-- NOT PRINTED: function 58 (strconv_rangeError)

-- NOT PRINTED: function 71 (errors_New)

-- NOT PRINTED: function 59 (strconv_baseError)

-- NOT PRINTED: function 60 (strconv_bitSizeError)

-- NOT PRINTED: function 40 (strconv_toError)

-- NOT PRINTED: function 29 (strconv_Atoi_29)

-- NOT PRINTED: function 19 (command_take)

-- NOT PRINTED: function 8 (command_Parse)

-- NOT PRINTED: function 42 (abi_NoEscape)

-- NOT PRINTED: function 32 (strings_Builder_copyCheck)

-- NOT PRINTED: function 22 (strings_Builder_WriteByte)

-- NOT PRINTED: function 23 (strings_Builder_String)

-- NOT PRINTED: function 11 (command_hex)

-- NOT PRINTED: function 47 (bytealg_MakeNoZero)

-- NOT PRINTED: function 34 (strings_Builder_grow)

-- NOT PRINTED: function 25 (strings_Builder_Grow)

-- NOT PRINTED: function 26 (strings_Builder_WriteString)

-- NOT PRINTED: function 14 (strings_Join)

-- NOT PRINTED: function 6 (command_Print)

-- NOT PRINTED: function 5 (oakumlaw21_alive)

/-! ### oakumref21_form: function 15 -/
def oakumref21_form.j0 : Nat → ByteArray → Bool → Option (ByteArray × Bool)
  | 0, _, _ => none
  | k + 1, x4, x11 => if x11 = true then (some ((⟨#[105]⟩ : ByteArray), true)) else (if x4.toList = ([115, 116, 101, 112] : List UInt8) then (some ((⟨#[]⟩ : ByteArray), true)) else (some ((⟨#[]⟩ : ByteArray), false)))
def oakumref21_form.f (k : Nat) (a0 : ByteArray) : Option (ByteArray × Bool) := if a0.toList = ([114, 101, 97, 100] : List UInt8) then (some ((⟨#[105, 97, 110]⟩ : ByteArray), true)) else (if a0.toList = ([119, 114, 105, 116, 101] : List UInt8) then (some ((⟨#[105, 97, 100]⟩ : ByteArray), true)) else (if a0.toList = ([99, 114, 101, 97, 116, 101] : List UInt8) then (some ((⟨#[110]⟩ : ByteArray), true)) else (if a0.toList = ([100, 101, 108, 101, 116, 101] : List UInt8) then (oakumref21_form.j0 k a0 (a0.toList == ([100, 101, 108, 101, 116, 101] : List UInt8))) else (oakumref21_form.j0 k a0 (a0.toList == ([109, 101, 114, 103, 101] : List UInt8))))))
theorem oakumref21_form.mono_l : ∀ k, (∀ y0 y1, LeO (oakumref21_form.j0 k y0 y1) (oakumref21_form.j0 (k + 1) y0 y1))
  | 0 => fun _ _ r h => by simp [oakumref21_form.j0] at h
  | k + 1 => by
    have ih0 := oakumref21_form.mono_l k
    · intro y0 y1
      unfold oakumref21_form.j0
      repeat' first
      | (with_reducible exact ih0 _ _)
      | (with_reducible exact LeO.refl _)
      | (with_reducible exact LeO.none _)
      | (with_reducible refine LeO.ite ?_ ?_)
      | (with_reducible refine LeO.bind ?_ (fun _ => ?_))
      | exact ih0 _ _
      | exact LeO.none _
      | refine LeO.ite ?_ ?_
      | refine LeO.bind ?_ (fun _ => ?_)
theorem oakumref21_form.mono : ∀ a0 k, LeO (oakumref21_form.f k a0) (oakumref21_form.f (k + 1) a0) := by
  intro a0 k
  have ih0 := oakumref21_form.mono_l k
  unfold oakumref21_form.f
  repeat' first
      | (with_reducible exact ih0 _ _)
      | (with_reducible exact LeO.refl _)
      | (with_reducible exact LeO.none _)
      | (with_reducible refine LeO.ite ?_ ?_)
      | (with_reducible refine LeO.bind ?_ (fun _ => ?_))
      | exact ih0 _ _
      | exact LeO.none _
      | refine LeO.ite ?_ ?_
      | refine LeO.bind ?_ (fun _ => ?_)
set_option maxHeartbeats 8000000 in
set_option maxRecDepth 100000 in
theorem oakumref21_form.calls (k : Nat) (a0 : ByteArray) (r1 : ByteArray) (r2 : Bool) (w : World) (h : oakumref21_form.f k a0 = some (r1, r2)) :
    Calls Tryd.prog 15 #[.string a0] w fun e w' => e = .returned (.tuple #[.string r1, .bool r2]) ∧ Drawn0 w w' := by
  have H : (if a0.toList = ([114, 101, 97, 100] : List UInt8) then (some ((⟨#[105, 97, 110]⟩ : ByteArray), true)) else (if a0.toList = ([119, 114, 105, 116, 101] : List UInt8) then (some ((⟨#[105, 97, 100]⟩ : ByteArray), true)) else (if a0.toList = ([99, 114, 101, 97, 116, 101] : List UInt8) then (some ((⟨#[110]⟩ : ByteArray), true)) else (if a0.toList = ([100, 101, 108, 101, 116, 101] : List UInt8) then (oakumref21_form.j0 k a0 (a0.toList == ([100, 101, 108, 101, 116, 101] : List UInt8))) else (oakumref21_form.j0 k a0 (a0.toList == ([109, 101, 114, 103, 101] : List UInt8))))))) = some (r1, r2) := h
  clear h
  by_cases c2 : a0.toList = ([114, 101, 97, 100] : List UInt8)
  · rw [if_pos c2] at H
    have c2b0 : (a0.toList == ([114, 101, 97, 100] : List UInt8)) = true := beq_iff_eq.mpr c2
    have c2b1 : (a0.toList != ([114, 101, 97, 100] : List UInt8)) = false := bne_eq_false_iff_eq.mpr c2
    clear c2
    simp only [Option.some.injEq, Prod.mk.injEq] at H
    obtain ⟨rfl, rfl⟩ := H
    go_enter Tryd.func15, Tryd.ntmps15
    go_wp2
    go_ret2
    exact ⟨by first | rfl | (simp; done) | (simp [*]; done), by repeat (first | exact Drawn0.refl _ | apply Drawn0.step)⟩
  · rw [if_neg c2] at H
    have c2b0 : (a0.toList == ([114, 101, 97, 100] : List UInt8)) = false := beq_eq_false_iff_ne.mpr c2
    have c2b1 : (a0.toList != ([114, 101, 97, 100] : List UInt8)) = true := bne_iff_ne.mpr c2
    by_cases c3 : a0.toList = ([119, 114, 105, 116, 101] : List UInt8)
    · rw [if_pos c3] at H
      have c3b0 : (a0.toList == ([119, 114, 105, 116, 101] : List UInt8)) = true := beq_iff_eq.mpr c3
      have c3b1 : (a0.toList != ([119, 114, 105, 116, 101] : List UInt8)) = false := bne_eq_false_iff_eq.mpr c3
      clear c3
      simp only [Option.some.injEq, Prod.mk.injEq] at H
      obtain ⟨rfl, rfl⟩ := H
      go_enter Tryd.func15, Tryd.ntmps15
      go_wp2
      go_ret2
      exact ⟨by first | rfl | (simp; done) | (simp [*]; done), by repeat (first | exact Drawn0.refl _ | apply Drawn0.step)⟩
    · rw [if_neg c3] at H
      have c3b0 : (a0.toList == ([119, 114, 105, 116, 101] : List UInt8)) = false := beq_eq_false_iff_ne.mpr c3
      have c3b1 : (a0.toList != ([119, 114, 105, 116, 101] : List UInt8)) = true := bne_iff_ne.mpr c3
      by_cases c4 : a0.toList = ([99, 114, 101, 97, 116, 101] : List UInt8)
      · rw [if_pos c4] at H
        have c4b0 : (a0.toList == ([99, 114, 101, 97, 116, 101] : List UInt8)) = true := beq_iff_eq.mpr c4
        have c4b1 : (a0.toList != ([99, 114, 101, 97, 116, 101] : List UInt8)) = false := bne_eq_false_iff_eq.mpr c4
        clear c4
        simp only [Option.some.injEq, Prod.mk.injEq] at H
        obtain ⟨rfl, rfl⟩ := H
        go_enter Tryd.func15, Tryd.ntmps15
        go_wp2
        go_ret2
        exact ⟨by first | rfl | (simp; done) | (simp [*]; done), by repeat (first | exact Drawn0.refl _ | apply Drawn0.step)⟩
      · rw [if_neg c4] at H
        have c4b0 : (a0.toList == ([99, 114, 101, 97, 116, 101] : List UInt8)) = false := beq_eq_false_iff_ne.mpr c4
        have c4b1 : (a0.toList != ([99, 114, 101, 97, 116, 101] : List UInt8)) = true := bne_iff_ne.mpr c4
        have HC5 := Aside0.mk H
        clear H
        go_enter Tryd.func15, Tryd.ntmps15
        go_upto_if 11 with (fail)
        go_cut [11] (fun v11 wc => ∃ (kq : Nat) (x11_4 : Bool), v11 = .bool x11_4 ∧ Aside0 (oakumref21_form.j0 kq a0 x11_4 = some (r1, r2)) ∧ Aside0 (kq ≤ k) ∧ Drawn0 w wc)
        case first =>
          have H := HC5.out
          clear HC5
          by_cases c6 : a0.toList = ([100, 101, 108, 101, 116, 101] : List UInt8)
          · rw [if_pos c6] at H
            have c6b0 : (a0.toList == ([100, 101, 108, 101, 116, 101] : List UInt8)) = true := beq_iff_eq.mpr c6
            have c6b1 : (a0.toList != ([100, 101, 108, 101, 116, 101] : List UInt8)) = false := bne_eq_false_iff_eq.mpr c6
            clear c6
            (first | rw [c6b0] | (simp only [i64_w, i32_w]; rw [c6b0]) | rw [c6b1] | skip)
            have H' := Aside0.mk H
            clear H
            go_wp2
            go_meet
            case rel => exact ⟨_, ((a0.toList == ([100, 101, 108, 101, 116, 101] : List UInt8))), (by first | rfl | (simp; done) | (simp [*]; done)), H', ⟨by first | omega | exact Nat.le_refl _⟩, by repeat (first | exact Drawn0.refl _ | apply Drawn0.step)⟩
          · rw [if_neg c6] at H
            have c6b0 : (a0.toList == ([100, 101, 108, 101, 116, 101] : List UInt8)) = false := beq_eq_false_iff_ne.mpr c6
            have c6b1 : (a0.toList != ([100, 101, 108, 101, 116, 101] : List UInt8)) = true := bne_iff_ne.mpr c6
            (first | rw [c6b0] | (simp only [i64_w, i32_w]; rw [c6b0]) | rw [c6b1] | skip)
            have H' := Aside0.mk H
            clear H
            go_wp2
            go_meet
            case rel => exact ⟨_, ((a0.toList == ([109, 101, 114, 103, 101] : List UInt8))), (by first | rfl | (simp; done) | (simp [*]; done)), H', ⟨by first | omega | exact Nat.le_refl _⟩, by repeat (first | exact Drawn0.refl _ | apply Drawn0.step)⟩
        case rest =>
          clear HC5
          try clear c1
          try clear c2
          try clear c2b0
          try clear c2b1
          try clear p2
          try clear c3
          try clear c3b0
          try clear c3b1
          try clear c4
          try clear c4b0
          try clear c4b1
          try clear c6
          try clear c6b0
          try clear c6b1
          obtain ⟨kq, x11_4, rfl, HA, HJ4, ⟨mc4, rfl⟩⟩ := hcut
          cases kq with
          | zero => exact absurd HA.out (by simp [oakumref21_form.j0])
          | succ kj4 =>
            have H := HA.out
            clear HA
            simp only [oakumref21_form.j0] at H
            by_cases c7 : x11_4 = true
            · subst c7
              have H1 : (some ((⟨#[105]⟩ : ByteArray), true)) = some (r1, r2) := by rw [if_pos rfl] at H; exact H
              clear H
              have H := H1
              clear H1
              simp only [Option.some.injEq, Prod.mk.injEq] at H
              obtain ⟨rfl, rfl⟩ := H
              go_wp2
              go_ret2
              exact ⟨by first | rfl | (simp; done) | (simp [*]; done), by repeat (first | exact Drawn0.refl _ | apply Drawn0.step)⟩
            · replace c7 := Bool.eq_false_iff.mpr c7
              subst c7
              have H1 : (if a0.toList = ([115, 116, 101, 112] : List UInt8) then (some ((⟨#[]⟩ : ByteArray), true)) else (some ((⟨#[]⟩ : ByteArray), false))) = some (r1, r2) := by rw [if_neg (show ¬ (false = true) by decide)] at H; exact H
              clear H
              have H := H1
              clear H1
              by_cases c8 : a0.toList = ([115, 116, 101, 112] : List UInt8)
              · rw [if_pos c8] at H
                have c8b0 : (a0.toList == ([115, 116, 101, 112] : List UInt8)) = true := beq_iff_eq.mpr c8
                have c8b1 : (a0.toList != ([115, 116, 101, 112] : List UInt8)) = false := bne_eq_false_iff_eq.mpr c8
                clear c8
                simp only [Option.some.injEq, Prod.mk.injEq] at H
                obtain ⟨rfl, rfl⟩ := H
                go_wp2
                go_ret2
                exact ⟨by first | rfl | (simp; done) | (simp [*]; done), by repeat (first | exact Drawn0.refl _ | apply Drawn0.step)⟩
              · rw [if_neg c8] at H
                have c8b0 : (a0.toList == ([115, 116, 101, 112] : List UInt8)) = false := beq_eq_false_iff_ne.mpr c8
                have c8b1 : (a0.toList != ([115, 116, 101, 112] : List UInt8)) = true := bne_iff_ne.mpr c8
                simp only [Option.some.injEq, Prod.mk.injEq] at H
                obtain ⟨rfl, rfl⟩ := H
                go_wp2
                go_ret2
                exact ⟨by first | rfl | (simp; done) | (simp [*]; done), by repeat (first | exact Drawn0.refl _ | apply Drawn0.step)⟩

/-! ### oakumref20_Figures: function 16 -/
def oakumref20_Figures.f : Nat → Int → Option (ByteArray)
  | 0, _ => none
  | k + 1, a0 => (some (([(wrap64 (48 + (Int.tmod a0 10))) % 256] : List Int) : List Int)).bind fun y144 => (if a0 ≥ 10 then ((oakumref20_Figures.f k (wrap64 (Int.tdiv a0 10))).bind fun t147 => (if t147.size + (strOfNums y144).size ≤ 9223372036854775807 then (some (t147 ++ (strOfNums y144))) else (none))) else (some (strOfNums y144)))
theorem oakumref20_Figures.mono_l : ∀ k, (∀ y0, LeO (oakumref20_Figures.f k y0) (oakumref20_Figures.f (k + 1) y0))
  | 0 => fun _ r h => by simp [oakumref20_Figures.f] at h
  | k + 1 => by
    have ih0 := oakumref20_Figures.mono_l k
    · intro y0
      unfold oakumref20_Figures.f
      repeat' first
      | (with_reducible exact ih0 _)
      | (with_reducible exact LeO.refl _)
      | (with_reducible exact LeO.none _)
      | (with_reducible refine LeO.ite ?_ ?_)
      | (with_reducible refine LeO.bind ?_ (fun _ => ?_))
      | exact ih0 _
      | exact LeO.none _
      | refine LeO.ite ?_ ?_
      | refine LeO.bind ?_ (fun _ => ?_)
theorem oakumref20_Figures.mono : ∀ a0 k, LeO (oakumref20_Figures.f k a0) (oakumref20_Figures.f (k + 1) a0) := by
  intro a0 k
  have ih0 := oakumref20_Figures.mono_l k
  exact ih0 a0
set_option maxHeartbeats 8000000 in
set_option maxRecDepth 100000 in
theorem oakumref20_Figures.calls (k : Nat) : ∀ (a0 : Int) (r : ByteArray) (w : World) (h : oakumref20_Figures.f k a0 = some r),
    Calls Tryd.prog 16 #[.int .i64 a0] w fun e w' => e = .returned (.string r) ∧ Below w.heap.size w w' := by
  induction k using Nat.strongRecOn with
  | _ k ih =>
  intro a0 r w h
  cases k with
  | zero => exact absurd h (by simp [oakumref20_Figures.f])
  | succ k =>
  simp only [oakumref20_Figures.f] at h
  have HB := Aside0.mk (Below.refl w.heap.size w)
  have H : ((some (([(wrap64 (48 + (Int.tmod a0 10))) % 256] : List Int) : List Int)).bind fun y144 => (if a0 ≥ 10 then ((oakumref20_Figures.f k (wrap64 (Int.tdiv a0 10))).bind fun t147 => (if t147.size + (strOfNums y144).size ≤ 9223372036854775807 then (some (t147 ++ (strOfNums y144))) else (none))) else (some (strOfNums y144)))) = some r := h
  clear h
  obtain ⟨y144, hy144⟩ : ∃ y_ : List Int, y_ = (([(wrap64 (48 + (Int.tmod a0 10))) % 256] : List Int)) := ⟨_, rfl⟩
  replace H : (if a0 ≥ 10 then ((oakumref20_Figures.f k (wrap64 (Int.tdiv a0 10))).bind fun t147 => (if t147.size + (strOfNums y144).size ≤ 9223372036854775807 then (some (t147 ++ (strOfNums y144))) else (none))) else (some (strOfNums y144))) = some r := by first | (rw [hy144]; with_reducible exact H) | (have H2_ := (Option.bind_some _ _).symm.trans H; rw [hy144]; with_reducible exact H2_) | (have H2_ := (Option.bind_some _ _).symm.trans H; with_reducible exact H2_) | with_reducible exact H | (rw [hy144]; exact H) | exact H
  have Ny144 := Aside0.mk hy144
  clear hy144
  by_cases c2 : a0 ≥ 10
  · rw [if_pos c2] at H
    have c2b0 : decide (10 ≤ a0) = true := decide_eq_true c2
    clear c2
    replace H := Option.bind_eq_some_iff.mp H
    obtain ⟨t147, A30, H⟩ := H
    replace H : (if t147.size + (strOfNums y144).size ≤ 9223372036854775807 then (some (t147 ++ (strOfNums y144))) else (none)) = some r := H
    have A3 := Aside0.mk A30
    clear A30
    by_cases c4 : t147.size + (strOfNums y144).size ≤ 9223372036854775807
    · rw [if_pos c4] at H
      have c4b0 := eq_true c4
      have c4b1 : decide (t147.size + (strOfNums y144).size ≤ 9223372036854775807) = true := decide_eq_true c4
      try have c4b2 : (9223372036854775807 < t147.size + (strOfNums y144).size) = False := eq_false (Nat.not_lt.2 c4)
      obtain rfl := Option.some.inj H
      go_enter Tryd.func16, Tryd.ntmps16
      go_wp2_with (first | ((with_reducible refine gate_dst (N := 8) rfl ?_); refine Kd.R_lit (Kd.int .u8) _ 5 ?hg (N := 8) ?hd (xs := ([(wrap64 (48 + (Int.tmod a0 10))) % 256] : List Int)) (inner := [.int .u8 ((wrap64 (48 + (Int.tmod a0 10))) % 256)]) (ok := fun _ => True) (okp := fun _ => True) ?hr ?hp (fun _ hk => hk) trivial (Below.refl _ _) (Nat.le_refl _) (by simp) ?_; (case hd => rfl); (case hg => rfl); (case hr => first | (go_simp; done) | (go_simp; rfl)); (case hp => exact (Reps.one (show Kd.M (Kd.int .u8) _ _ _ ((wrap64 (48 + (Int.tmod a0 10))) % 256) [.int .u8 ((wrap64 (48 + (Int.tmod a0 10))) % 256)] from rfl) (Reps.none _ _))); intro v145 w5 ho6 hb hg_ hnew_; clear hg_ hnew_; (first | rw [← Ny144.out] at ho6 | (simp only [Int.reduceToNat] at ho6; rw [← Ny144.out] at ho6)); have n0_ := Aside0.mk (Kd.R_lower ho6 (below_size (by repeat (first | (with_reducible first | exact HB.out | apply below_alloc | apply pw_below_drewN | apply below_drew1) | exact HB.out)))); have n1_ := Aside0.mk (below_step (by repeat (first | (with_reducible first | exact HB.out | apply below_alloc | apply pw_below_drewN | apply below_drew1) | exact HB.out)) hb); clear HB; have HO146 := n0_; have HB := n1_; clear n0_ n1_; clear hb ho6; have hcv7 := own_string (P := Tryd.prog) Tryd.underlying49 Tryd.underlying5 Tryd.underlying9 (Kd.own_of_R HO146.out)) | ((with_reducible refine gate_callee (f := 16) rfl ?_); refine goesL_ (some 14) rfl rfl Tryd.func16 (by kernel_rfl) rfl #[.int .i64 (wrap64 (Int.tdiv a0 10))] rfl (by (try simp only [List.map_toArray, List.map_cons, List.map_nil]); first | done | rfl | (simp only [List.length_drop, List.length_take]; rfl)) ?_; (with_reducible refine (ih k (by omega) (wrap64 (Int.tdiv a0 10)) t147 _ A3.out).mono ?_); rintro e w8 ⟨rfl, hb⟩; refine ⟨_, rfl, ?_⟩; have n0_ := Aside0.mk (Kd.R_below (by (with_reducible repeat (first | apply Kd.R_alloc | apply Kd.R_drewN | apply Kd.R_drew)); exact HO146.out) hb); have n1_ := Aside0.mk (below_step (by repeat (first | (with_reducible first | exact HB.out | apply below_alloc | apply pw_below_drewN | apply below_drew1) | exact HB.out)) hb); clear HO146; clear HB; have HO146 := n0_; have HB := n1_; clear n0_ n1_; (try clear hb); (try clear hb2); (try clear hk); (try clear hi)))
      go_ret
      exact ⟨by first | rfl | (simp [errW_none, errW_some] <;> rfl) | (simp [*, errW_none, errW_some] <;> rfl), by repeat (first | (with_reducible first | exact HB.out | apply below_alloc | apply pw_below_drewN | apply below_drew1) | exact HB.out)⟩
    · rw [if_neg c4] at H
      exact absurd H (by simp)
  · rw [if_neg c2] at H
    have c2b0 : decide (10 ≤ a0) = false := decide_eq_false c2
    clear c2
    obtain rfl := Option.some.inj H
    go_enter Tryd.func16, Tryd.ntmps16
    go_wp2_with (first | ((with_reducible refine gate_dst (N := 8) rfl ?_); refine Kd.R_lit (Kd.int .u8) _ 5 ?hg (N := 8) ?hd (xs := ([(wrap64 (48 + (Int.tmod a0 10))) % 256] : List Int)) (inner := [.int .u8 ((wrap64 (48 + (Int.tmod a0 10))) % 256)]) (ok := fun _ => True) (okp := fun _ => True) ?hr ?hp (fun _ hk => hk) trivial (Below.refl _ _) (Nat.le_refl _) (by simp) ?_; (case hd => rfl); (case hg => rfl); (case hr => first | (go_simp; done) | (go_simp; rfl)); (case hp => exact (Reps.one (show Kd.M (Kd.int .u8) _ _ _ ((wrap64 (48 + (Int.tmod a0 10))) % 256) [.int .u8 ((wrap64 (48 + (Int.tmod a0 10))) % 256)] from rfl) (Reps.none _ _))); intro v145 w9 ho10 hb hg_ hnew_; clear hg_ hnew_; (first | rw [← Ny144.out] at ho10 | (simp only [Int.reduceToNat] at ho10; rw [← Ny144.out] at ho10)); have n0_ := Aside0.mk (Kd.R_lower ho10 (below_size (by repeat (first | (with_reducible first | exact HB.out | apply below_alloc | apply pw_below_drewN | apply below_drew1) | exact HB.out)))); have n1_ := Aside0.mk (below_step (by repeat (first | (with_reducible first | exact HB.out | apply below_alloc | apply pw_below_drewN | apply below_drew1) | exact HB.out)) hb); clear HB; have HO146 := n0_; have HB := n1_; clear n0_ n1_; clear hb ho10; have hcv11 := own_string (P := Tryd.prog) Tryd.underlying49 Tryd.underlying5 Tryd.underlying9 (Kd.own_of_R HO146.out)))
    go_ret
    exact ⟨by first | rfl | (simp [errW_none, errW_some] <;> rfl) | (simp [*, errW_none, errW_some] <;> rfl), by repeat (first | (with_reducible first | exact HB.out | apply below_alloc | apply pw_below_drewN | apply below_drew1) | exact HB.out)⟩

-- GIVEN: function 17 (oakumref21_Hex), by hand, in YtlinnmllbbmnpaaDoorHexRef

end Go.Proofs.YtlinnmllbbmnpaaDoor.PCmd
