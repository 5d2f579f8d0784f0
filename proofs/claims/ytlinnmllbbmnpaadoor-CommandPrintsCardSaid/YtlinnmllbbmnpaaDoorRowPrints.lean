/- The text of any command is as the document says, or the error: the law CommandPrints, its row and its tied card; commands whose word and data have at most 1000 bytes together are gone through. -/
import Derived.Test.YtlinnmllbbmnpaaDoorWrap
import Derived.Test.YtlinnmllbbmnpaaDoorLawPrints
import Derived.Test.YtlinnmllbbmnpaaDoorTie
import Derived.Test.YtlinnmllbbmnpaaDoorCards
import Derived.SevenTiedAt
import Derived.SizedLaws
import Derived.Deep.Fields
import Derived.Carry
namespace Go.Proofs.YtlinnmllbbmnpaaDoor
open Go.RowKit Go.ChangeShapes Go.WideShapes Go.ChangeAt

def Cmd.datum {H : Type} (c : Cmd) : DataW H := .agg [.lit (.string c.op.data.toList), .lit (.int .i64 c.id), .lit (.int .i64 c.at_), .lit (.int .i64 c.n), .lit (.string c.data.data.toList)]
theorem in_of {n : Int} (h : (Lit.int .i64 n).wf = true) : InI n := by
  have h1 : (decide ((-9223372036854775808 : Int) ≤ n) && decide (n ≤ (9223372036854775807 : Int))) = true := h
  simpa [InI] using h1
set_option maxRecDepth 100000 in
/-- A command that came in, opened. -/
theorem open_cmd {H : Type} {enc : TypeId × Value → H} {W : World} {r : Reach} {base b0 : Nat} {spare : Nat → Bool} {held : Bool} {v : Value} {d : DataW H} {p : List MemPlace}
    (hv : Value.okWide Tryd.prog W r b0 23 v) (h : DataW.Trod enc Tryd.prog W base spare held 23 v d p) : ∃ c : Cmd, c.fine ∧ v = c.agg ∧ d = c.datum ∧ p = [] := by
  obtain ⟨cs, rfl, hsz⟩ := okWide_struct Tryd.underlying23 hv
  obtain ⟨l⟩ := cs
  have h5 : Tryd.prog.cellsOf 23 = 5 := by kernel_rfl
  match l, hsz.trans h5 with
  | [v0, v1, v2, v3, v4], _ =>
    obtain ⟨fuel, hf⟩ := h
    obtain ⟨xs, n, _, hx, _, hlen, hg⟩ := DataW.trod_struct Tryd.underlying23 hf
    have c9 : Tryd.prog.cellsOf 9 = 1 := by kernel_rfl
    have c3 : Tryd.prog.cellsOf 3 = 1 := by kernel_rfl
    match xs, hlen with
    | [y0, y1, y2, y3, y4], _ =>
      have g0 : DataW.trod enc Tryd.prog W base spare held n 9 (([v0, v1, v2, v3, v4].drop 0).take (Tryd.prog.cellsOf 9)) = some y0 := hg 0 _ rfl
      have g1 : DataW.trod enc Tryd.prog W base spare held n 3 (([v0, v1, v2, v3, v4].drop 1).take (Tryd.prog.cellsOf 3)) = some y1 := hg 1 _ rfl
      have g2 : DataW.trod enc Tryd.prog W base spare held n 3 (([v0, v1, v2, v3, v4].drop 2).take (Tryd.prog.cellsOf 3)) = some y2 := hg 2 _ rfl
      have g3 : DataW.trod enc Tryd.prog W base spare held n 3 (([v0, v1, v2, v3, v4].drop 3).take (Tryd.prog.cellsOf 3)) = some y3 := hg 3 _ rfl
      have g4 : DataW.trod enc Tryd.prog W base spare held n 9 (([v0, v1, v2, v3, v4].drop 4).take (Tryd.prog.cellsOf 9)) = some y4 := hg 4 _ rfl
      rw [c9] at g0 g4
      rw [c3] at g1 g2 g3
      obtain ⟨s0, a0, rfl, _⟩ := DataW.trod_string Tryd.underlying9 g0
      obtain ⟨n1, a1, rfl, w1⟩ := DataW.trod_int Tryd.underlying3 g1
      obtain ⟨n2, a2, rfl, w2⟩ := DataW.trod_int Tryd.underlying3 g2
      obtain ⟨n3, a3, rfl, w3⟩ := DataW.trod_int Tryd.underlying3 g3
      obtain ⟨s4, a4, rfl, _⟩ := DataW.trod_string Tryd.underlying9 g4
      obtain rfl : v0 = .string s0 := by simpa using a0
      obtain rfl : v1 = .int .i64 n1 := by simpa using a1
      obtain rfl : v2 = .int .i64 n2 := by simpa using a2
      obtain rfl : v3 = .int .i64 n3 := by simpa using a3
      obtain rfl : v4 = .string s4 := by simpa using a4
      simp only [Prod.mk.injEq] at hx
      exact ⟨⟨s0, n1, n2, n3, s4⟩, ⟨in_of w1, in_of w2, in_of w3⟩, rfl, hx.1, hx.2⟩
theorem sized_cmd {H : Type} {c : Cmd} (h : (DataW.weightsEach Tryd.prog [23] [(c.datum : DataW H)]).all (· ≤ reachBytes) = true) : c.op.size ≤ 140737488351232 ∧ c.data.size ≤ 140737488351232 := by
  have hm : ∀ n ∈ DataW.weightsEach Tryd.prog [9, 3, 3, 3, 9] [(.lit (.string c.op.data.toList) : DataW H), .lit (.int .i64 c.id), .lit (.int .i64 c.at_), .lit (.int .i64 c.n), .lit (.string c.data.data.toList)], n ≤ reachBytes := fun n hn => by
    have := List.all_eq_true.1 h n (DataW.weights_mem_each (j := 0) rfl rfl n (by unfold Cmd.datum; simp only [DataW.weights, Tryd.underlying23]; exact hn))
    simpa using this
  have hr : reachBytes = 140737488351232 := by decide
  have h1 := hm c.op.data.toList.length (DataW.weights_mem_each (j := 0) rfl rfl _ (by simp [DataW.weights]))
  have h2 := hm c.data.data.toList.length (DataW.weights_mem_each (j := 4) rfl rfl _ (by simp [DataW.weights]))
  have e1 : c.op.data.toList.length = c.op.size := Array.length_toList
  have e2 : c.data.data.toList.length = c.data.size := Array.length_toList
  omega

set_option maxRecDepth 100000 in
theorem prints_lifted (os : Os) (started : os.Started) (H : Type) (enc : TypeId × Value → H) :
    ReturnsInHanded {} Tryd.checked os 3 .any (fun w args => (Rows.commandPrintsSpec.pre enc Tryd.prog Tryd.f3 [] false w args ∧ laidMetH Tryd.prog listed w) ∧ sizedMet enc Tryd.prog Tryd.f3 (OpenSpec.ofChange Rows.commandPrintsSpec) false w args)
      (Rows.commandPrintsSpec.post enc Tryd.prog Tryd.f3 false true false false) := by
  refine handed_shaped (C := Tryd.checked) (X := fun w _ => laidMetH Tryd.prog listed w) (fun _ _ _ hh h => h.of_heap hh) own started (by kernel_rfl) Tryd.func3
    (ChangeSpec.witness_shaped (enc := enc) (C := Tryd.checked) (os := os) (X := fun w _ => laidMetH Tryd.prog listed w) false (World.laidAll Tryd.prog os listed) #[.agg #[.string ⟨#[]⟩, .int .i64 0, .int .i64 0, .int .i64 0, .string ⟨#[]⟩]] 8 (World.laidAll_os _ _ _)
      (World.shaped_of_ZipB (by kernel_rfl) (by kernel_rfl)) (by kernel_rfl) (by kernel_rfl) (by kernel_rfl)
      (by rw [MakeChecks.laidMetH_plain _ _ _ (by kernel_rfl)]; exact laidMet_laidAll _ (by kernel_rfl) (by kernel_rfl))) ?_
  intro W base args ds gs before hval0 hW hsz0 hL hS
  have hval : ∀ (j : Nat) t v, Tryd.f3.params[j]? = some t → args[j]? = some v → Value.okWide Tryd.prog W .any base t v := hval0
  have hsz : (DataW.weightsEach Tryd.prog (Tryd.f3.params.toList ++ Rows.commandPrintsSpec.plain.varTypes Tryd.prog) (ds ++ gs)).all (· ≤ reachBytes) = true := hsz0
  have hW' := hW
  obtain ⟨p, q, hA0, hV, rfl, _, _⟩ := hW
  have hA : DataW.TrodAll enc Tryd.prog W 0 (fun _ => true) true Tryd.f3.params.toList args.toList ds p := hA0
  rw [Tryd.params3] at hA hval hsz
  obtain ⟨v0, d0, rfl, rfl, h0⟩ := trodAll_one hA
  obtain ⟨rfl, rfl⟩ := trodVars_none hV
  obtain ⟨c, hf, rfl, rfl, rfl⟩ := open_cmd (hval 0 23 v0 rfl rfl) h0
  obtain ⟨z0, z1⟩ := sized_cmd hsz
  simp only [List.append_nil] at hW'
  refine (prints_calls c hf z0 z1 W (vars_of hL hS)).mono fun e W' ⟨he, hb⟩ => ?_
  subst he
  exact ⟨_, rfl, _, _, _, [], [], [], hW', trodAll_mk1 (shut_bool Tryd.underlying4 _), trodAll_mk1 (Below.trod laidOut (by kernel_rfl) (of_decide_eq_true (by kernel_rfl)) h0 hb (fun _ hx => by cases hx)), rfl, hb.frame _, fun h => by cases h⟩

theorem prints_holds : Rows.CommandPrintsSaid :=
  OpenClaim.holds_of_wide 3 Tryd.f3 rfl rfl rfl rfl rfl rfl rfl ⟨rfl, rfl, rfl, rfl, rfl⟩ rfl rfl rfl rfl rfl (by kernel_rfl) Tryd.func3 (by kernel_rfl)
    (of_decide_eq_true (by kernel_rfl)) (by unfold Func.isWrapper; first | (rw [if_pos (by decide +kernel)]; kernel_rfl) | (rw [if_neg (by decide +kernel)]; exact ⟨rfl, rfl⟩))
    (fun os started H enc _ => prints_lifted os started H enc)
theorem commandPrints_card_holds : Rows.CommandPrintsCardSaid :=
  Claim7.holds_tied_plain_at .later [] [.data, .data, .data, .data, .sentinel, .sentinel, .pinned] true (true, "5cbf62bc1dc09de5dc6bf1c650a87f48453633e5e6fb69032fc7cd5de87f5f9f") true prints_holds (fun _ h => by cases h) (by kernel_rfl) (fun _ h => by cases h) commandPrints_row_tie rfl ⟨rfl, rfl⟩ (by kernel_rfl) rfl
    (fun f fn hf hfn => by
      obtain rfl : f = 3 := Option.some.inj ((show Tryd.prog.funcNamed "oakum/oakumlaw21.CommandPrints" = some 3 by kernel_rfl).symm.trans hf) |>.symm
      obtain rfl : fn = Tryd.f3 := (Option.some.inj (Tryd.func3.symm.trans hfn)).symm
      exact ⟨by kernel_rfl, fun j t ht => by
        rw [Tryd.params3] at ht
        have hm : t ∈ [23] := by simpa using Array.mem_of_getElem? ht
        have hall : ([23].all fun u => !Tryd.prog.wantsStandIn u) = true := by kernel_rfl
        exact (show Tryd.prog.wantsStandIn t = false by simpa using List.all_eq_true.1 hall t hm)⟩)
    (by kernel_rfl)
#print axioms commandPrints_card_holds
end Go.Proofs.YtlinnmllbbmnpaaDoor
