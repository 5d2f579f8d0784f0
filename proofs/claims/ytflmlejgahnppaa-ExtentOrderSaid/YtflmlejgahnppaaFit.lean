/- The contract of extent.Fit: a loop over the gaps that returns out of its body. -/
import Derived.Test.YtflmlejgahnppaaGaps
namespace Go.Proofs.Ytflmlejgahnppaa.PExt
open Go.RowKit Go.Shelf Go.Sort Go.Proofs.YtflmlejgahnppaaW.PrintWords Go.Proofs.YtflmlejgahnppaaW.PrintLast Go.Proofs.YtflmlejgahnppaaW.PrintMore

attribute [local go_sem] Oper.semAt_some

theorem Box2.frozen {W : World} {B : Nat} {x : S23} (h : Box2 W B x) (j : Nat) : W.frozen? ⟨B, j, none⟩ = false := by simp [World.frozen?, show W.heap[B]? = _ from h]

theorem Box2.set {W : World} {B : Nat} {x : S23} (h : Box2 W B x) (a b : Int) : Box2 ((W.setCell ⟨B, 0, none⟩ (.int .i64 a)).setCell ⟨B, 1, none⟩ (.int .i64 b)) B ⟨a, b⟩ := by
  have h1 : (W.setCell ⟨B, 0, none⟩ (.int .i64 a)).heap[B]? = some (.cells #[.int .i64 a, .int .i64 x.f1] 23 (0, 0)) := blk_put h 0 _ rfl
  exact blk_put h1 1 _ rfl
theorem Box2.other {W : World} {B : Nat} {x : S23} (h : Box2 W B x) {p : Addr} (hne : B ≠ p.block) (u : Value) : Box2 (W.setCell p u) B x := (Below.heap_setCell W p u B hne).trans h
theorem bx_other {W : World} {B : Nat} {t : TypeId} {v : Value} (h : Boxed W B t v) {p : Addr} (hne : B ≠ p.block) (u : Value) : Boxed (W.setCell p u) B t v := (Below.heap_setCell W p u B hne).trans h

set_option maxRecDepth 100000 in
set_option maxHeartbeats 4000000 in
theorem fit_loop (s m n1 : Int) (A : Option Addr) (c : Nat) (us : List S23) (w : World) (hlen : us.length ≤ 8796093021952) (hn1 : ¬ n1 < 1) (hX : Xs w.heap.size w A us) (r : Int × Int × Int) (hr : Hid (r = fitOf n1 (gapsOf s (rowOf s m us))))
    (hR : ∀ W, Below w.heap.size w W → Calls Try.prog 12 #[.agg #[.int .i64 s, .int .i64 m], .slice A us.length c] W fun e w' => e = .returned (.bool true) ∧ Below W.heap.size W w') :
    CallsIn Fence.wide 10 Try.prog 9 #[.agg #[.int .i64 s, .int .i64 m], .int .i64 n1, .slice A us.length c] w fun e w' => e = .returned (.tuple #[.agg #[.int .i64 r.1, .int .i64 r.2.1], .int .i64 r.2.2]) ∧ Below w.heap.size w w' := by
  refine callsIn_of_wp_marks Try.func9 rfl trivial ?_ rfl
  simp only [Try.ntmps9, List.size_toArray, List.length_cons, List.length_nil, Nat.reduceAdd, Nat.reduceSub, Array.replicate_succ, Array.replicate_zero, List.push_toArray, List.append_toArray, List.nil_append, List.cons_append]
  have hd : decide (n1 < 1) = false := by simpa using hn1
  gi_wp2_with fail
  have hB0 : Below w.heap.size w ((((w.alloc (.cells #[.int .i64 s, .int .i64 m] 23)).alloc (.cells #[.int .i64 n1] 3)).alloc (.cells #[.int .i64 0, .int .i64 0] 23)).alloc (.cells #[.int .i64 0] 26)) :=
    ((((Below.refl _ w).alloc (Nat.le_refl _) _).alloc (by simp) _).alloc (by simp; omega) _).alloc (by simp; omega) _
  have bS := (((Box2.new w ⟨s, m⟩).alloc (.cells #[.int .i64 n1] 3)).alloc (.cells #[.int .i64 0, .int .i64 0] 23)).alloc (.cells #[.int .i64 0] 26)
  have bN := ((Boxed.new (w.alloc (.cells #[.int .i64 s, .int .i64 m] 23)) 3 (.int .i64 n1)).alloc (.cells #[.int .i64 0, .int .i64 0] 23)).alloc (.cells #[.int .i64 0] 26)
  have bE := (Box2.new ((w.alloc (.cells #[.int .i64 s, .int .i64 m] 23)).alloc (.cells #[.int .i64 n1] 3)) ⟨0, 0⟩).alloc (.cells #[.int .i64 0] 26)
  have bO := Boxed.new (((w.alloc (.cells #[.int .i64 s, .int .i64 m] 23)).alloc (.cells #[.int .i64 n1] 3)).alloc (.cells #[.int .i64 0, .int .i64 0] 23)) 26 (.int .i64 0)
  have hsz : ((((w.alloc (.cells #[.int .i64 s, .int .i64 m] 23)).alloc (.cells #[.int .i64 n1] 3)).alloc (.cells #[.int .i64 0, .int .i64 0] 23)).alloc (.cells #[.int .i64 0] 26)).heap.size = w.heap.size + 4 := by simp
  simp only [World.size_alloc] at bN bE bO
  dsimp only at bS bE
  obtain ⟨W0, hW0⟩ : ∃ W0, (((w.alloc (.cells #[.int .i64 s, .int .i64 m] 23)).alloc (.cells #[.int .i64 n1] 3)).alloc (.cells #[.int .i64 0, .int .i64 0] 23)).alloc (.cells #[.int .i64 0] 26) = W0 := ⟨_, rfl⟩
  rw [hW0] at hB0 bS bN bE bO hsz ⊢
  clear hW0
  refine ⟨trivial, ?_⟩
  refine (callsIn_wide.2 (hR W0 hB0)).mono ?_
  rintro e W1 ⟨rfl, hB1⟩
  replace bS : Box2 W1 w.heap.size ⟨s, m⟩ := bS.below hB1 (by omega)
  replace bN : Boxed W1 (w.heap.size + 1) 3 (.int .i64 n1) := (hB1.block (w.heap.size + 1) (by omega)).trans bN
  replace bE : Box2 W1 (w.heap.size + 1 + 1) ⟨0, 0⟩ := bE.below hB1 (by omega)
  replace bO : Boxed W1 (w.heap.size + 1 + 1 + 1) 26 (.int .i64 0) := (hB1.block (w.heap.size + 1 + 1 + 1) (by omega)).trans bO
  replace hB1 : Below w.heap.size w W1 := hB0.trans (hB1.mono (by omega))
  have hsz1 : w.heap.size + 4 ≤ W1.heap.size := by have := bO.lt; omega
  clear hB0 hsz W0 hR
  have hs0 := bS.cell0
  have hs1 := bS.cell1
  dsimp only at hs0 hs1
  gi_wp2_with fail
  refine ⟨trivial, ?_⟩
  refine (callsIn_wide.2 (gaps_any s m A us.length c W1)).mono ?_
  rintro e W2' ⟨rfl, rfl⟩
  gi_wp2_with fail
  have hB2 : Below W1.heap.size W1 ((W1.alloc (.cells #[.int .i64 s, .int .i64 m] 23)).alloc (.cells #[.slice A us.length c] 24)) := ((Below.refl _ W1).alloc (Nat.le_refl _) _).alloc (by simp) _
  have by1 := (Box2.new W1 ⟨s, m⟩).alloc (.cells #[.slice A us.length c] 24)
  have by2 := Boxed.new (W1.alloc (.cells #[.int .i64 s, .int .i64 m] 23)) 24 (.slice A us.length c)
  rw [World.size_alloc] at by2
  dsimp only at by1
  have hsz2 : ((W1.alloc (.cells #[.int .i64 s, .int .i64 m] 23)).alloc (.cells #[.slice A us.length c] 24)).heap.size = W1.heap.size + 2 := by simp
  obtain ⟨W2, hW2⟩ : ∃ W2, (W1.alloc (.cells #[.int .i64 s, .int .i64 m] 23)).alloc (.cells #[.slice A us.length c] 24) = W2 := ⟨_, rfl⟩
  rw [hW2] at hB2 by1 by2 hsz2 ⊢
  clear hW2 hs0 hs1
  replace bN : Boxed W2 (w.heap.size + 1) 3 (.int .i64 n1) := (hB2.block (w.heap.size + 1) (by omega)).trans bN
  replace bE : Box2 W2 (w.heap.size + 1 + 1) ⟨0, 0⟩ := bE.below hB2 (by omega)
  replace bO : Boxed W2 (w.heap.size + 1 + 1 + 1) 26 (.int .i64 0) := (hB2.block (w.heap.size + 1 + 1 + 1) (by omega)).trans bO
  have hX2 : Xs W2.heap.size W2 A us := ((hX.below hB1).grow hB1.size).below hB2 |>.grow hB2.size
  have hBw : Below w.heap.size w W2 := hB1.trans (hB2.mono hB1.size)
  have hseq := gaps_stops 9 (by omega) W1.heap.size (W1.heap.size + 1) (w.heap.size + 1) w.heap.size s m A c us hlen W2 (by omega) (by omega) (fun v hv => by simpa using hv.symm.trans bN) (by omega) (by omega) by1.cell0 by1.cell1 by2.cell hX2
  clear hX2 by1 by2 hX bS hB2 hlen
  refine wpIn_rangeFunc_ownH rfl (by omega) (gf := 24) (lb := #[.pointer (some ⟨W1.heap.size, 0, none⟩), .pointer (some ⟨W1.heap.size + 1, 0, none⟩)]) rfl trivial (enters_of Try.func24 (by kernel_rfl) rfl) hseq kpM_t (kpM_b (by omega) (by omega)) (Below.refl _ _) (fun _ => rfl)
    (fun pre W => ((∀ p ∈ pre, p.f1 < n1) ∧ Boxed W (w.heap.size + 1) 3 (.int .i64 n1) ∧ Box2 W (w.heap.size + 1 + 1) ⟨0, 0⟩ ∧ Boxed W (w.heap.size + 1 + 1 + 1) 26 (.int .i64 0)) ∧ Below w.heap.size w W)
    (fun cc pre W => (cc = .ret ∧ ∃ ini last, pre = ini ++ [last] ∧ (∀ p ∈ ini, p.f1 < n1) ∧ n1 ≤ last.f1 ∧ Box2 W (w.heap.size + 1 + 1) ⟨last.f0, n1⟩ ∧ Boxed W (w.heap.size + 1 + 1 + 1) 26 (.int .i64 0)) ∧ Below w.heap.size w W)
    (OwnFrom.and (Own.from (fun p A B row hs hg hr => ⟨hs.1, boxed_own _ _ (fun (_ : Unit) => Value.int .i64 n1) () A B row hs.2.1 hg hr, box2_own _ (fun (_ : Unit) => (⟨0, 0⟩ : S23)) () A B row hs.2.2.1 hg hr, boxed_own _ _ (fun (_ : Unit) => Value.int .i64 0) () A B row hs.2.2.2 hg hr⟩) _) (ownFrom_below (Nat.le_refl _) (by omega)))
    (fun cc => OwnFrom.and (Own.from (fun p A B row hs hg hr => by obtain ⟨hc, ini, last, e1, e2, e3, e4, e5⟩ := hs; exact ⟨hc, ini, last, e1, e2, e3, box2_own _ (fun (_ : Unit) => (⟨last.f0, n1⟩ : S23)) () A B row e4 hg hr, boxed_own _ _ (fun (_ : Unit) => Value.int .i64 0) () A B row e5 hg hr⟩) _) (ownFrom_below (Nat.le_refl _) (by omega)))
    ⟨⟨by simp, bN, bE, bO⟩, hBw⟩
    (fun x a' W => ∃ Bx, w.heap.size + 3 < Bx ∧ Box2 W Bx x ∧ a' = { tmps := #[.agg #[.int .i64 s, .int .i64 m], .int .i64 n1, .slice A us.length c, .pointer (some ⟨w.heap.size, 0, none⟩), .pointer (some ⟨w.heap.size + 1, 0, none⟩), undef, .pointer (some ⟨w.heap.size + 1 + 1, 0, none⟩), .pointer (some ⟨w.heap.size + 1 + 1 + 1, 0, none⟩), .pointer (some ⟨Bx, 0, none⟩), .int .i64 n1, .bool false, .bool false, .agg #[.int .i64 s, .int .i64 m], .slice A us.length c, .bool true, .bool false, .bool false, undef, .agg #[.int .i64 s, .int .i64 m], .slice A us.length c, .func (.func 24) #[] #[.pointer (some ⟨W1.heap.size, 0, none⟩), .pointer (some ⟨W1.heap.size + 1, 0, none⟩)], .agg #[.int .i64 x.f0, .int .i64 x.f1], undef, undef, undef, undef, undef, undef, undef, undef, undef], defers := [] })
    (fun x a' _ X Y row hs hg hr => by obtain ⟨Bx, h1, h2, h3⟩ := hs; exact ⟨Bx, h1, box2_own Bx (fun (_ : Unit) => x) () X Y row h2 hg (fun r e => (hr r e).2), h3⟩)
    ?assign ?body ?done ?stop
  case assign =>
    rintro l pre x W K ⟨⟨hp, b1, b2, b3⟩, hB⟩ hK
    have hl3 := b3.lt
    gi_wp2
    exact hK _ _ ((KeepsOthers.alloc _ _).from _) (kpM_alloc hB.size b1.lt _) ⟨⟨hp, b1.alloc _, b2.alloc _, b3.alloc _⟩, hB.alloc hB.size _⟩ ⟨W.heap.size, by omega, Box2.new W x, rfl⟩
  case body =>
    rintro l pre x a' W hl ⟨r, hr⟩ ⟨⟨hp, b1, b2, b3⟩, hB⟩ ⟨Bx, hBx, bX, rfl⟩ hlt
    have hc := b1.cell
    have hx0 := bX.cell0
    have hx1 := bX.cell1
    by_cases hge : n1 ≤ x.f1
    · have hd1 : decide (n1 ≤ x.f1) = true := by simpa using hge
      have he0 := b2.cell0
      have he1 := b2.cell1
      have ho := b3.cell
      have fe0 := b2.frozen 0
      have fe1 := b2.frozen 1
      have fo := b3.frozen
      gi_wp2
      refine ⟨(((KeepsOthers.setCell _ _ _).trans (KeepsOthers.setCell _ _ _)).trans (KeepsOthers.setCell _ _ _)).from _, ⟨rfl, pre, x, rfl, hp, hge, (b2.set x.f0 n1).other (by simp) _, (bx_other (bx_other b3 (by simp) _) (by simp) _).set _⟩, ?_⟩
      exact ((hB.setCell (p := ⟨w.heap.size + 1 + 1, 0, none⟩) (by simp; omega) _).setCell (p := ⟨w.heap.size + 1 + 1, 1, none⟩) (by simp; omega) _).setCell (p := ⟨w.heap.size + 1 + 1 + 1, 0, none⟩) (by simp; omega) _
    · have hd1 : decide (n1 ≤ x.f1) = false := by simpa using hge
      gi_wp2
      exact ⟨KeepsFrom.refl _ _, kpM_refl _ _ _, ⟨fun p hp' => (List.mem_append.1 hp').elim (hp p) (fun e => by simp at e; subst e; omega), b1, b2, b3⟩, hB⟩
  case done =>
    rintro D ys W hD rfl ⟨⟨hp, b1, b2, b3⟩, hB⟩ hK
    have he0 := b2.cell0
    have he1 := b2.cell1
    have ho := b3.cell
    have fe0 := b2.frozen 0
    have fe1 := b2.frozen 1
    have fo := b3.frozen
    gi_wp2
    have hK' : (((W.setCell ⟨w.heap.size + 1 + 1, 0, none⟩ (.int .i64 0)).setCell ⟨w.heap.size + 1 + 1, 1, none⟩ (.int .i64 0)).setCell ⟨w.heap.size + 1 + 1 + 1, 0, none⟩ (.int .i64 111)).heap[D]? = some (.deferred (some [])) :=
      (((KeepsOthers.setCell _ _ _).trans (KeepsOthers.setCell _ _ _)).trans (KeepsOthers.setCell _ _ _)).same D _ hK rfl
    refine ⟨by simp, .inl ⟨_, _, rfl, run_takeDeferred hK', ?_⟩⟩
    have d2 := (b2.set 0 0).other (p := ⟨w.heap.size + 1 + 1 + 1, 0, none⟩) (by simp) (.int .i64 111)
    have d3 := (bx_other (bx_other b3 (p := ⟨w.heap.size + 1 + 1, 0, none⟩) (by simp) (.int .i64 0)) (p := ⟨w.heap.size + 1 + 1, 1, none⟩) (by simp) (.int .i64 0)).set (.int .i64 111)
    have q0 := (d2.kept (grownBy_putObj' _ D (.deferred none)) (by simp; omega)).cell0
    have q1 := (d2.kept (grownBy_putObj' _ D (.deferred none)) (by simp; omega)).cell1
    have q2 := (d3.kept (grownBy_putObj' _ D (.deferred none)) (by simp; omega)).cell
    dsimp only at q0 q1
    have er : r = (0, 0, 111) := by rw [hr.out]; exact fitOf_none (fun p hp' => by have := hp p hp'; omega)
    refine ⟨.tuple #[.agg #[.int .i64 0, .int .i64 0], .int .i64 111], ?_, by rw [er], ?_⟩
    · simp [results, Try.f9, go_sem, q0, q1, q2]
    · exact (((hB.setCell (p := ⟨w.heap.size + 1 + 1, 0, none⟩) (by simp; omega) _).setCell (p := ⟨w.heap.size + 1 + 1, 1, none⟩) (by simp; omega) _).setCell (p := ⟨w.heap.size + 1 + 1 + 1, 0, none⟩) (by simp; omega) _).trans (belowK_b (w := w) (Nat.le_refl _) _ D _ _ (by omega) hK' rfl rfl)
  case stop =>
    rintro D cc pre W hD hpre ⟨⟨rfl, ini, last, rfl, hini, hlast, b2, b3⟩, hB⟩ hK
    gi_wp2
    refine ⟨by simp, .inl ⟨_, _, rfl, run_takeDeferred hK, ?_⟩⟩
    have q0 := (b2.kept (grownBy_putObj' _ D (.deferred none)) (by simp; omega)).cell0
    have q1 := (b2.kept (grownBy_putObj' _ D (.deferred none)) (by simp; omega)).cell1
    have q2 := (b3.kept (grownBy_putObj' _ D (.deferred none)) (by simp; omega)).cell
    dsimp only at q0 q1
    have er : r = (last.f0, n1, 0) := by rw [hr.out]; exact fitOf_some hpre (fun p hp' => by have := hini p hp'; omega) hlast
    refine ⟨.tuple #[.agg #[.int .i64 last.f0, .int .i64 n1], .int .i64 0], ?_, by rw [er], ?_⟩
    · simp [results, Try.f9, go_sem, q0, q1, q2]
    · exact hB.trans (belowK_b (w := w) (Nat.le_refl _) W D _ _ (by omega) hK rfl rfl)

set_option maxRecDepth 100000 in
set_option maxHeartbeats 2000000 in
theorem fit_low (s m n1 : Int) (A : Option Addr) (c len : Nat) (w : World) (hn1 : n1 < 1) :
    Calls Try.prog 9 #[.agg #[.int .i64 s, .int .i64 m], .int .i64 n1, .slice A len c] w fun e w' => e = .returned (.tuple #[.agg #[.int .i64 0, .int .i64 0], .int .i64 1]) ∧ Below w.heap.size w w' := by
  have hd : decide (n1 < 1) = true := by simpa using hn1
  go_enter Try.func9, Try.ntmps9
  go_wp2
  exact bodyPost_ret (v := .tuple #[.agg #[.int .i64 0, .int .i64 0], .int .i64 1]) (by simp [results, Try.f9, go_sem]) rfl ⟨rfl, ((((Below.refl _ w).alloc (Nat.le_refl _) _).alloc (by simp) _).alloc (by simp; omega) _).alloc (by simp; omega) _⟩

set_option maxRecDepth 100000 in
set_option maxHeartbeats 2000000 in
theorem fit_bad (s m n1 : Int) (A : Option Addr) (c len : Nat) (w : World) (hn1 : ¬ n1 < 1)
    (hR : ∀ W, Below w.heap.size w W → Calls Try.prog 12 #[.agg #[.int .i64 s, .int .i64 m], .slice A len c] W fun e w' => e = .returned (.bool false) ∧ Below W.heap.size W w') :
    Calls Try.prog 9 #[.agg #[.int .i64 s, .int .i64 m], .int .i64 n1, .slice A len c] w fun e w' => e = .returned (.tuple #[.agg #[.int .i64 0, .int .i64 0], .int .i64 1]) ∧ Below w.heap.size w w' := by
  have hd : decide (n1 < 1) = false := by simpa using hn1
  go_enter Try.func9, Try.ntmps9
  go_wp2_with fail
  have hB0 : Below w.heap.size w ((((w.alloc (.cells #[.int .i64 s, .int .i64 m] 23)).alloc (.cells #[.int .i64 n1] 3)).alloc (.cells #[.int .i64 0, .int .i64 0] 23)).alloc (.cells #[.int .i64 0] 26)) :=
    ((((Below.refl _ w).alloc (Nat.le_refl _) _).alloc (by simp) _).alloc (by simp; omega) _).alloc (by simp; omega) _
  have bE := (Box2.new ((w.alloc (.cells #[.int .i64 s, .int .i64 m] 23)).alloc (.cells #[.int .i64 n1] 3)) ⟨0, 0⟩).alloc (.cells #[.int .i64 0] 26)
  have bO := Boxed.new (((w.alloc (.cells #[.int .i64 s, .int .i64 m] 23)).alloc (.cells #[.int .i64 n1] 3)).alloc (.cells #[.int .i64 0, .int .i64 0] 23)) 26 (.int .i64 0)
  have hsz : ((((w.alloc (.cells #[.int .i64 s, .int .i64 m] 23)).alloc (.cells #[.int .i64 n1] 3)).alloc (.cells #[.int .i64 0, .int .i64 0] 23)).alloc (.cells #[.int .i64 0] 26)).heap.size = w.heap.size + 4 := by simp
  simp only [World.size_alloc] at bE bO
  obtain ⟨W0, hW0⟩ : ∃ W0, (((w.alloc (.cells #[.int .i64 s, .int .i64 m] 23)).alloc (.cells #[.int .i64 n1] 3)).alloc (.cells #[.int .i64 0, .int .i64 0] 23)).alloc (.cells #[.int .i64 0] 26) = W0 := ⟨_, rfl⟩
  rw [hW0] at hB0 bE bO hsz ⊢
  clear hW0
  refine (hR W0 hB0).mono ?_
  rintro e W1 ⟨rfl, hB1⟩
  replace bE : Box2 W1 (w.heap.size + 1 + 1) ⟨0, 0⟩ := bE.below hB1 (by omega)
  replace bO : Boxed W1 (w.heap.size + 1 + 1 + 1) 26 (.int .i64 0) := (hB1.block (w.heap.size + 1 + 1 + 1) (by omega)).trans bO
  replace hB1 : Below w.heap.size w W1 := hB0.trans (hB1.mono (by omega))
  clear hB0 hsz W0 hR
  have he0 := bE.cell0
  have he1 := bE.cell1
  have ho := bO.cell
  have fe0 := bE.frozen 0
  have fe1 := bE.frozen 1
  have fo := bO.frozen
  go_wp2
  have d2 := (bE.set 0 0).other (p := ⟨w.heap.size + 1 + 1 + 1, 0, none⟩) (by simp) (.int .i64 1)
  have d3 := (bx_other (bx_other bO (p := ⟨w.heap.size + 1 + 1, 0, none⟩) (by simp) (.int .i64 0)) (p := ⟨w.heap.size + 1 + 1, 1, none⟩) (by simp) (.int .i64 0)).set (.int .i64 1)
  have q0 := d2.cell0
  have q1 := d2.cell1
  have q2 := d3.cell
  dsimp only at q0 q1
  exact bodyPost_ret (v := .tuple #[.agg #[.int .i64 0, .int .i64 0], .int .i64 1]) (by simp [results, Try.f9, go_sem, q0, q1, q2]) rfl ⟨rfl, ((hB1.setCell (p := ⟨w.heap.size + 1 + 1, 0, none⟩) (by simp; omega) _).setCell (p := ⟨w.heap.size + 1 + 1, 1, none⟩) (by simp; omega) _).setCell (p := ⟨w.heap.size + 1 + 1 + 1, 0, none⟩) (by simp; omega) _⟩

theorem extent_Fit.calls (k : Nat) (a0_0 : Int) (a0_1 : Int) (a1 : Int) (A2 : Option Addr) (c2 : Nat) (l2 : List (S23)) (r1 : Int) (r2 : Int) (r3 : Int) (w : World) (hr2 : Kd.C k23 w A2 l2.length l2) (hc2 : l2.length ≤ c2) (h : extent_Fit.f k a0_0 a0_1 a1 l2 = some (r1, r2, r3)) :
    Calls Try.prog 9 #[.agg #[.int .i64 a0_0, .int .i64 a0_1], .int .i64 a1, .slice A2 l2.length c2] w fun e w' => e = .returned (.tuple #[.agg #[.int .i64 r1, .int .i64 r2], .int .i64 r3]) ∧ Below w.heap.size w w' := by
  unfold extent_Fit.f at h
  split at h
  · rename_i hn
    simp only [Option.some.injEq, Prod.mk.injEq] at h
    obtain ⟨rfl, rfl, rfl⟩ := h
    exact fit_low a0_0 a0_1 a1 A2 c2 l2.length w hn
  · rename_i hn
    obtain ⟨b, hb, hr⟩ := Option.bind_eq_some_iff.mp h
    have hR : ∀ W, Below w.heap.size w W → Calls Try.prog 12 #[.agg #[.int .i64 a0_0, .int .i64 a0_1], .slice A2 l2.length c2] W fun e w' => e = .returned (.bool b) ∧ Below W.heap.size W w' :=
      fun W hB => extent_Right.calls k a0_0 a0_1 A2 c2 l2 b W (Kd.C_below hr2 hB) hc2 hb
    cases b with
    | false =>
      simp at hr
      obtain ⟨rfl, rfl, rfl⟩ := hr
      exact fit_bad a0_0 a0_1 a1 A2 c2 l2.length w hn hR
    | true =>
      simp only [if_true] at hr
      split at hr
      · rename_i hl
        injection hr with hr
        exact callsIn_wide.1 (fit_loop a0_0 a0_1 a1 A2 c2 l2 w hl hn (Xs_of_C hr2) (r1, r2, r3) (Lib.hid hr.symm) hR)
      · cases hr

end Go.Proofs.Ytflmlejgahnppaa.PExt
