/- The contracts of the iterator extent.gaps, and of extent.Gaps and extent.Fit over it. -/
import Derived.Test.YtflmlejgahnppaaSort
import Derived.Test.YtflmlejgahnppaaPExtx3
import Derived.RegionIn
import Derived.BigRegionIn
namespace Go.Proofs.Ytflmlejgahnppaa.PExt
open Go.RowKit Go.Shelf Go.Sort Go.Proofs.YtflmlejgahnppaaW.PrintWords Go.Proofs.YtflmlejgahnppaaW.PrintLast Go.Proofs.YtflmlejgahnppaaW.PrintMore

attribute [local go_sem] Oper.semAt_some

/-- Where the next gap may begin, and the gaps so far. -/
def atOf : Int → List S23 → Int
  | a, [] => a
  | _, x :: xs => atOf (wrap64 (x.f0 + x.f1)) xs
def gapsOf : Int → List S23 → List S23
  | _, [] => []
  | a, x :: xs => (if a < x.f0 then [⟨a, wrap64 (x.f0 - a)⟩] else []) ++ gapsOf (wrap64 (x.f0 + x.f1)) xs
theorem atOf_snoc (a : Int) (l : List S23) (x : S23) : atOf a (l ++ [x]) = wrap64 (x.f0 + x.f1) := by
  induction l generalizing a with
  | nil => rfl
  | cons y l ih => exact ih _
theorem gapsOf_snoc (a : Int) (l : List S23) (x : S23) : gapsOf a (l ++ [x]) = gapsOf a l ++ (if atOf a l < x.f0 then [⟨atOf a l, wrap64 (x.f0 - atOf a l)⟩] else []) := by
  induction l generalizing a with
  | nil => simp [gapsOf, atOf]; rfl
  | cons y l ih => simp [gapsOf, atOf, ih]; rfl
theorem gapsOf_length (a : Int) (l : List S23) : (gapsOf a l).length ≤ l.length := by
  induction l generalizing a with
  | nil => simp [gapsOf]
  | cons y l ih =>
    have := ih (wrap64 (y.f0 + y.f1))
    simp only [gapsOf, List.length_append, List.length_cons]
    split <;> simp <;> omega
theorem gapsOf_prefix (a : Int) (l : List S23) (k : Nat) : gapsOf a (l.take k) <+: gapsOf a l := by
  induction l generalizing a k with
  | nil => simp [gapsOf]
  | cons y l ih =>
    cases k with
    | zero => simp [gapsOf]
    | succ k =>
      simp only [List.take_succ_cons, gapsOf]
      obtain ⟨t, ht⟩ := ih (wrap64 (y.f0 + y.f1)) k
      exact ⟨t, by rw [List.append_assoc, ht]⟩
/-- What is gone through: the sorted extents, and the end. -/
def rowOf (s n : Int) (l : List S23) : List S23 := sortX l ++ [⟨wrap64 (s + n), 0⟩]
theorem rowOf_length (s n : Int) (l : List S23) : (rowOf s n l).length = l.length + 1 := by simp [rowOf, sortX_length]

/-- The cells of a row of extents. -/
theorem row_cells {W : World} {g : Nat} {cur : Array Value} {xs : List S23} (hg : W.heap[g]? = some (.cells cur 23 (0, 0))) (ht : cur.toList.take (xs.length * 2) = cxs xs) (j : Nat) (hj : j < xs.length) :
    W.cell? ⟨g, j * 2, none⟩ = some (.int .i64 xs[j].f0) ∧ W.cell? ⟨g, j * 2 + 1, none⟩ = some (.int .i64 xs[j].f1) := by
  have h := holdsK_of_own hg ht
  have h0 := (h.cell (i := j) (c := 0) (by simpa using hj) (by omega)).1
  have h1 := (h.cell (i := j) (c := 1) (by simpa using hj) (by omega)).1
  simp only [Nat.zero_add, Nat.add_zero] at h0 h1
  refine ⟨h0.trans ?_, h1.trans ?_⟩ <;> simp [cx, hj]

set_option maxRecDepth 100000 in
set_option maxHeartbeats 4000000 in
theorem gaps1_in (n : Nat) (hn : 1 ≤ n) (l Br Bu b0 n₀ : Nat) (s m : Int) (A : Option Addr) (c : Nat) (us L : List S23) (HL : Hid (L = rowOf s m us)) (hlen : us.length ≤ 8796093021952) (J Jx : List S23 → World → Prop) (W : World) (hJ : AbidesFrom W.heap.size J) (hn0 : n₀ ≤ W.heap.size) (hbl : b0 < W.heap.size) (hbox : ∀ v, Boxed W b0 24 v → v = .slice none 0 0)
    (hY : ∀ pre x W, J pre W → pre.length < us.length + 1 → YieldAt Fence.wide (n - 1) Try.prog l #[.agg #[.int .i64 x.f0, .int .i64 x.f1]] W fun e W' =>
      (e = .returned (.bool true) ∧ J (pre ++ [x]) W' ∧ KpM n₀ b0 W W') ∨ (e = .returned (.bool false) ∧ Jx (pre ++ [x]) W'))
    (hr0 : W.cell? ⟨Br, 0, none⟩ = some (.int .i64 s)) (hr1 : W.cell? ⟨Br, 1, none⟩ = some (.int .i64 m)) (hu : W.cell? ⟨Bu, 0, none⟩ = some (.slice A us.length c))
    (hI : Xs W.heap.size W A us) (h0 : J [] W) :
    CallsIn Fence.wide n Try.prog 24 #[.func (.yield l) #[] #[], .pointer (some ⟨Br, 0, none⟩), .pointer (some ⟨Bu, 0, none⟩)] W fun e W' => (∃ v, e = .returned v) ∧
      ((∃ ys, ys = gapsOf s L ∧ J ys W') ∨ (∃ pre, pre <+: gapsOf s L ∧ Jx pre W')) := by
  refine callsIn_of_wp Try.func24 rfl trivial ?_ rfl
  simp only [Try.ntmps24, List.size_toArray, List.length_cons, List.length_nil, Nat.reduceAdd, Nat.reduceSub, Array.replicate_succ, Array.replicate_zero, List.push_toArray, List.append_toArray, List.nil_append, List.cons_append]
  gi_wp2_with fail
  gi_region
  gi_wp2_with fail
  refine ⟨trivial, ?_⟩
  refine (callsIn_wide.2 (sorted_any A c us W.drew hlen hI)).mono ?_
  rintro e W1 ⟨v, rfl, ho0, hB⟩
  have ho : W1.ownsRow W.heap.size 23 2 v us.length (cxs (sortX us)) := ho0
  clear ho0
  have hB' : Below W.heap.size W W1 := ⟨hB.os, hB.tape, hB.output, hB.size, hB.block⟩
  have hsz := hB'.size
  obtain ⟨i0, hi, hz0, hz1, hz2⟩ := info_parts info23'
  have hJ1 : ∀ W2, Below W.heap.size W W2 → J [] W2 := fun W2 hb => hJ [] W W2 none h0 ⟨hb.os, hb.tape, hb.output, hb.size, fun k hk _ => hb.block k hk⟩ (by simp)
  gi_wp2_with (gi_at_builtin; refine wpListIn_append_own _ rfl _ _ 24 rfl W.heap.size 23 i0 (.agg #[.int .i64 0, .int .i64 0]) 2 16 Try.underlying24 hi hz0 hz1 hz2 rfl (by decide) v us.length (cxs (sortX us)) rfl (ho.alloc _) ⟨W1.heap.size, 0, none⟩ 1 1 [.int .i64 (wrap64 (s + m)), .int .i64 0] rfl rfl (cell_two _ _ _ _) (by simp [Value.oneCell']) (by unfold maxLen; omega) (by omega) (by simp; omega) ?_; intro v' w1 hown' hgrow _; obtain ⟨g', cap', rfl⟩ := ownsRow_succ hown')
  have hbe1 : Below W.heap.size W w1 := (hB'.alloc hsz _).grown hgrow (by simp; omega) (fun k hk => by
    rcases ho.2 with ⟨rfl, _⟩ | ⟨g, cap, cur, rfl, hbase, _⟩
    · simp [Value.ownBlock] at hk
    · have : g = k := by simpa [Value.ownBlock] using hk
      omega)
  have hl : L.length = us.length + 1 := by rw [HL.out]; exact rowOf_length s m us
  obtain ⟨cur, hgb, hgW, htake⟩ : ∃ cur, w1.heap[g']? = some (.cells cur 23 (0, 0)) ∧ W.heap.size ≤ g' ∧ cur.toList.take (L.length * 2) = cxs L := by
    rcases hown'.2 with ⟨h, _⟩ | ⟨g2, cap2, cur, he, hbase, hgb, _, _, _, ht⟩
    · cases h
    · injection he with e1 _ e3
      injection e1 with e1
      injection e1 with e1
      subst e1
      exact ⟨cur, hgb, hbase, by rw [hl, ht, HL.out, rowOf, cxs_snoc]⟩
  have hmine : ∀ k, Mine b0 w1 k → k = b0 := by
    rintro k (h | ⟨v, hv, hvo⟩)
    · exact h
    · have hv0 : Boxed W b0 24 v := by unfold Boxed at hv ⊢; rwa [hbe1.block b0 hbl] at hv
      have : v = .slice none 0 0 := hbox v hv0
      subst this
      simp [Value.ownBlock] at hvo
  have hnm : ¬ Mine b0 w1 g' := fun h => by have := hmine _ h; omega
  have hsane : ∀ k, Mine b0 w1 k → k < w1.heap.size := fun k h => by have := hmine _ h; have := hbe1.size; omega
  have hJ0 := hJ1 w1 hbe1
  clear hown' hgrow hmine ho hI hB hu hr0 hr1 hJ1 hi hz0 hz1 hz2
  have hl' : L.length ≤ us.length + 1 := by omega
  have hl'' : us.length + 1 ≤ L.length := by omega
  clear hl
  gi_loopw [4, 22] (fun at_ i wr => ∃ k : Nat, k ≤ us.length + 1 ∧ i = .int .i64 k ∧ at_ = .int .i64 (atOf s (L.take k)) ∧ J (gapsOf s (L.take k)) wr ∧ wr.heap[g']? = some (.cells cur 23 (0, 0)) ∧ ¬ Mine b0 wr g' ∧ W.heap.size ≤ wr.heap.size ∧ b0 < wr.heap.size ∧ (∀ k, Mine b0 wr k → k < wr.heap.size))
    (fun _ i _ => us.length + 1 - (intOf i).toNat)
  case atStart => exact ⟨0, Nat.zero_le _, rfl, rfl, hJ0, hgb, hnm, hbe1.size, Nat.lt_of_lt_of_le hbl hbe1.size, hsane⟩
  case round =>
    obtain ⟨k, hk, rfl, rfl, hJs, hrow, hnm', hszr, hbr, hsn⟩ := hrel
    by_cases hlt : k < us.length + 1
    · have hkL : k < L.length := by omega
      obtain ⟨hc0, hc1⟩ := row_cells hrow htake k hkL
      have HT := Lib.hid (take_snoc L hkL)
      obtain ⟨x0, hx0⟩ : ∃ x0, x0 = L[k].f0 := ⟨_, rfl⟩
      obtain ⟨x1, hx1⟩ : ∃ x1, x1 = L[k].f1 := ⟨_, rfl⟩
      rw [← hx0] at hc0
      rw [← hx1] at hc1
      have HX0 := Lib.hid hx0
      have HX1 := Lib.hid hx1
      clear hx0 hx1
      obtain ⟨a0, ha0⟩ : ∃ a0, a0 = atOf s (L.take k) := ⟨_, rfl⟩
      have HA := Lib.hid ha0
      have hJs' : J (gapsOf s (L.take k)) (wr.alloc (.cells #[.int .i64 x0, .int .i64 x1] 23)) := hJ _ _ _ none hJs (World.grownBy_alloc wr _ none) (by simp)
      have hka := kpM_alloc (W := wr) (n₀ := n₀) (b0 := b0) (Nat.le_trans hn0 hszr) hbr (.cells #[.int .i64 x0, .int .i64 x1] 23)
      have hg' : g' < wr.heap.size := (Array.getElem?_eq_some_iff.1 hrow).1
      have hrow' : (wr.alloc (.cells #[.int .i64 x0, .int .i64 x1] 23)).heap[g']? = some (.cells cur 23 (0, 0)) := (hka.2.1 g' hg' ⟨_, _, _, hrow⟩ hnm').trans hrow
      have hnm2 : ¬ Mine b0 (wr.alloc (.cells #[.int .i64 x0, .int .i64 x1] 23)) g' := fun h => (hka.2.2 g' h).elim hnm' (fun h2 => by omega)
      have hnb : ¬ Mine b0 (wr.alloc (.cells #[.int .i64 x0, .int .i64 x1] 23)) wr.heap.size := by
        rintro (h | ⟨v, hv, hvo⟩)
        · omega
        · have hv0 : Boxed wr b0 24 v := by unfold Boxed at hv ⊢; rwa [(World.grownBy_alloc wr _ none).block b0 hbr (by simp)] at hv
          have := hsn _ (.inr ⟨v, hv0, hvo⟩)
          omega
      have hsn2 : ∀ k, Mine b0 (wr.alloc (.cells #[.int .i64 x0, .int .i64 x1] 23)) k → k < wr.heap.size + 1 := fun k h => by
        rcases hka.2.2 k h with h1 | h1
        · have := hsn k h1; omega
        · have := h1.2; simp at this; omega
      have hbx : Box2 (wr.alloc (.cells #[.int .i64 x0, .int .i64 x1] 23)) wr.heap.size ⟨x0, x1⟩ := Box2.new wr ⟨x0, x1⟩
      have HG := Lib.hid (gapsOf_snoc s (L.take k) L[k])
      have HA' := Lib.hid (atOf_snoc s (L.take k) L[k])
      have hpl : (gapsOf s (L.take k)).length < us.length + 1 := Nat.lt_of_le_of_lt (gapsOf_length _ _) (by rw [List.length_take]; omega)
      rw [← ha0]
      clear ha0
      by_cases hgt : a0 < x0
      · obtain ⟨fn, tmps, assign, body, hy, hR⟩ := hY _ ⟨a0, wrap64 (x0 - a0)⟩ _ hJs' hpl
        dsimp only at hy
        have HE : Hid (gapsOf s (L.take k) ++ [⟨a0, wrap64 (x0 - a0)⟩] = gapsOf s (L.take (k + 1))) := by
          refine Lib.hid ?_
          rw [HT.out, HG.out, ← HX0.out, ← HA.out, if_pos hgt]
        have hd : decide (a0 < x0) = true := by simpa using hgt
        gi_wp2
        refine hR.mono ?_
        rintro e W3 (⟨rfl, hJ3, hk3⟩ | ⟨rfl, hJx3⟩)
        · have hbx3 : Box2 W3 wr.heap.size ⟨x0, x1⟩ := (hk3.2.1 wr.heap.size (by simp) ⟨_, _, _, hbx⟩ hnb).trans hbx
          have hy0 := hbx3.cell0
          have hy1 := hbx3.cell1
          dsimp only at hy0 hy1
          have hrow3 : W3.heap[g']? = some (.cells cur 23 (0, 0)) := (hk3.2.1 g' (by simp; omega) ⟨_, _, _, hrow'⟩ hnm2).trans hrow'
          have hnm3 : ¬ Mine b0 W3 g' := fun h => (hk3.2.2 g' h).elim hnm2 (fun h2 => by have := h2.1; simp at this; omega)
          have hsz3 : wr.heap.size + 1 ≤ W3.heap.size := by have := hk3.1.size; simpa using this
          have hsn3 : ∀ k, Mine b0 W3 k → k < W3.heap.size := fun k h => by
            rcases hk3.2.2 k h with h1 | h1
            · have := hsn2 k h1; omega
            · exact h1.2
          rw [HE.out] at hJ3
          gi_wp2
          go_roundw
          case rel => exact ⟨k + 1, by omega, by simp, by rw [HT.out, HA'.out, HX0.out, HX1.out], hJ3, hrow3, hnm3, by omega, by omega, hsn3⟩
          case measure => simp [intOf]; omega
        · gi_wp2
          refine bodyPost_ret (results_none rfl _ _ _) rfl ?_
          exact ⟨⟨_, rfl⟩, .inr ⟨_, by rw [HE.out]; exact gapsOf_prefix _ _ _, hJx3⟩⟩
      · have HE : Hid (gapsOf s (L.take (k + 1)) = gapsOf s (L.take k)) := by
          refine Lib.hid ?_
          rw [HT.out, HG.out, ← HX0.out, ← HA.out, if_neg hgt, List.append_nil]
        have hd : decide (a0 < x0) = false := by simpa using hgt
        gi_wp2
        refine ⟨fun _ h => (by cases h), ?_⟩
        have hy0 := hbx.cell0
        have hy1 := hbx.cell1
        dsimp only at hy0 hy1
        gi_wp2
        go_roundw
        case rel => exact ⟨k + 1, by omega, by simp, by rw [HT.out, HA'.out, HX0.out, HX1.out], by rw [HE.out]; exact hJs', hrow', hnm2, by simp; omega, by simp; omega, by simpa using hsn2⟩
        case measure => simp [intOf]; omega
    · obtain rfl : k = us.length + 1 := by omega
      gi_wp2
      go_end0
      exact ⟨⟨_, rfl⟩, .inl ⟨_, by rw [List.take_of_length_le (by omega)], hJs⟩⟩

theorem Xs.grow {n₀ n₁ : Nat} {W : World} {a : Option Addr} {zs : List S23} (h : Xs n₀ W a zs) (hn : n₀ ≤ n₁) : Xs n₁ W a zs := by
  rcases h with h | ⟨b, off, e, hb, hc⟩
  · exact .inl h
  · exact .inr ⟨b, off, e, Nat.lt_of_lt_of_le hb hn, hc⟩

theorem gaps_stops (n : Nat) (hn : 1 ≤ n) (Br Bu b0 n₀ : Nat) (s m : Int) (A : Option Addr) (c : Nat) (us : List S23) (hlen : us.length ≤ 8796093021952) (w : World) (hn0 : n₀ ≤ w.heap.size) (hbl : b0 < w.heap.size) (hbox : ∀ v, Boxed w b0 24 v → v = .slice none 0 0)
    (hBr : Br < w.heap.size) (hBu : Bu < w.heap.size) (hr0 : w.cell? ⟨Br, 0, none⟩ = some (.int .i64 s)) (hr1 : w.cell? ⟨Br, 1, none⟩ = some (.int .i64 m)) (hu : w.cell? ⟨Bu, 0, none⟩ = some (.slice A us.length c))
    (hI : Xs w.heap.size w A us) :
    SeqStopsK Fence.wide n Try.prog 24 #[.pointer (some ⟨Br, 0, none⟩), .pointer (some ⟨Bu, 0, none⟩)] (fun x : S23 => #[.agg #[.int .i64 x.f0, .int .i64 x.f1]]) (KpM n₀ b0)
      (fun ys => ys = gapsOf s (rowOf s m us)) (fun pre => pre <+: gapsOf s (rowOf s m us)) (us.length + 1) w := fun l J Jx W hW hJ _ hY h0 =>
  gaps1_in n hn l Br Bu b0 n₀ s m A c us (rowOf s m us) (Lib.hid rfl) hlen J Jx W hJ (Nat.le_trans hn0 hW.size)
    (Nat.lt_of_lt_of_le hbl hW.size) (fun v hv => hbox v (by unfold Boxed at hv ⊢; rwa [hW.block b0 hbl] at hv)) hY
    ((hW.cell (p := ⟨Br, 0, none⟩) hBr).trans hr0) ((hW.cell (p := ⟨Br, 1, none⟩) hBr).trans hr1) ((hW.cell (p := ⟨Bu, 0, none⟩) hBu).trans hu) ((hI.below hW).grow hW.size) h0

set_option maxHeartbeats 1000000 in
/-- extent.gaps: the region and the slice are boxed; the function value captures the boxes. -/
theorem gaps_any (s m : Int) (A : Option Addr) (len c : Nat) (w : World) :
    Calls Try.prog 17 #[.agg #[.int .i64 s, .int .i64 m], .slice A len c] w fun e w' => e = .returned (.func (.func 24) #[] #[.pointer (some ⟨w.heap.size, 0, none⟩), .pointer (some ⟨w.heap.size + 1, 0, none⟩)]) ∧ (w.alloc (.cells #[.int .i64 s, .int .i64 m] 23)).alloc (.cells #[.slice A len c] 24) = w' := by
  have hmf : ∀ (fn : Fn) (first cap : Array Value) (w : World), (Instr.makeFunc fn first cap).run Try.prog w = .ok (.func fn first cap) w := fun _ _ _ _ => rfl
  go_enter Try.func17, Try.ntmps17
  go_wp2
  go_ret
  exact ⟨rfl, rfl⟩

/-- slices.Collect over the gaps. -/
theorem collect_gaps (s m : Int) (A : Option Addr) (c : Nat) (us : List S23) (hlen : us.length ≤ 8796093021952) (w : World) (Br Bu : Nat) (hBr : Br < w.heap.size) (hBu : Bu < w.heap.size)
    (hr0 : w.cell? ⟨Br, 0, none⟩ = some (.int .i64 s)) (hr1 : w.cell? ⟨Br, 1, none⟩ = some (.int .i64 m)) (hu : w.cell? ⟨Bu, 0, none⟩ = some (.slice A us.length c)) (hI : Xs w.heap.size w A us) :
    Calls Try.prog 16 #[.func (.func 24) #[] #[.pointer (some ⟨Br, 0, none⟩), .pointer (some ⟨Bu, 0, none⟩)]] w fun e W' =>
      ∃ v, e = .returned v ∧ W'.ownsRow w.heap.size 23 2 v (gapsOf s (rowOf s m us)).length (cxs (gapsOf s (rowOf s m us))) ∧ Below w.heap.size w W' := by
  have hB0 : Below w.heap.size w (w.alloc (.cells #[.slice none 0 0] 24)) := (Below.refl _ w).alloc (Nat.le_refl _) _
  have hseq := gaps_stops 5 (by omega) Br Bu w.heap.size w.heap.size s m A c us hlen (w.alloc (.cells #[.slice none 0 0] 24)) (by simp) (by simp) (fun v hv => by simpa using hv.symm.trans (Boxed.new w 24 (.slice none 0 0))) (by simp; omega) (by simp; omega)
    ((hB0.cell (p := ⟨Br, 0, none⟩) hBr).trans hr0) ((hB0.cell (p := ⟨Br, 1, none⟩) hBr).trans hr1) ((hB0.cell (p := ⟨Bu, 0, none⟩) hBu).trans hu) ((hI.below hB0).grow (by simp))
  refine (callsIn_wide.1 (collect_in Fence.wide 7 trivial trivial rfl (by omega) 24 _ trivial (enters_of Try.func24 (by kernel_rfl) rfl) _ _ _ w.heap.size w (Nat.le_refl _) (by omega) hseq)).mono ?_
  rintro e W' ⟨v, ys, rfl, rfl, ho, hB⟩
  exact ⟨v, rfl, ho, hB⟩

def extent_Gaps.f (k : Nat) (a0_0 : Int) (a0_1 : Int) (l1 : List S23) : Option (List S23 × Int) :=
  (extent_Right.f k a0_0 a0_1 l1).bind fun b => if b = true then (if l1.length ≤ 8796093021952 then some (gapsOf a0_0 (rowOf a0_0 a0_1 l1), 0) else none) else some ([], 1)
theorem extent_Gaps.mono : ∀ a0 a1 a2 k, LeO (extent_Gaps.f k a0 a1 a2) (extent_Gaps.f (k + 1) a0 a1 a2) := by
  intro a0 a1 a2 k r h
  unfold extent_Gaps.f at h ⊢
  obtain ⟨b, hb, hr⟩ := Option.bind_eq_some_iff.mp h
  rw [extent_Right.mono _ _ _ _ _ hb]
  exact hr

set_option maxHeartbeats 2000000 in
theorem extent_Gaps.calls (k : Nat) (a0_0 : Int) (a0_1 : Int) (A1 : Option Addr) (c1 : Nat) (l1 : List (S23)) (r1 : List (S23)) (r2 : Int) (w : World) (hr1 : Kd.C k23 w A1 l1.length l1) (hc1 : l1.length ≤ c1) (h : extent_Gaps.f k a0_0 a0_1 l1 = some (r1, r2)) :
    Calls Try.prog 7 #[.agg #[.int .i64 a0_0, .int .i64 a0_1], .slice A1 l1.length c1] w fun e w' => ∃ v0_ : Value, e = .returned (.tuple #[v0_, .int .i64 r2]) ∧ Kd.R k23 23 w' w.heap.size (fun _ => True) v0_ r1 ∧ Below w.heap.size w w' := by
  unfold extent_Gaps.f at h
  obtain ⟨b, hb, hr⟩ := Option.bind_eq_some_iff.mp h
  clear h
  have hB0 : Below w.heap.size w (w.alloc (.cells #[.int .i64 a0_0, .int .i64 a0_1] 23)) := (Below.refl _ w).alloc (Nat.le_refl _) _
  have hR := extent_Right.calls k a0_0 a0_1 A1 c1 l1 b (w.alloc (.cells #[.int .i64 a0_0, .int .i64 a0_1] 23)) (Kd.C_below hr1 hB0) hc1 hb
  have hX := (Xs_of_C hr1)
  have bx := Box2.new w ⟨a0_0, a0_1⟩
  dsimp only at bx
  clear hb hc1 hr1
  cases b with
  | false =>
    simp at hr
    obtain ⟨rfl, rfl⟩ := hr
    go_enter Try.func7, Try.ntmps7
    go_wp2_with fail
    refine hR.mono ?_
    rintro e W1 ⟨rfl, hB1⟩
    go_wp2_with fail
    go_ret2
    exact ⟨_, rfl, Kd.R_nil _ _ _ _ _, hB0.trans (hB1.mono (by simp))⟩
  | true =>
    simp only [if_true] at hr
    split at hr
    · rename_i hl
      injection hr with hr
      injection hr with e1 e2
      subst e1 e2
      have HL := Lib.hid hl
      go_enter Try.func7, Try.ntmps7
      go_wp2_with fail
      refine hR.mono ?_
      rintro e W1 ⟨rfl, hB1⟩
      have bx1 : Box2 W1 w.heap.size ⟨a0_0, a0_1⟩ := bx.below hB1 (by simp)
      have hx0 := bx1.cell0
      have hx1 := bx1.cell1
      dsimp only at hx0 hx1
      have hBw : Below w.heap.size w W1 := hB0.trans (hB1.mono (by simp))
      go_wp2_with fail
      refine (gaps_any a0_0 a0_1 A1 l1.length c1 W1).mono ?_
      rintro e W2 ⟨rfl, rfl⟩
      have hB2 : Below W1.heap.size W1 ((W1.alloc (.cells #[.int .i64 a0_0, .int .i64 a0_1] 23)).alloc (.cells #[.slice A1 l1.length c1] 24)) := ((Below.refl _ W1).alloc (Nat.le_refl _) _).alloc (by simp) _
      have by1 := (Box2.new W1 ⟨a0_0, a0_1⟩).alloc (.cells #[.slice A1 l1.length c1] 24)
      have by2 := Boxed.new (W1.alloc (.cells #[.int .i64 a0_0, .int .i64 a0_1] 23)) 24 (.slice A1 l1.length c1)
      rw [World.size_alloc] at by2
      have hc := collect_gaps a0_0 a0_1 A1 c1 l1 HL.out _ W1.heap.size (W1.heap.size + 1) (by simp; omega) (by simp) by1.cell0 by1.cell1 by2.cell (((hX.below hBw).grow hBw.size).below hB2 |>.grow (by simp; omega))
      clear by1 by2 hx0 hx1 bx1
      go_wp2_with fail
      refine hc.mono ?_
      rintro e W3 ⟨v, rfl, ho, hB3⟩
      go_wp2_with fail
      go_ret2
      have hB13 : Below W1.heap.size W1 W3 := hB2.trans (hB3.mono (by simp; omega))
      exact ⟨v, rfl, R_of_own (own_weaken ho (by have := hBw.size; simp; omega)), hBw.trans (hB13.mono hBw.size)⟩
    · cases hr

theorem kpM_refl (n₀ b0 : Nat) (W : World) : KpM n₀ b0 W W := ⟨Below.refl _ _, fun _ _ _ _ => rfl, fun _ h => .inl h⟩

/-- Where there is room: what is told. -/
def fitOf (n : Int) (g : List S23) : Int × Int × Int :=
  match g.find? (fun x => decide (n ≤ x.f1)) with
  | some x => (x.f0, n, 0)
  | none => (0, 0, 111)
theorem fitOf_none {n : Int} {g : List S23} (h : ∀ p ∈ g, ¬ n ≤ p.f1) : fitOf n g = (0, 0, 111) := by
  unfold fitOf
  rw [List.find?_eq_none.2 (fun x hx => by simpa using h x hx)]
theorem fitOf_some {n : Int} {g ini : List S23} {last : S23} (hp : ini ++ [last] <+: g) (h : ∀ p ∈ ini, ¬ n ≤ p.f1) (hl : n ≤ last.f1) : fitOf n g = (last.f0, n, 0) := by
  obtain ⟨t, rfl⟩ := hp
  unfold fitOf
  rw [List.append_assoc, List.find?_append, List.find?_eq_none.2 (fun x hx => by simpa using h x hx)]
  simp [hl]

def extent_Fit.f (k : Nat) (a0_0 : Int) (a0_1 : Int) (a1 : Int) (l2 : List S23) : Option (Int × Int × Int) :=
  if a1 < 1 then some (0, 0, 1) else
  (extent_Right.f k a0_0 a0_1 l2).bind fun b => if b = true then (if l2.length ≤ 8796093021952 then some (fitOf a1 (gapsOf a0_0 (rowOf a0_0 a0_1 l2))) else none) else some (0, 0, 1)
theorem extent_Fit.mono : ∀ a0 a1 a2 a3 k, LeO (extent_Fit.f k a0 a1 a2 a3) (extent_Fit.f (k + 1) a0 a1 a2 a3) := by
  intro a0 a1 a2 a3 k r h
  unfold extent_Fit.f at h ⊢
  split at h
  · rename_i hc; rw [if_pos hc]; exact h
  · rename_i hc
    rw [if_neg hc]
    obtain ⟨b, hb, hr⟩ := Option.bind_eq_some_iff.mp h
    rw [extent_Right.mono _ _ _ _ _ hb]
    exact hr

end Go.Proofs.Ytflmlejgahnppaa.PExt
