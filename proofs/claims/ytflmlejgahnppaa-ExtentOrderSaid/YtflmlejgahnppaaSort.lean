/- The contracts of slices.Collect, slices.SortedFunc and extent.sorted: a new slice of the same extents, by their starts. -/
import Derived.Test.YtflmlejgahnppaaIter
import Derived.Test.YtflmlejgahnppaaShelf
import Derived.Lib.OwnBridge
import Derived.Deep.DeepMust
namespace Go.Proofs.Ytflmlejgahnppaa.PExt
open Go.RowKit Go.Shelf Go.Sort Go.Proofs.YtflmlejgahnppaaW.PrintWords Go.Proofs.YtflmlejgahnppaaW.PrintLast Go.Proofs.YtflmlejgahnppaaW.PrintMore

attribute [local go_sem] Oper.semAt_some
instance : Inhabited S23 := ⟨z23⟩

/-! ### rows of extents as the print tells them -/
theorem cxs_get (xs : List S23) : ∀ (j : Nat) (p : S23), xs[j]? = some p → ((cxs xs).drop (j * 2)).take 2 = cx p := by
  induction xs with
  | nil => intro j p h; simp at h
  | cons x xs ih =>
    intro j p h
    cases j with
    | zero => simp at h; subst h; simp [cxs, cx]
    | succ j =>
      simp at h
      have := ih j p h
      rw [show cxs (x :: xs) = cx x ++ cxs xs from rfl, show (j + 1) * 2 = (cx x).length + j * 2 by simp [cx]; omega, List.drop_length_add_append]
      exact this

theorem R_of_own {W : World} {base : Nat} {v : Value} {xs : List S23} (h : W.ownsRow base 23 2 v xs.length (cxs xs)) : Kd.R k23 23 W base (fun _ => True) v xs :=
  ⟨fun _ _ => trivial, cxs xs, h, cxs_length xs, fun j p hp => by
    have e : ((cxs xs).drop (j * k23.sz)).take k23.sz = cx p := cxs_get xs j p hp
    rw [e]; exact k23_mkM _ _ _ p⟩

theorem spot_of {w : World} {a : Addr} {v : Value} (h : w.cell? a = some v) : a.spot = none ∧ a.block < w.heap.size := by
  unfold World.cell? at h
  split at h
  · rename_i hb
    refine ⟨?_, (Array.getElem?_eq_some_iff.1 hb).1⟩
    cases hs : a.spot with
    | none => rfl
    | some x => rw [hs] at h; simp at h
  · cases h

theorem Xs_of_C {w : World} {A : Option Addr} {xs : List S23} (h : Kd.C k23 w A xs.length xs) : Xs w.heap.size w A xs := by
  rcases Nat.eq_zero_or_pos xs.length with h0 | h0
  · exact .inl (List.length_eq_zero_iff.1 h0)
  · obtain ⟨ad, rfl, hc⟩ := h.2.2 h0
    have key : ∀ j (hj : j < xs.length), w.cell? (ad.add (j * 2)) = some (.int .i64 xs[j].f0) ∧ w.cell? (ad.add (j * 2 + 1)) = some (.int .i64 xs[j].f1) := by
      intro j hj
      obtain ⟨c, _, hK, hcell⟩ := hc j xs[j] (List.getElem?_eq_getElem hj)
      obtain rfl := k23_open hK
      exact ⟨hcell 0 _ rfl, hcell 1 _ rfl⟩
    have h00 := (key 0 h0).1
    obtain ⟨hs, hb⟩ := spot_of h00
    have had : ad.add (0 * 2) = ad := by simp [Addr.add]
    rw [had] at hs hb
    obtain ⟨b, off, sp⟩ := ad
    obtain rfl : sp = none := hs
    refine .inr ⟨b, off, rfl, hb, fun j hj => ?_⟩
    have hadd : ∀ m, (⟨b, off, none⟩ : Addr).add m = ⟨b, off + m, none⟩ := by
      intro m; unfold Addr.add; by_cases hm : m = 0 <;> simp [hm]
    have := key j hj
    rw [hadd, hadd] at this
    exact this

/-! ### the order, the closure, the sort -/
def cfX (x y : S23) : Int := Lib.compareInt x.f0 y.f0
theorem ltX (x y : S23) : ltOf cfX x y = decide (x.f0 < y.f0) := by
  unfold ltOf cfX Lib.compareInt
  by_cases h1 : x.f0 < y.f0
  · simp [h1]
  · by_cases h2 : y.f0 < x.f0 <;> simp [h1, h2]
theorem swoX : SWO (ltOf cfX) where
  irrefl x := by rw [ltX]; simp
  trans x y z h1 h2 := by rw [ltX] at *; simp at *; omega
  ntrans x y z h1 h2 := by rw [ltX] at *; simp at *; omega

set_option maxHeartbeats 1000000 in
theorem closure27 (x y : S23) (W : World) : Calls Try.prog 27 #[.agg #[.int .i64 x.f0, .int .i64 x.f1], .agg #[.int .i64 y.f0, .int .i64 y.f1]] W fun e w' => e = .returned (.int .i64 (cfX x y)) ∧ ∃ q os', w' = grow (W.drewN q) os' := by
  have hcon := fun W' => AnyG.cmp_Compare_int Try.cmpInt x.f0 y.f0 W'
  change ∀ W', Calls Try.prog 28 _ _ _ at hcon
  unfold cfX
  generalize Lib.compareInt x.f0 y.f0 = r at hcon ⊢
  go_enter Try.func27, Try.ntmps27
  go_wp2_with (go_at_call 28; refine (hcon _).mono ?_; rintro e w' ⟨rfl, rfl⟩)
  go_ret
  exact ⟨rfl, 0, _, by rw [alloc_eq_grow, alloc_eq_grow, grow_grow]; rfl⟩

theorem cmpLays27 (blk off size : Nat) (w : World) : CmpLays Try.prog 27 #[] cx 2 cfX blk off size w :=
  fun _ _ _ _ x y => closure27 x y _

/-- What Go's sort makes of a row. -/
def sortX (l : List S23) : List S23 := (pdq (ltOf cfX) l.toArray 0 l.length (Lib.bitLen l.length) true true).toList
theorem sortX_spec (l : List S23) : PermIn 0 l.length l.toArray (pdq (ltOf cfX) l.toArray 0 l.length (Lib.bitLen l.length) true true) ∧ SortedIn (ltOf cfX) 0 l.length (pdq (ltOf cfX) l.toArray 0 l.length (Lib.bitLen l.length) true true) := by
  have h := pdq_sorts (ltOf cfX) swoX l.toArray 0 l.length (Lib.bitLen l.length) true true (Nat.zero_le _) (by simp) (Or.inl rfl)
  exact ⟨h.1, h.2⟩

theorem sortX_length (l : List S23) : (sortX l).length = l.length := by
  have h := (sortX_spec l).1.1
  simpa [sortX] using h

/-! ### the flat row -/
theorem cxs_at (xs : List S23) : ∀ t, t < xs.length * 2 → (cxs xs)[t]? = (cx (xs[t / 2]?.getD z23))[t % 2]? := by
  induction xs with
  | nil => intro t h; simp at h
  | cons x xs ih =>
    intro t h
    rw [show cxs (x :: xs) = cx x ++ cxs xs from rfl]
    match t with
    | 0 => rfl
    | 1 => rfl
    | t + 2 =>
      have e1 : (t + 2) / 2 = t / 2 + 1 := by omega
      have e2 : (t + 2) % 2 = t % 2 := by omega
      rw [e1, e2, List.getElem?_cons_succ, ← ih t (by simp at h; omega)]
      simp [cx]

theorem flatK_list (xs : List S23) : (flatK cx 2 xs.toArray).toList = cxs xs := by
  apply List.ext_getElem?
  intro t
  by_cases ht : t < xs.length * 2
  · rw [cxs_at xs t ht]
    have hlt : t / 2 < xs.length := by omega
    have h2 : t % 2 < 2 := by omega
    rw [Array.getElem?_toList]
    simp only [flatK, List.size_toArray, Array.getElem?_map]
    rw [Array.getElem?_range]
    simp [ht, hlt]
    rcases (by omega : t % 2 = 0 ∨ t % 2 = 1) with h | h <;> simp [h, cx]
  · rw [List.getElem?_eq_none (by simp; omega), List.getElem?_eq_none (by rw [cxs_length]; omega)]

theorem holdsK_of_own {W : World} {g : Nat} {cur : Array Value} {e : TypeId} {xs : List S23} (hg : W.heap[g]? = some (.cells cur e (0, 0))) (ht : cur.toList.take (xs.length * 2) = cxs xs) : HoldsK cx 2 W g 0 xs.toArray := by
  intro j hj
  have hj' : j < xs.length * 2 := by simpa using hj
  refine ⟨?_, by simp [World.frozen?, hg]⟩
  have e1 : (cur.toList.take (xs.length * 2))[j]? = (flatK cx 2 xs.toArray).toList[j]? := by rw [ht, flatK_list]
  rw [List.getElem?_take_of_lt hj', Array.getElem?_toList, Array.getElem?_toList] at e1
  simp only [World.cell?, hg, Nat.zero_add]
  simp only [Option.isSome_none, Bool.false_eq_true, if_false]
  rw [e1]
  simp [hj']

theorem sortWorld_own {W : World} {base g n cap q : Nat} {os : Array Obj} {cur : Array Value} {ys : List S23} (hy : ys.length = n) (hbase : base ≤ g) (hg : W.heap[g]? = some (.cells cur 23 (0, 0))) (h1 : n ≤ cap) (h2 : cap ≤ maxLen) (h3 : cur.size = cap * 2) :
    (sortWorldK cx 2 W g 0 q ys.toArray os).ownsRow base 23 2 (.slice (some ⟨g, 0, none⟩) n cap) n (cxs ys) := by
  have hlt : g < W.heap.size := (Array.getElem?_eq_some_iff.1 hg).1
  refine ⟨by rw [cxs_length, hy], .inr ⟨g, cap, putCells id 0 (flatK cx 2 ys.toArray) cur, rfl, hbase, ?_, h1, h2, by simpa [putCells] using h3, ?_⟩⟩
  · unfold sortWorldK putRowK
    rw [heap_grow_old _ _ (by simpa using hlt)]
    simp [putRow, mapBlock, Sort.ahead, Array.getElem?_modify, hg, onCells]
  · rw [← flatK_list]
    apply List.ext_getElem?
    intro j
    by_cases hj : j < n * 2
    · have hjc : j < cur.size := by omega
      rw [List.getElem?_take_of_lt hj, Array.getElem?_toList, Array.getElem?_toList]
      simp [putCells, hjc, hy, hj]
    · rw [List.getElem?_take_eq_none (by omega), List.getElem?_eq_none (by simp; omega)]

theorem sortWorld_below {W : World} {base g q : Nat} {os : Array Obj} {d : Array S23} (hg : base ≤ g) (hs : base ≤ W.heap.size) : Below base W (sortWorldK cx 2 W g 0 q d os) :=
  ⟨rfl, rfl, rfl, by simp [sortWorldK, putRowK, putRow, mapBlock, Sort.ahead, grow], fun k hk => by
    unfold sortWorldK putRowK
    rw [heap_grow_old _ _ (by simp; omega)]
    simp [putRow, mapBlock, Sort.ahead, Array.getElem?_modify, show g ≠ k by omega]⟩

set_option maxHeartbeats 1000000 in
/-- slices.SortFunc over a row of the call's own. -/
theorem sort_own (base : Nat) (v : Value) (xs : List S23) (W : World) (hs : base ≤ W.heap.size) (hlen : xs.length ≤ 8796093022208) (h : W.ownsRow base 23 2 v xs.length (cxs xs)) :
    Calls Try.prog 29 #[v, .func (.func 27) #[] #[]] W fun e w' => e = .returned (.tuple #[]) ∧ w'.ownsRow base 23 2 v xs.length (cxs (sortX xs)) ∧ Below base W w' := by
  rcases h.2 with ⟨rfl, h0⟩ | ⟨g, cap, cur, rfl, hbase, hg, h1, h2, h3, h4⟩
  · obtain rfl : xs = [] := List.length_eq_zero_iff.1 h0
    have hcon := AnyF.slices_SortFunc_none (P := Try.prog) { Try.sortX with } none 0 (.func (.func 27) #[] #[]) W
    change Calls Try.prog 29 _ _ _ at hcon
    refine hcon.mono ?_
    rintro e w' ⟨rfl, rfl⟩
    have e0 : sortX [] = [] := List.length_eq_zero_iff.1 (sortX_length [])
    exact ⟨rfl, by rw [e0]; exact h, Below.refl _ _⟩
  · have eg : ∀ args w, (callFunc 27 args).run Try.prog w = .ok (.enter 27 args) w := enters_of Try.func27 (by kernel_rfl) rfl
    have hcon := AnyQ.slices_SortFunc_eq Try.sortX 2 Try.isAgg23 Try.sizeOf23 cx (fun _ => rfl) (fun x v hv => by simp [cx] at hv; rcases hv with rfl | rfl <;> rfl) cfX swoX 27 #[] g 0 cap xs.toArray W eg (cmpLays27 g 0 xs.toArray.size W) (holdsK_of_own hg h4) (Array.getElem?_eq_some_iff.1 hg).1 (by simp; omega)
    change Calls Try.prog 29 _ _ _ at hcon
    rw [List.size_toArray] at hcon
    refine hcon.mono ?_
    rintro e w' ⟨rfl, n, os, rfl⟩
    refine ⟨rfl, ?_, sortWorld_below hbase hs⟩
    have hl : (sortX xs).length = xs.length := sortX_length xs
    have := sortWorld_own (W := W) (q := n) (os := os) (ys := sortX xs) hl hbase hg h1 h2 h3
    unfold sortX at this ⊢
    simpa using this

/-! ### slices.Collect, slices.SortedFunc, extent.sorted -/
set_option maxHeartbeats 1000000 in
theorem collect_in (F : Fence) (n : Nat) (h16 : F.fn 16) (h23 : F.fn 23) (hro : F.round = none) (hn : 4 ≤ n) (g : Nat) (lb : Array Value) (hFg : F.fn g) (eg : ∀ args w, (callFunc g args).run Try.prog w = .ok (.enter g args) w)
    (S Sp : List S23 → Prop) (N n₀ : Nat) (w : World) (hn₀ : n₀ ≤ w.heap.size) (hN : N ≤ 8796093022208)
    (hseq : SeqStopsK F (n - 1 - 1) Try.prog g lb (fun x : S23 => #[.agg #[.int .i64 x.f0, .int .i64 x.f1]]) (KpM n₀ w.heap.size) S Sp N (w.alloc (.cells #[.slice none 0 0] 24))) :
    CallsIn F n Try.prog 16 #[.func (.func g) #[] lb] w fun e W' => ∃ v xs, e = .returned v ∧ S xs ∧ W'.ownsRow w.heap.size 23 2 v xs.length (cxs xs) ∧ Below w.heap.size w W' := by
  have h1 : 1 ≤ n := by omega
  refine callsIn_of_wp Try.func16 rfl h16 ?_ hro
  simp only [Try.ntmps16, List.size_toArray, List.length_cons, List.length_nil, Nat.reduceAdd, Nat.reduceSub, Array.replicate_succ, Array.replicate_zero, List.push_toArray, List.append_toArray, List.nil_append, List.cons_append]
  gi_wp2_with (gi_at_call 23; go_must (refine (appendSeq_in F (n - 1) h23 hro (by omega) g lb hFg eg S Sp N n₀ w hn₀ hN hseq).mono ?_); rintro e w' ⟨v, xs, rfl, hS, hown, hB⟩)
  go_ret
  exact ⟨v, xs, rfl, hS, hown, hB⟩

set_option maxHeartbeats 1000000 in
theorem sortedFunc_any (g : Nat) (lb : Array Value) (eg : ∀ args w, (callFunc g args).run Try.prog w = .ok (.enter g args) w)
    (xs : List S23) (Sp : List S23 → Prop) (N n₀ : Nat) (w : World) (hn₀ : n₀ ≤ w.heap.size) (hN : N ≤ 8796093022208) (hlen : xs.length ≤ 8796093022208)
    (hseq : SeqStopsK Fence.wide 5 Try.prog g lb (fun x : S23 => #[.agg #[.int .i64 x.f0, .int .i64 x.f1]]) (Below n₀) (fun ys => ys = xs) Sp N w) :
    Calls Try.prog 25 #[.func (.func g) #[] lb, .func (.func 27) #[] #[]] w fun e W' => ∃ v, e = .returned v ∧ W'.ownsRow w.heap.size 23 2 v xs.length (cxs (sortX xs)) ∧ Below w.heap.size w W' := by
  have hc : Calls Try.prog 16 #[.func (.func g) #[] lb] w fun e W' => ∃ v, e = .returned v ∧ W'.ownsRow w.heap.size 23 2 v xs.length (cxs xs) ∧ Below w.heap.size w W' :=
    (callsIn_wide.1 (collect_in Fence.wide 7 trivial trivial rfl (by omega) g lb trivial eg _ Sp N n₀ w hn₀ hN (SeqStopsK.kp (SeqStopsK.later hseq ((Below.refl _ w).alloc (Nat.le_refl _) _)) fun _ _ h => h.1))).mono fun e W' ⟨v, ys, he, hS, ho, hB⟩ => ⟨v, he, by rw [← hS]; exact ho, hB⟩
  clear hseq
  go_enter Try.func25, Try.ntmps25
  go_wp2_with fail
  refine hc.mono ?_
  rintro e W1 ⟨v, rfl, ho, hB⟩
  have hs := sort_own w.heap.size v xs W1 hB.size hlen ho
  go_wp2_with fail
  refine hs.mono ?_
  rintro e W2 ⟨rfl, ho2, hB2⟩
  go_wp2_with fail
  go_ret
  exact ⟨_, rfl, ho2, hB.trans hB2⟩

/-- extent.sorted: the extents by their starts. -/
def extent_sorted.f (l0 : List S23) : Option (List S23) := if l0.length ≤ 8796093021952 then some (sortX l0) else none

set_option maxHeartbeats 1000000 in
theorem sorted_any (A : Option Addr) (c : Nat) (l : List S23) (w : World) (hl : l.length ≤ 8796093021952) (hI : Xs w.heap.size w A l) :
    Calls Try.prog 20 #[.slice A l.length c] w fun e W' => ∃ v, e = .returned v ∧ W'.ownsRow w.heap.size 23 2 v l.length (cxs (sortX l)) ∧ Below w.heap.size w W' := by
  have hv : Calls Try.prog 26 #[.slice A l.length c] w fun e w' => e = .returned (.func (.func 30) #[] #[.pointer (some ⟨w.heap.size, 0, none⟩)]) ∧ w.alloc (.cells #[.slice A l.length c] 24) = w' :=
    callsIn_wide.1 (values_in Fence.wide 3 trivial rfl A l.length c w)
  have hB0 : Below w.heap.size w (w.alloc (.cells #[.slice A l.length c] 24)) := (Below.refl _ w).alloc (Nat.le_refl _) _
  have bN := Boxed.new w 24 (.slice A l.length c)
  have hseq := values_stops Fence.wide 5 trivial rfl (by omega) w.heap.size w.heap.size A c l (by omega) (w.alloc (.cells #[.slice A l.length c] 24)) (by simp) (by simp) bN.cell (hI.below hB0)
  have hs := sortedFunc_any 30 _ (enters_of Try.func30 (by kernel_rfl) rfl) l _ _ w.heap.size _ (by simp) (by omega) (by omega) hseq
  clear hseq hI bN
  go_enter Try.func20, Try.ntmps20
  go_wp2_with fail
  refine hv.mono ?_
  rintro e W1 ⟨rfl, rfl⟩
  go_wp2_with fail
  refine hs.mono ?_
  rintro e W2 ⟨v, rfl, ho, hB⟩
  go_wp2_with fail
  go_ret
  exact ⟨v, rfl, own_weaken ho (by simp), hB0.trans (hB.mono (by simp))⟩

theorem extent_sorted.calls (A0 : Option Addr) (c0 : Nat) (l0 : List S23) (r : List S23) (w : World) (hr0 : Kd.C k23 w A0 l0.length l0) (_hc0 : l0.length ≤ c0) (h : extent_sorted.f l0 = some r) :
    Calls Try.prog 20 #[.slice A0 l0.length c0] w fun e w' => ∃ v0_ : Value, e = .returned (v0_) ∧ Kd.R k23 23 w' w.heap.size (fun _ => True) v0_ r ∧ Below w.heap.size w w' := by
  unfold extent_sorted.f at h
  split at h
  · rename_i hl
    injection h with h
    subst h
    refine (sorted_any A0 c0 l0 w hl (Xs_of_C hr0)).mono ?_
    rintro e w' ⟨v, rfl, ho, hB⟩
    exact ⟨v, rfl, R_of_own (by rw [sortX_length]; exact ho), hB⟩
  · cases h

end Go.Proofs.Ytflmlejgahnppaa.PExt
