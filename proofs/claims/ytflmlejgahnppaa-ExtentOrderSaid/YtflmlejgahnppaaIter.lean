/- The contracts of slices.Values at extents, of its iterator, of slices.AppendSeq and slices.Collect over whatever iterator of extents. -/
import Derived.RangeFuncNested
import Derived.RangeFuncBound
import Derived.RangeFuncCalls
import Derived.RangeFuncLeaves
import Derived.Shelf.Abstract
import Derived.Shelf.RegionOpen
import Derived.WalkKit
import Derived.OwnWalkIn
import Derived.TacticsInMore
import Derived.LoopNIn
import Derived.LoopIn
import Derived.Maps.AppendAt
import Derived.Test.YtflmlejgahnppaaPExtx0
import Derived.Outline
import Derived.Lib.Hide
namespace Go.Proofs.Ytflmlejgahnppaa.PExt
open Go.RowKit Go.Shelf

attribute [local go_sem] Oper.semAt_some

/-- An extent as a value, as a row of cells, and rows of them. -/
def vx (x : S23) : Value := .agg #[.int .i64 x.f0, .int .i64 x.f1]
def cx (x : S23) : List Value := [.int .i64 x.f0, .int .i64 x.f1]
def cxs (xs : List S23) : List Value := xs.flatMap cx
theorem cxs_snoc (xs : List S23) (x : S23) : cxs (xs ++ [x]) = cxs xs ++ [.int .i64 x.f0, .int .i64 x.f1] := by simp [cxs, cx]
theorem cxs_length (xs : List S23) : (cxs xs).length = xs.length * 2 := by
  induction xs with
  | nil => rfl
  | cons x xs ih => simp [cxs, cx] at ih ⊢; omega

/-- The first k of a row. -/
theorem take_snoc {α : Type} (zs : List α) {k : Nat} (h : k < zs.length) : zs.take (k + 1) = zs.take k ++ [zs[k]] := by
  rw [List.take_add_one, List.getElem?_eq_getElem h]; rfl

/-- The slice value sv holds the extents zs in a block below n₀; or there are none. -/
def Xs (n₀ : Nat) (W : World) (a : Option Addr) (zs : List S23) : Prop :=
  zs = [] ∨ ∃ b off, a = some ⟨b, off, none⟩ ∧ b < n₀ ∧ ∀ j (h : j < zs.length), W.cell? ⟨b, off + j * 2, none⟩ = some (.int .i64 zs[j].f0) ∧ W.cell? ⟨b, off + j * 2 + 1, none⟩ = some (.int .i64 zs[j].f1)
theorem Xs.below {n₀ : Nat} {A B : World} (h : Below n₀ A B) {a : Option Addr} {zs : List S23} : Xs n₀ A a zs → Xs n₀ B a zs
  | .inl e => .inl e
  | .inr ⟨b, off, e, hb, hc⟩ => .inr ⟨b, off, e, hb, fun j hj => ⟨(h.cell (p := ⟨b, off + j * 2, none⟩) hb).trans (hc j hj).1, (h.cell (p := ⟨b, off + j * 2 + 1, none⟩) hb).trans (hc j hj).2⟩⟩

set_option maxRecDepth 100000 in
set_option maxHeartbeats 2000000 in
/-- slices.Values's closure, for every loop body that keeps what lay below n₀. -/
theorem values1_in (F : Fence) (n : Nat) (h7 : F.fn 30) (hro : F.round = none) (hn : 1 ≤ n) (l Bs n₀ b off cap : Nat) (zs : List S23) (hreach : zs.length * 16 ≤ 140737488351232) (hb : b < n₀) (J Jx : List S23 → World → Prop) (W : World) (hJ : AbidesFrom W.heap.size J) (hn0 : n₀ ≤ W.heap.size)
    (hY : ∀ pre x W, J pre W → pre.length < zs.length → YieldAt F (n - 1) Try.prog l #[.agg #[.int .i64 x.f0, .int .i64 x.f1]] W fun e W' =>
      (e = .returned (.bool true) ∧ J (pre ++ [x]) W' ∧ Below n₀ W W') ∨ (e = .returned (.bool false) ∧ Jx (pre ++ [x]) W'))
    (hBs : W.cell? ⟨Bs, 0, none⟩ = some (.slice (some ⟨b, off, none⟩) zs.length cap))
    (hc : ∀ j (h : j < zs.length), W.cell? ⟨b, off + j * 2, none⟩ = some (.int .i64 zs[j].f0) ∧ W.cell? ⟨b, off + j * 2 + 1, none⟩ = some (.int .i64 zs[j].f1)) (h0 : J [] W) :
    CallsIn F n Try.prog 30 #[.func (.yield l) #[] #[], .pointer (some ⟨Bs, 0, none⟩)] W fun e W' => (∃ v, e = .returned v) ∧
      ((∃ ys, ys = zs ∧ J ys W') ∨ (∃ pre, pre <+: zs ∧ Jx pre W')) := by
  refine callsIn_of_wp Try.func30 rfl h7 ?_ hro
  simp only [Try.ntmps30, List.size_toArray, List.length_cons, List.length_nil, Nat.reduceAdd, Nat.reduceSub, Array.replicate_succ, Array.replicate_zero, List.push_toArray, List.append_toArray, List.nil_append, List.cons_append]
  gi_wp2
  gi_loopw [7] (fun i wr => ∃ k : Nat, k ≤ zs.length ∧ i = .int .i64 k ∧ J (zs.take k) wr ∧ Below n₀ W wr)
    (fun i _ => zs.length - (intOf i).toNat)
  case atStart => exact ⟨0, Nat.zero_le _, rfl, h0, Below.refl _ _⟩
  case round =>
    obtain ⟨k, hk, rfl, hJs, hnx⟩ := hrel
    have hnxs := hnx.size
    by_cases hlt : k < zs.length
    · have hc0 := (hnx.cell (p := ⟨b, off + k * 2, none⟩) hb).trans (hc k hlt).1
      have hc1 := (hnx.cell (p := ⟨b, off + k * 2 + 1, none⟩) hb).trans (hc k hlt).2
      have HT := Lib.hid (take_snoc zs hlt)
      obtain ⟨x0, hx0⟩ : ∃ x0, x0 = zs[k].f0 := ⟨_, rfl⟩
      obtain ⟨x1, hx1⟩ : ∃ x1, x1 = zs[k].f1 := ⟨_, rfl⟩
      rw [← hx0] at hc0
      rw [← hx1] at hc1
      have HX0 := Lib.hid hx0
      have HX1 := Lib.hid hx1
      clear hx0 hx1
      have hJ' : J (zs.take k) (wr.alloc (.cells #[.int .i64 x0, .int .i64 x1] 23)) := hJ _ _ _ none hJs (World.grownBy_alloc wr _ none) (by simp)
      obtain ⟨fn, tmps, assign, body, hy, hR⟩ := hY _ ⟨x0, x1⟩ _ hJ' (by rw [List.length_take]; omega)
      dsimp only at hy
      gi_wp2
      refine hR.mono ?_
      rintro e W3 (⟨rfl, hJ3, hk3⟩ | ⟨rfl, hJx3⟩)
      · gi_wp2
        go_roundw
        case rel => exact ⟨k + 1, by omega, by simp, by rw [HT.out]; rw [HX0.out, HX1.out] at hJ3; exact hJ3, (hnx.alloc (Nat.le_trans hn0 hnxs) _).trans hk3⟩
        case measure => simp [intOf]; omega
      · gi_wp2
        refine bodyPost_ret (results_none rfl _ _ _) rfl ?_
        exact ⟨⟨_, rfl⟩, .inr ⟨_, by rw [HX0.out, HX1.out]; rw [← HT.out]; exact List.take_prefix _ _, hJx3⟩⟩
    · obtain rfl : k = zs.length := by omega
      gi_wp2
      go_end0
      exact ⟨⟨_, rfl⟩, .inl ⟨_, List.take_length, hJs⟩⟩

set_option maxRecDepth 100000 in
set_option maxHeartbeats 1000000 in
/-- .. over no element: no round. -/
theorem values1_nil_in (F : Fence) (n : Nat) (h7 : F.fn 30) (hro : F.round = none) (l Bs : Nat) (a : Option Addr) (cap : Nat) (J : List S23 → World → Prop) (W : World) (hBs : W.cell? ⟨Bs, 0, none⟩ = some (.slice a 0 cap)) (h0 : J [] W) :
    CallsIn F n Try.prog 30 #[.func (.yield l) #[] #[], .pointer (some ⟨Bs, 0, none⟩)] W fun e W' => (∃ v, e = .returned v) ∧ J [] W' := by
  refine callsIn_of_wp Try.func30 rfl h7 ?_ hro
  simp only [Try.ntmps30, List.size_toArray, List.length_cons, List.length_nil, Nat.reduceAdd, Nat.reduceSub, Array.replicate_succ, Array.replicate_zero, List.push_toArray, List.append_toArray, List.nil_append, List.cons_append]
  gi_wp2
  gi_loopw [7] (fun i wr => i = .int .i64 0 ∧ J [] wr) (fun _ _ => 0)
  case atStart => exact ⟨rfl, h0⟩
  case round =>
    obtain ⟨rfl, hJs⟩ := hrel
    gi_wp2
    go_end0
    exact ⟨⟨_, rfl⟩, hJs⟩

set_option maxHeartbeats 1000000 in
/-- slices.Values(s): the slice value is boxed; the function value captures the box. -/
theorem values_in (F : Fence) (n : Nat) (h5 : F.fn 26) (hro : F.round = none) (a : Option Addr) (len cap : Nat) (w : World) :
    CallsIn F n Try.prog 26 #[.slice a len cap] w fun e w' => e = .returned (.func (.func 30) #[] #[.pointer (some ⟨w.heap.size, 0, none⟩)]) ∧ w.alloc (.cells #[.slice a len cap] 24) = w' := by
  refine callsIn_of_wp Try.func26 rfl h5 ?_ hro
  simp only [Try.ntmps26, List.size_toArray, List.length_cons, List.length_nil, Nat.reduceAdd, Nat.reduceSub, Array.replicate_succ, Array.replicate_zero, List.push_toArray, List.append_toArray, List.nil_append, List.cons_append]
  gi_wp2
  go_ret
  exact ⟨rfl, rfl⟩

theorem SeqStopsK.kp {α : Type} {F : Fence} {n : Nat} {P : Program} {g : Nat} {lb : Array Value} {encs : α → Array Value} {Kp Kp' : World → World → Prop} {S Sp : List α → Prop} {N : Nat} {w : World}
    (h : SeqStopsK F n P g lb encs Kp S Sp N w) (hk : ∀ A B, Kp' A B → Kp A B) : SeqStopsK F n P g lb encs Kp' S Sp N w := fun l J Jx W hW hJ hJx hY h0 => by
  refine h l J Jx W hW hJ hJx (fun pre x W1 hj hl => ?_) h0
  obtain ⟨fn, tmps, assign, body, hy, hR⟩ := hY pre x W1 hj hl
  exact ⟨fn, tmps, assign, body, hy, hR.mono (fun e w' hr => hr.imp (fun ⟨a, b, c⟩ => ⟨a, b, hk _ _ c⟩) id)⟩

theorem SeqStopsK.later {α : Type} {F : Fence} {n : Nat} {P : Program} {g : Nat} {lb : Array Value} {encs : α → Array Value} {Kp : World → World → Prop} {S Sp : List α → Prop} {N : Nat} {w w' : World}
    (h : SeqStopsK F n P g lb encs Kp S Sp N w) (hb : Below w.heap.size w w') : SeqStopsK F n P g lb encs Kp S Sp N w' :=
  fun l J Jx W hW hJ hJx hY h0 => h l J Jx W (hb.trans (hW.mono hb.size)) hJ hJx hY h0

/-- slices.Values(s) hands back a value that gives all of zs, in order; or a prefix, where a round has said no more. -/
theorem values_stops (F : Fence) (n : Nat) (h7 : F.fn 30) (hro : F.round = none) (hn : 1 ≤ n) (Bs n₀ : Nat) (a : Option Addr) (cap : Nat) (zs : List S23) (hreach : zs.length * 16 ≤ 140737488351232) (w : World) (hBs : Bs < w.heap.size) (hn₀ : n₀ ≤ w.heap.size)
    (hc : w.cell? ⟨Bs, 0, none⟩ = some (.slice a zs.length cap)) (hI : Xs n₀ w a zs) :
    SeqStopsK F n Try.prog 30 #[.pointer (some ⟨Bs, 0, none⟩)] (fun x : S23 => #[.agg #[.int .i64 x.f0, .int .i64 x.f1]]) (Below n₀) (fun ys => ys = zs) (fun pre => pre <+: zs) zs.length w := fun l J Jx W hW hJ _ hY h0 => by
  have hc' := (hW.cell (p := ⟨Bs, 0, none⟩) hBs).trans hc
  rcases hI.below (hW.mono hn₀) with rfl | ⟨b, off, rfl, hb, hcs⟩
  · exact (values1_nil_in F n h7 hro l Bs a cap J W hc' h0).mono fun e W' ⟨he, hj⟩ => ⟨he, .inl ⟨_, rfl, hj⟩⟩
  · exact values1_in F n h7 hro hn l Bs n₀ b off cap zs hreach hb J Jx W hJ (Nat.le_trans hn₀ hW.size) hY hc' hcs h0

theorem info23' : (Try.prog.info? 23).map (fun i => (i.zero, i.size, i.bytes)) = some (some (.agg #[(.int .i64 0), (.int .i64 0)]), 2, 16) := by kernel_rfl

theorem cell_two (w : World) (x y : Value) (t : TypeId) : ∀ j u, [x, y][j]? = some u → (w.alloc (.cells #[x, y] t)).cell? ((⟨w.heap.size, 0, none⟩ : Addr).add j) = some u := by
  intro j u hj
  match j, hj with
  | 0, hj => simp at hj; subst hj; simp [Addr.add]
  | 1, hj => simp at hj; subst hj; simp [Addr.add]
  | (j + 2), hj => simp at hj

/-- An extent's box: a block of two cells. -/
def Box2 (W : World) (B : Nat) (x : S23) : Prop := W.heap[B]? = some (.cells #[.int .i64 x.f0, .int .i64 x.f1] 23 (0, 0))
theorem Box2.lt {W : World} {B : Nat} {x : S23} (h : Box2 W B x) : B < W.heap.size := (Array.getElem?_eq_some_iff.1 h).1
theorem Box2.cell0 {W : World} {B : Nat} {x : S23} (h : Box2 W B x) : W.cell? ⟨B, 0, none⟩ = some (.int .i64 x.f0) := by simp [World.cell?, show W.heap[B]? = _ from h]
theorem Box2.cell1 {W : World} {B : Nat} {x : S23} (h : Box2 W B x) : W.cell? ⟨B, 1, none⟩ = some (.int .i64 x.f1) := by simp [World.cell?, show W.heap[B]? = _ from h]
theorem Box2.new (W : World) (x : S23) : Box2 (W.alloc (.cells #[.int .i64 x.f0, .int .i64 x.f1] 23)) W.heap.size x := World.alloc_heap_new W _
theorem Box2.kept {W W' : World} {row : Option Nat} {B : Nat} {x : S23} (h : Box2 W B x) (hg : W.grownBy W' row) (hne : some B ≠ row) : Box2 W' B x := (hg.block B h.lt hne).trans h
theorem Box2.below {W W' : World} {N B : Nat} {x : S23} (h : Box2 W B x) (hb : Below N W W') (hB : B < N) : Box2 W' B x := (hb.block B hB).trans h
theorem Box2.alloc {W : World} {B : Nat} {x : S23} (h : Box2 W B x) (o : Obj) : Box2 (W.alloc o) B x := h.kept (World.grownBy_alloc W o none) (by simp)
theorem box2_own {β : Type} (B : Nat) (f : β → S23) : Own (fun s W => Box2 W B (f s)) := fun s X Y row hs hg hrow =>
  hs.kept hg (fun e' => by obtain ⟨o, ho, hc⟩ := hrow B e'.symm; rw [show X.heap[B]? = _ from hs] at ho; cases ho; cases hc)

/-! ### what a round of AppendSeq keeps: all cells but its own box and row -/
def Mine (b0 : Nat) (A : World) (k : Nat) : Prop := k = b0 ∨ ∃ v, Boxed A b0 24 v ∧ v.ownBlock = some k
def KpM (n₀ b0 : Nat) (A B : World) : Prop :=
  Below n₀ A B ∧ (∀ k, k < A.heap.size → (∃ c t f, A.heap[k]? = some (.cells c t f)) → ¬ Mine b0 A k → B.heap[k]? = A.heap[k]?) ∧ (∀ k, Mine b0 B k → Mine b0 A k ∨ (A.heap.size ≤ k ∧ k < B.heap.size))
theorem kpM_t {n₀ b0 : Nat} {A B C : World} (h : KpM n₀ b0 A B) (k : KpM n₀ b0 B C) : KpM n₀ b0 A C := by
  refine ⟨h.1.trans k.1, fun j hj hc hm => ?_, fun j hj => ?_⟩
  · have e := h.2.1 j hj hc hm
    rw [← e]
    refine k.2.1 j (Nat.lt_of_lt_of_le hj h.1.size) (by rw [e]; exact hc) fun hB => ?_
    rcases h.2.2 j hB with h1 | h1
    · exact hm h1
    · omega
  · rcases k.2.2 j hj with h1 | h1
    · rcases h.2.2 j h1 with h2 | h2
      · exact .inl h2
      · exact .inr ⟨h2.1, Nat.lt_of_lt_of_le h2.2 k.1.size⟩
    · exact .inr ⟨Nat.le_trans h.1.size h1.1, h1.2⟩
theorem kpM_b {n₀ b0 : Nat} {w : World} (hn : n₀ ≤ w.heap.size) (hb : b0 < w.heap.size) (W : World) (l : Nat) (o o' : Obj) (hl : w.heap.size ≤ l) (h : W.heap[l]? = some o) (hc : o.isCells = false) (hw : o.isWalk = false) : KpM n₀ b0 W (W.putObj l o') := by
  refine ⟨belowK_b hn W l o o' hl h hc hw, fun k _ ⟨c, t, f, hk⟩ _ => World.putObj_heap_other (fun e => ?_), fun k hk => .inl ?_⟩
  · subst e; rw [h] at hk; cases hk; cases hc
  · rcases hk with rfl | ⟨v, hv, hvo⟩
    · exact .inl rfl
    · exact .inr ⟨v, by unfold Boxed at hv ⊢; rwa [World.putObj_heap_other (fun e => by omega)] at hv, hvo⟩
theorem kpM_alloc {n₀ b0 : Nat} {W : World} (hn : n₀ ≤ W.heap.size) (hb : b0 < W.heap.size) (o : Obj) : KpM n₀ b0 W (W.alloc o) := by
  have hg := World.grownBy_alloc W o none
  refine ⟨(Below.refl _ W).alloc hn o, fun k hk _ _ => hg.block k hk (by simp), fun k hk => .inl ?_⟩
  rcases hk with rfl | ⟨v, hv, hvo⟩
  · exact .inl rfl
  · exact .inr ⟨v, by unfold Boxed at hv ⊢; rwa [hg.block b0 hb (by simp)] at hv, hvo⟩
theorem kpM_appended {n₀ b0 : Nat} {W w1 : World} {v v' : Value} {tmp : Obj} (hb : b0 < W.heap.size) (hv : Boxed W b0 24 v) (hBel : Below n₀ W (w1.setCell ⟨b0, 0, none⟩ v'))
    (hv2 : Boxed (w1.setCell ⟨b0, 0, none⟩ v') b0 24 v') (hg : (W.alloc tmp).grownBy w1 v.ownBlock) (hat : v'.ownBlock = v.ownBlock ∨ v'.ownBlock = some (W.alloc tmp).heap.size) {base k : Nat} {ys : List Value} (hown : (w1.setCell ⟨b0, 0, none⟩ v').ownsRow base 23 2 v' k ys) :
    KpM n₀ b0 W (w1.setCell ⟨b0, 0, none⟩ v') := by
  refine ⟨hBel, fun k hk _ hm => ?_, fun k hk => ?_⟩
  · have hkb : k ≠ b0 := fun e => hm (.inl e)
    have hko : some k ≠ v.ownBlock := fun e => hm (.inr ⟨v, hv, e.symm⟩)
    rw [Below.heap_setCell _ _ _ k hkb, hg.block k (by simp; omega) hko, (World.grownBy_alloc W tmp none).block k hk (by simp)]
  · rcases hk with rfl | ⟨u, hu, huo⟩
    · exact .inl (.inl rfl)
    · have : u = v' := by
        have := hu.symm.trans hv2
        simpa using this
      subst this
      rcases hat with h | h
      · exact .inl (.inr ⟨v, hv, by rw [← h]; exact huo⟩)
      · right
        rcases hown.2 with ⟨rfl, _⟩ | ⟨g, cap, cur, rfl, _, hgb, _⟩
        · simp [Value.ownBlock] at huo
        · obtain rfl : g = k := by simpa [Value.ownBlock] using huo
          refine ⟨?_, (Array.getElem?_eq_some_iff.1 hgb).1⟩
          rw [h] at huo
          simp at huo
          omega

/-- The append law with where the new row lies. -/
theorem wpListIn_append_own_at {F : Fence} {n : Nat} {P : Program} (w : World) {ops : Array Oper} {rest : List Oper} {o : Oper} {a : Act} {Q : Exit → Act → World → Prop}
    (hg : o.guard = none) (s x : Operand) (t : TypeId) (hop : o.op = Op.call { callee := Callee.builtin Builtin.append, args := #[s, x], argTypes := #[t, t] })
    (base : Nat) (e : TypeId) (i : TypeInfo) (z : Value) (size bytes : Nat) (h1 : P.underlying t = some (.slice e)) (h2 : P.info? e = some i) (h3 : i.zero = some z) (h4 : i.size = size) (h5 : i.bytes = bytes) (h6 : z.cells.size = size) (h7 : 0 < size)
    (v : Value) (k : Nat) (xs : List Value) (hs : a.eval s = v) (hown : w.ownsRow base e size v k xs) (ad : Addr) (m c : Nat) (news : List Value) (hx : a.eval x = .slice (some ad) m c) (hn : news.length = m * size)
    (hc : ∀ j u, news[j]? = some u → w.cell? (ad.add j) = some u) (h1c : ∀ u ∈ news, u.oneCell' = true) (b1 : k + m ≤ maxLen) (b2 : (k + m) * bytes ≤ 140737488355328) (b3 : base ≤ w.heap.size)
    (hK : ∀ v' w', w'.ownsRow base e size v' (k + m) (xs ++ news) → w.grownBy w' v.ownBlock → (v'.ownBlock = v.ownBlock ∨ v'.ownBlock = some w.heap.size) → wpListIn F n P ops Q rest (a.put o.dst v') w') :
    wpListIn F n P ops Q (o :: rest) a w := by
  refine wpListIn_plain hg fun K hK' => ?_
  obtain ⟨v', w', hrun, r1, r2, _, r4⟩ := run_append_own_at (P := P) w base t o.type e i z size bytes h1 h2 h3 h4 h5 h6 h7 v k xs hown ad m c news hn hc h1c b1 b2 b3
  unfold Oper.wpIn
  refine ⟨?_, ?_⟩
  · simp [Oper.about, hop, resolve, Target.leads, Sem.run_pure]
  · rw [Oper.semAt_plain F _ _ (by rw [hop]; intro c hc'; cases hc')]
    simp [execOp, hop, resolve, invoke, builtin, hs, hx, hrun, Result.andThen]
    exact hK' _ _ (hK v' w' r1 r2 r4)

set_option maxRecDepth 100000 in
set_option maxHeartbeats 4000000 in
/-- slices.AppendSeq(nil, seq), whatever iterator of extents: a new slice that owns what has come. -/
theorem appendSeq_in (F : Fence) (n : Nat) (h23 : F.fn 23) (hro : F.round = none) (hn : 3 ≤ n) (g : Nat) (lb : Array Value) (hFg : F.fn g) (eg : ∀ args w, (callFunc g args).run Try.prog w = .ok (.enter g args) w)
    (S Sp : List S23 → Prop) (N n₀ : Nat) (w : World) (hn₀ : n₀ ≤ w.heap.size) (hN : N ≤ 8796093022208)
    (hseq : SeqStopsK F (n - 1) Try.prog g lb (fun x : S23 => #[.agg #[.int .i64 x.f0, .int .i64 x.f1]]) (KpM n₀ w.heap.size) S Sp N (w.alloc (.cells #[.slice none 0 0] 24))) :
    CallsIn F n Try.prog 23 #[.slice none 0 0, .func (.func g) #[] lb] w fun e W' => ∃ v xs, e = .returned v ∧ S xs ∧ W'.ownsRow w.heap.size 23 2 v xs.length (cxs xs) ∧ Below w.heap.size w W' := by
  have h1 : 1 ≤ n := by omega
  obtain ⟨i0, hi, hz0, hz1, hz2⟩ := info_parts info23'
  refine callsIn_of_wp_marks Try.func23 rfl h23 ?_ hro
  simp only [Try.ntmps23, List.size_toArray, List.length_cons, List.length_nil, Nat.reduceAdd, Nat.reduceSub, Array.replicate_succ, Array.replicate_zero, List.push_toArray, List.append_toArray, List.nil_append, List.cons_append]
  gi_wp2
  have bO := Boxed.new w 24 (.slice none 0 0)
  have hB0 : Below w.heap.size w (w.alloc (.cells #[.slice none 0 0] 24)) := (Below.refl _ w).alloc (Nat.le_refl _) _
  refine wpIn_rangeFunc_ownH hro h1 (gf := g) (lb := lb) rfl hFg eg hseq kpM_t (kpM_b (by simp; omega) (by simp)) (Below.refl _ _) (fun _ => rfl)
    (fun pre W => (∃ v, Boxed W w.heap.size 24 v ∧ W.ownsRow w.heap.size 23 2 v pre.length (cxs pre) ∧ True) ∧ Below w.heap.size w W)
    (fun _ _ _ => False)
    (OwnFrom.and (Own.from (holdsRow_own w.heap.size w.heap.size 24 23 2 (fun pre => pre.length) (fun pre => cxs pre) (fun _ _ => True)) _) (ownFrom_below (Nat.le_refl _) (by simp)))
    (fun _ _ _ _ _ hs _ _ => hs)
    ⟨⟨_, bO, World.ownsRow_nil _ _ _ _, trivial⟩, hB0⟩
    (fun x a' W => ∃ Bx, w.heap.size < Bx ∧ Box2 W Bx x ∧ a' = { tmps := #[.slice none 0 0, .func (.func g) #[] lb, .pointer (some ⟨w.heap.size, 0, none⟩), undef, .slice none 0 0, .pointer (some ⟨Bx, 0, none⟩), .func (.func g) #[] lb, .agg #[.int .i64 x.f0, .int .i64 x.f1], undef, undef, undef, undef, undef], defers := [] })
    (fun x a' _ X Y row hs hg hr => by obtain ⟨Bx, h1, h2, h3⟩ := hs; exact ⟨Bx, h1, box2_own Bx (fun (_ : Unit) => x) () X Y row h2 hg (fun r e => (hr r e).2), h3⟩)
    ?assign ?body ?done ?stop
  case assign =>
    rintro l pre x W K ⟨⟨v, hv, hrow, _⟩, hB⟩ hK
    gi_wp2
    exact hK _ _ ((KeepsOthers.alloc _ _).from _) (kpM_alloc (Nat.le_trans hn₀ hB.size) hv.lt _) ⟨⟨v, hv.alloc _, hrow.alloc _, trivial⟩, hB.alloc hB.size _⟩ ⟨W.heap.size, hv.lt, Box2.new W x, rfl⟩
  case body =>
    rintro l pre x a' W hl ⟨r, hr⟩ ⟨⟨v, hv, hrow, _⟩, hB⟩ ⟨Bx, hBx, bX, rfl⟩ hlt
    have hc := hv.cell
    have hx0 := bX.cell0
    have hx1 := bX.cell1
    gi_wp2_with (gi_at_builtin; refine wpListIn_append_own_at _ rfl _ _ 24 rfl w.heap.size 23 i0 (.agg #[.int .i64 0, .int .i64 0]) 2 16 Try.underlying24 hi hz0 hz1 hz2 rfl (by decide) _ _ _ rfl (hrow.alloc _) ⟨W.heap.size, 0, none⟩ 1 1 [.int .i64 x.f0, .int .i64 x.f1] rfl rfl (cell_two _ _ _ _) (by simp [Value.oneCell']) (by unfold maxLen; omega) (by omega) (by have := hB.size; simp; omega) ?_; intro v' w1 hown' hgrow hat; obtain ⟨g', cap', rfl⟩ := ownsRow_succ hown'; obtain ⟨hv1, hv2, hr2, hk2, hb2⟩ := hv.appended (by decide) hrow hB.size (Nat.le_refl _) hown' hgrow; have hc1 := hv1.cell; have hf1 := hv1.frozen)
    exact ⟨hk2.from _, kpM_appended hv.lt hv (hb2.mono hn₀) hv2 hgrow hat hr2, ⟨⟨_, hv2, by rw [cxs_snoc]; simpa using hr2, trivial⟩, hB.trans hb2⟩⟩
  case done =>
    rintro D ys W hD hS ⟨⟨v, hv, hrow, _⟩, hB⟩ hK
    have hc := hv.cell
    gi_wp2
    refine ⟨by simp, .inl ⟨_, _, rfl, run_takeDeferred hK, ?_⟩⟩
    exact ⟨_, results_tmp rfl _ _ _, v, ys, rfl, hS, ownsRow_putObj hrow _ hK rfl, hB.trans (belowK_b (w := w) (Nat.le_refl _) W D _ _ (by simp at hD; omega) hK rfl rfl)⟩
  case stop =>
    rintro D c pre W _ _ h _
    exact h.elim

end Go.Proofs.Ytflmlejgahnppaa.PExt
