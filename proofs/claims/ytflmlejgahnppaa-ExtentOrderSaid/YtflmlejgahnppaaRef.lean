/- What the document's functions on extents come to. No memory. -/
import Derived.Test.YtflmlejgahnppaaPlain
import Derived.Test.YtflmlejgahnppaaPExtx6
import Derived.Test.YtflmlejgahnppaaPExtx7
import Derived.Test.YtflmlejgahnppaaPExtx8
import Derived.Test.YtflmlejgahnppaaPExtx9
import Derived.Test.YtflmlejgahnppaaPExtx10
import Derived.Test.YtflmlejgahnppaaPExtx11
namespace Go.Proofs.Ytflmlejgahnppaa.PExt
open Go.RowKit Go.Sort Go.Proofs.YtflmlejgahnppaaW.PrintWords Go.Proofs.YtflmlejgahnppaaW.PrintLast Go.Proofs.YtflmlejgahnppaaW.PrintMore

theorem rd_mid (a : List S23) (x : S23) (b : List S23) : rd_T23 (a ++ x :: b) (a.length : Int) = x := by
  unfold rd_T23
  rw [Int.toNat_natCast, List.getD_eq_getElem?_getD]
  simp
theorem fin_ev {α : Type} {g : Nat → Option α} {r : α} (h : ∀ k, g (k + 1) = some r) : Ev g r := Ev.step (f := fun _ => some r) h (Ev.now _)

theorem apart_f (x y : S23) (h1 : -4611686018427387904 ≤ x.f0 ∧ x.f0 ≤ 4611686018427387904) (h2 : -4611686018427387904 ≤ x.f1 ∧ x.f1 ≤ 4611686018427387900) (h3 : -4611686018427387904 ≤ y.f0 ∧ y.f0 ≤ 4611686018427387904) (h4 : -4611686018427387904 ≤ y.f1 ∧ y.f1 ≤ 4611686018427387900) :
    ∃ b, oakumref11_apart.f x.f0 x.f1 y.f0 y.f1 = some b ∧ (b = true ↔ apartP x y) := by
  unfold oakumref11_apart.f apartP
  rw [w64 (by omega) (by omega), w64 (by omega) (by omega)]
  by_cases c : x.f0 + x.f1 ≤ y.f0
  · exact ⟨true, by rw [if_pos c], by simp [c]⟩
  · exact ⟨_, by rw [if_neg c], by simp [c]⟩

theorem ref_inner {s m : Int} (hr : smallR s m) (x : S23) (hx : okS s m x) (rest : List S23) (r0 : Bool) : ∀ (p2 p1 : List S23), (p1 ++ p2).length ≤ 1000 → (∀ p ∈ p2, okS s m p) →
    Ev (fun k => oakumref11_Right.l0 k ((p1 ++ p2) ++ x :: rest) (((p1 ++ p2).length + 1 : Nat) : Int) s m) r0 →
    ∃ r, Ev (fun k => oakumref11_Right.l1 k ((p1 ++ p2) ++ x :: rest) ((p1 ++ p2).length : Int) (p1.length : Int) s m x.f0 x.f1) r ∧ (r = true ↔ (∀ p ∈ p2, apartP p x) ∧ r0 = true) := by
  unfold smallR at hr
  unfold okS at hx
  intro p2
  induction p2 with
  | nil =>
    intro p1 hl _ h0
    refine ⟨r0, Ev.step (f := fun k => oakumref11_Right.l0 k ((p1 ++ []) ++ x :: rest) (((p1 ++ []).length + 1 : Nat) : Int) s m) (fun k => ?_) h0, by simp⟩
    simp only [oakumref11_Right.l1]
    rw [if_neg (by simp), w64 (by omega) (by omega)]
    rfl
  | cons p p2 ih =>
    intro p1 hl hp h0
    have hp0 := hp p List.mem_cons_self
    unfold okS at hp0
    have e : p1 ++ p :: p2 = (p1 ++ [p]) ++ p2 := by simp
    have hl1 : p1.length < (p1 ++ p :: p2).length := by simp
    obtain ⟨b, hb, hbi⟩ := apart_f p x (by omega) (by omega) (by omega) (by omega)
    have op : ∀ k, oakumref11_Right.l1 (k + 1) ((p1 ++ p :: p2) ++ x :: rest) ((p1 ++ p :: p2).length : Int) (p1.length : Int) s m x.f0 x.f1 = (if b = true then (oakumref11_Right.l1 k ((p1 ++ p :: p2) ++ x :: rest) ((p1 ++ p :: p2).length : Int) (((p1 ++ [p]).length : Nat) : Int) s m x.f0 x.f1) else (some false)) := by
      intro k
      have er : rd_T23 ((p1 ++ p :: p2) ++ x :: rest) (p1.length : Int) = p := by rw [List.append_assoc, List.cons_append]; exact rd_mid _ _ _
      simp only [oakumref11_Right.l1]
      rw [if_pos (by omega), if_pos (by omega), if_pos (by simp; omega), er, hb, Option.bind_some, w64 (by omega) (by omega)]
      simp
    cases hbb : b with
    | false =>
      subst hbb
      refine ⟨false, fin_ev (fun k => by rw [op]; rfl), ?_⟩
      constructor
      · intro h; cases h
      · rintro ⟨h, _⟩
        have := hbi.2 (h p List.mem_cons_self)
        cases this
    | true =>
      subst hbb
      rw [e] at h0
      obtain ⟨r, hr', hri⟩ := ih (p1 ++ [p]) (by rw [← e]; exact hl) (fun q hq => hp q (List.mem_cons_of_mem _ hq)) h0
      refine ⟨r, Ev.step (f := fun k => oakumref11_Right.l1 k (((p1 ++ [p]) ++ p2) ++ x :: rest) (((p1 ++ [p]) ++ p2).length : Int) ((p1 ++ [p]).length : Int) s m x.f0 x.f1) (fun k => ?_) hr', ?_⟩
      · rw [op, ← e]; rfl
      · rw [hri]
        constructor
        · rintro ⟨h1, h2⟩
          refine ⟨fun q hq => ?_, h2⟩
          rcases List.mem_cons.1 hq with rfl | hq
          · exact hbi.1 rfl
          · exact h1 q hq
        · rintro ⟨h1, h2⟩
          exact ⟨fun q hq => h1 q (List.mem_cons_of_mem _ hq), h2⟩

theorem ref_outer {s m : Int} (hr : smallR s m) : ∀ (rest pre : List S23), (pre ++ rest).length ≤ 1000 → Fine rest → (∀ p ∈ pre, okS s m p) →
    ∃ r, Ev (fun k => oakumref11_Right.l0 k (pre ++ rest) (pre.length : Int) s m) r ∧ (r = true ↔ (∀ x ∈ rest, okS s m x) ∧ rest.Pairwise apartP ∧ ∀ p ∈ pre, ∀ x ∈ rest, apartP p x) := by
  have hr' := hr
  unfold smallR at hr'
  intro rest
  induction rest with
  | nil =>
    intro pre hl _ _
    refine ⟨true, fin_ev (fun k => ?_), by simp⟩
    simp only [oakumref11_Right.l0]
    rw [if_neg (by simp)]
  | cons x rest ih =>
    intro pre hl hf hp
    obtain ⟨⟨q1, q2⟩, q3, q4⟩ := hf x List.mem_cons_self
    have hl' : pre.length < (pre ++ x :: rest).length := by simp
    have e1 : wrap64 (s + m) = s + m := w64 (by omega) (by omega)
    have op : ∀ k, oakumref11_Right.l0 (k + 1) (pre ++ x :: rest) (pre.length : Int) s m = (if x.f1 < 1 then (oakumref11_Right.j1 k (pre ++ x :: rest) (pre.length : Int) true s m x.f0 x.f1) else (if x.f0 < s then (oakumref11_Right.j1 k (pre ++ x :: rest) (pre.length : Int) true s m x.f0 x.f1) else (if x.f0 ≥ s + m then (oakumref11_Right.j1 k (pre ++ x :: rest) (pre.length : Int) true s m x.f0 x.f1) else (oakumref11_Right.j1 k (pre ++ x :: rest) (pre.length : Int) (decide (x.f1 > wrap64 (s + m - x.f0))) s m x.f0 x.f1)))) := by
      intro k
      simp only [oakumref11_Right.l0]
      rw [if_pos (by omega), if_pos (by omega), rd_mid, e1]
    have bad : Ev (fun k => oakumref11_Right.j1 k (pre ++ x :: rest) (pre.length : Int) true s m x.f0 x.f1) false := fin_ev (fun k => by simp [oakumref11_Right.j1])
    have nok : ¬ okS s m x → ((false = true) ↔ (∀ y ∈ x :: rest, okS s m y) ∧ (x :: rest).Pairwise apartP ∧ ∀ p ∈ pre, ∀ y ∈ x :: rest, apartP p y) := fun h => ⟨fun h' => (by cases h'), fun h' => absurd (h'.1 x List.mem_cons_self) h⟩
    by_cases c1 : x.f1 < 1
    · exact ⟨false, Ev.step (fun k => by rw [op, if_pos c1]) bad, nok (fun h => by unfold okS at h; omega)⟩
    by_cases c2 : x.f0 < s
    · exact ⟨false, Ev.step (fun k => by rw [op, if_neg c1, if_pos c2]) bad, nok (fun h => by unfold okS at h; omega)⟩
    by_cases c3 : x.f0 ≥ s + m
    · exact ⟨false, Ev.step (fun k => by rw [op, if_neg c1, if_neg c2, if_pos c3]) bad, nok (fun h => by unfold okS at h; omega)⟩
    have e2 : wrap64 (s + m - x.f0) = s + m - x.f0 := w64 (by omega) (by omega)
    by_cases c4 : x.f1 > s + m - x.f0
    · exact ⟨false, Ev.step (fun k => by rw [op, if_neg c1, if_neg c2, if_neg c3, e2, decide_eq_true c4]) bad, nok (fun h => by unfold okS at h; omega)⟩
    have hok : okS s m x := ⟨by omega, by omega, by omega⟩
    obtain ⟨r0, hr0, hri0⟩ := ih (pre ++ [x]) (by simpa using hl) (fun y hy => hf y (List.mem_cons_of_mem _ hy)) (fun p hp' => by
      rcases List.mem_append.1 hp' with h | h
      · exact hp p h
      · simp at h; subst h; exact hok)
    have el : (pre ++ [x]) ++ rest = pre ++ x :: rest := by simp
    obtain ⟨r, hr1, hri1⟩ := ref_inner hr x hok rest r0 pre [] (by simp at hl ⊢; omega) hp (by
      rw [el] at hr0
      refine Ev.congr (fun k => ?_) hr0
      simp)
    refine ⟨r, Ev.step (f := fun k => oakumref11_Right.j1 k (pre ++ x :: rest) (pre.length : Int) false s m x.f0 x.f1) (fun k => by rw [op, if_neg c1, if_neg c2, if_neg c3, e2, decide_eq_false c4]) (Ev.step (f := fun k => oakumref11_Right.l1 k (pre ++ x :: rest) (pre.length : Int) 0 s m x.f0 x.f1) (fun k => by simp [oakumref11_Right.j1]) (Ev.congr (fun k => by simp) hr1)), ?_⟩
    rw [hri1, hri0]
    constructor
    · rintro ⟨h1, h2, h3, h4⟩
      refine ⟨fun y hy => ?_, List.pairwise_cons.2 ⟨fun y hy => h4 x (by simp) y hy, h3⟩, fun p hp' y hy => ?_⟩
      · rcases List.mem_cons.1 hy with rfl | hy
        · exact hok
        · exact h2 y hy
      · rcases List.mem_cons.1 hy with rfl | hy
        · exact h1 p hp'
        · exact h4 p (by simp [hp']) y hy
    · rintro ⟨h1, h2, h3⟩
      obtain ⟨k1, k2⟩ := List.pairwise_cons.1 h2
      refine ⟨fun p hp' => h3 p hp' x List.mem_cons_self, fun y hy => h1 y (List.mem_cons_of_mem _ hy), k2, fun p hp' y hy => ?_⟩
      rcases List.mem_append.1 hp' with h | h
      · exact h3 p h y (List.mem_cons_of_mem _ hy)
      · simp at h; subst h; exact k1 y hy

theorem small_ev (s m : Int) : ∃ b, oakumref11_small.f s m = some b ∧ (b = true ↔ smallR s m) := by
  unfold oakumref11_small.f smallR
  by_cases h1 : s ≥ 0
  · rw [if_pos h1]
    by_cases h2 : s ≤ 1048576
    · rw [if_pos h2]
      by_cases h3 : m ≥ 0
      · exact ⟨_, by rw [if_pos h3], by simp; omega⟩
      · exact ⟨_, by rw [if_neg h3], by simp; omega⟩
    · exact ⟨_, by rw [if_neg h2], by simp; omega⟩
  · exact ⟨_, by rw [if_neg h1], by simp; omega⟩

theorem refRight_ev {s m : Int} {l : List S23} (hf : Fine l) (hlen : l.length ≤ 1000) : Ev (fun k => oakumref11_Right.f k s m l) (goodB s m l) := by
  obtain ⟨b, hb, hbi⟩ := small_ev s m
  unfold oakumref11_Right.f
  rw [hb]
  cases hbb : b with
  | false =>
    subst hbb
    have : goodB s m l = false := goodB_false (fun h => by have := hbi.2 h.1; cases this)
    rw [this]
    exact Ev.congr (f := fun _ => some false) (fun k => by simp) (Ev.now _)
  | true =>
    subst hbb
    have hr := hbi.1 rfl
    obtain ⟨r, hr', hri⟩ := ref_outer hr l [] (by simpa using hlen) hf (by simp)
    have : goodB s m l = r := by
      rw [Bool.eq_iff_iff, goodB_true, hri]
      unfold Good
      simp [hr]
    rw [this]
    exact Ev.congr (fun k => by simp) hr'

/-! ### has -/
def covP (l : List S23) (a : Int) : Prop := ∃ x ∈ l, x.f0 ≤ a ∧ a < x.f0 + x.f1
theorem has_loop (a : Int) : ∀ (rest pre : List S23), (pre ++ rest).length ≤ 1000 → (∀ x ∈ rest, 1 ≤ x.f1 ∧ x.f1 ≤ 1048576 ∧ 0 ≤ x.f0 ∧ x.f0 ≤ 2097152) →
    ∃ r, Ev (fun k => oakumref11_has.l0 k (pre ++ rest) a (pre.length : Int)) r ∧ (r = true ↔ covP rest a) := by
  intro rest
  induction rest with
  | nil =>
    intro pre hl _
    refine ⟨false, fin_ev (fun k => ?_), by simp [covP]⟩
    simp only [oakumref11_has.l0]
    rw [if_neg (by simp)]
  | cons x rest ih =>
    intro pre hl hx
    have h0 := hx x List.mem_cons_self
    have hl' : pre.length < (pre ++ x :: rest).length := by simp
    have el : (pre ++ [x]) ++ rest = pre ++ x :: rest := by simp
    have op : ∀ k, oakumref11_has.l0 (k + 1) (pre ++ x :: rest) a (pre.length : Int) = (if a ≥ x.f0 then (if a < x.f0 + x.f1 then (some true) else (oakumref11_has.l0 k ((pre ++ [x]) ++ rest) a ((pre ++ [x]).length : Int))) else (oakumref11_has.l0 k ((pre ++ [x]) ++ rest) a ((pre ++ [x]).length : Int))) := by
      intro k
      simp only [oakumref11_has.l0]
      rw [if_pos (by omega), if_pos (by omega), rd_mid, w64 (a := x.f0 + x.f1) (by omega) (by omega), w64 (by omega) (by omega), el]
      simp
    obtain ⟨r, hr, hri⟩ := ih (pre ++ [x]) (by rw [el]; exact hl) (fun y hy => hx y (List.mem_cons_of_mem _ hy))
    by_cases c1 : a ≥ x.f0
    · by_cases c2 : a < x.f0 + x.f1
      · refine ⟨true, fin_ev (fun k => by rw [op, if_pos c1, if_pos c2]), ?_⟩
        simp only [true_iff]
        exact ⟨x, List.mem_cons_self, c1, c2⟩
      · refine ⟨r, Ev.step (fun k => by rw [op, if_pos c1, if_neg c2]) hr, ?_⟩
        rw [hri]
        constructor
        · rintro ⟨y, hy, h⟩; exact ⟨y, List.mem_cons_of_mem _ hy, h⟩
        · rintro ⟨y, hy, h1, h2⟩
          rcases List.mem_cons.1 hy with rfl | hy
          · exact absurd h2 c2
          · exact ⟨y, hy, h1, h2⟩
    · refine ⟨r, Ev.step (fun k => by rw [op, if_neg c1]) hr, ?_⟩
      rw [hri]
      constructor
      · rintro ⟨y, hy, h⟩; exact ⟨y, List.mem_cons_of_mem _ hy, h⟩
      · rintro ⟨y, hy, h1, h2⟩
        rcases List.mem_cons.1 hy with rfl | hy
        · exact absurd h1 c1
        · exact ⟨y, hy, h1, h2⟩
theorem has_ev {s m : Int} {l : List S23} (h : Good s m l) (hlen : l.length ≤ 1000) (a : Int) : ∃ r, Ev (fun k => oakumref11_has.f k l a) r ∧ (r = true ↔ covP l a) := by
  obtain ⟨r, hr, hri⟩ := has_loop a l [] (by simpa using hlen) (good_small h)
  exact ⟨r, Ev.congr (fun k => by unfold oakumref11_has.f; simp) hr, hri⟩

/-! ### Gaps, sector by sector -/
section
variable {s m : Int} {l : List S23} (h : Good s m l) (hlen : l.length ≤ 1000)
def gl (l : List S23) (s m : Int) (out : List S23) (wi : Bool) (a : Int) (k : Nat) : Option (List S23 × Int) := oakumref11_Gaps.l0 k l out wi a s m

omit h hlen in
theorem gl_op (hr : smallR s m) {out : List S23} {wi : Bool} {a : Int} (ha : s ≤ a) (hb : a < s + m) (k : Nat) : gl l s m out wi a (k + 1) = (oakumref11_has.f k l a).bind fun t => (if t = true then gl l s m out false (a + 1) k else (if wi = true then (if 0 ≤ (wrap64 ((out.length : Int) - 1)) then (if (wrap64 ((out.length : Int) - 1)) < (out.length : Int) then gl l s m (out.set ((wrap64 ((out.length : Int) - 1)) : Int).toNat (⟨(rd_T23 out (wrap64 ((out.length : Int) - 1))).f0, wrap64 (((rd_T23 out (wrap64 ((out.length : Int) - 1))).f1) + 1)⟩ : S23)) wi (a + 1) k else none) else none) else (if out.length < 8796093022208 then gl l s m (out ++ [(⟨a, 1⟩ : S23)]) true (a + 1) k else none))) := by
  unfold smallR at hr
  have e1 : wrap64 (s + m) = s + m := w64 (by omega) (by omega)
  have e2 : wrap64 (a + 1) = a + 1 := w64 (by omega) (by omega)
  unfold gl
  simp only [oakumref11_Gaps.l0]
  rw [e1, e2, if_pos hb]

include h hlen in
theorem gl_cov {out : List S23} {wi : Bool} {a : Int} {r : List S23 × Int} (ha : s ≤ a) (hb : a < s + m) (hc : covP l a) (he : Ev (gl l s m out false (a + 1)) r) : Ev (gl l s m out wi a) r := by
  obtain ⟨b, hb', hbi⟩ := has_ev h hlen a
  have : b = true := hbi.2 hc
  subst this
  exact Ev.step (gl_op h.1 ha hb) (Ev.bind hb' (Ev.congr (fun k => if_pos rfl) he))

include h hlen in
theorem gl_new {out : List S23} {a : Int} {r : List S23 × Int} (ha : s ≤ a) (hb : a < s + m) (hc : ¬ covP l a) (ho : out.length < 8796093022208) (he : Ev (gl l s m (out ++ [⟨a, 1⟩]) true (a + 1)) r) : Ev (gl l s m out false a) r := by
  obtain ⟨b, hb', hbi⟩ := has_ev h hlen a
  cases b with
  | true => exact absurd (hbi.1 rfl) hc
  | false => exact Ev.step (gl_op h.1 ha hb) (Ev.bind hb' (Ev.congr (fun k => by simp [ho]) he))

include h hlen in
theorem gl_more {out : List S23} {a b d : Int} {r : List S23 × Int} (ha : s ≤ a) (hb : a < s + m) (hc : ¬ covP l a) (ho : out.length < 8796093022208) (hd : 0 ≤ d ∧ d ≤ 2097152) (he : Ev (gl l s m (out ++ [⟨b, d + 1⟩]) true (a + 1)) r) : Ev (gl l s m (out ++ [⟨b, d⟩]) true a) r := by
  obtain ⟨t, hb', hbi⟩ := has_ev h hlen a
  cases t with
  | true => exact absurd (hbi.1 rfl) hc
  | false =>
    refine Ev.step (gl_op h.1 ha hb) (Ev.bind hb' (Ev.congr (fun k => ?_) he))
    have e1 : ((out ++ [(⟨b, d⟩ : S23)]).length : Int) - 1 = (out.length : Int) := by simp
    rw [e1, w64 (by omega) (by omega), if_neg (by decide), if_pos rfl, if_pos (by omega), if_pos (by simp; omega), rd_mid, w64 (by simp; omega) (by simp; omega), Int.toNat_natCast]
    simp

include h hlen in
/-- A stretch without a sector of theirs. -/
theorem gl_free {a : Int} {r : List S23 × Int} (ha : s ≤ a) : ∀ (n : Nat) {out : List S23} {b d : Int}, a = b + d → 0 < d → s ≤ b → a + n ≤ s + m → (∀ t, a ≤ t → t < a + n → ¬ covP l t) → out.length < 8796093022208 →
    Ev (gl l s m (out ++ [⟨b, d + n⟩]) true (a + n)) r → Ev (gl l s m (out ++ [⟨b, d⟩]) true a) r := by
  have hs := h.1
  unfold smallR at hs
  intro n
  induction n generalizing a with
  | zero => intro out b d _ _ _ _ _ _ he; simpa using he
  | succ n ih =>
    intro out b d h1 h2 h3 h4 h5 h6 he
    refine gl_more h hlen ha (by omega) (h5 a (Int.le_refl _) (by omega)) h6 (by omega) (ih (a := a + 1) (by omega) (by omega) (by omega) h3 (by omega) (fun t ht ht' => h5 t (by omega) (by omega)) h6 ?_)
    have e1 : d + 1 + (n : Int) = d + ((n + 1 : Nat) : Int) := by omega
    have e2 : a + 1 + (n : Int) = a + ((n + 1 : Nat) : Int) := by omega
    rw [e1, e2]; exact he

include h hlen in
/-- A gap: from nothing. -/
theorem gl_gap {a e : Int} {out : List S23} {r : List S23 × Int} (ha : s ≤ a) (hae : a < e) (he : e ≤ s + m) (hc : ∀ t, a ≤ t → t < e → ¬ covP l t) (ho : out.length < 8796093022208) (hk : Ev (gl l s m (out ++ [⟨a, e - a⟩]) true e) r) : Ev (gl l s m out false a) r := by
  refine gl_new h hlen ha (by omega) (hc a (Int.le_refl _) hae) ho ?_
  refine gl_free h hlen (a := a + 1) (by omega) (e - (a + 1)).toNat rfl (by omega) ha (by omega) (fun t ht ht' => hc t (by omega) (by omega)) ho ?_
  have e1 : 1 + ((e - (a + 1)).toNat : Int) = e - a := by omega
  have e2 : a + 1 + ((e - (a + 1)).toNat : Int) = e := by omega
  rw [e1, e2]; exact hk

include h hlen in
/-- An extent is passed over. -/
theorem gl_over : ∀ (n : Nat) {a : Int} {out : List S23} {wi : Bool} {r : List S23 × Int}, s ≤ a → a + (n + 1 : Nat) ≤ s + m → (∀ t, a ≤ t → t < a + (n + 1 : Nat) → covP l t) → Ev (gl l s m out false (a + (n + 1 : Nat))) r → Ev (gl l s m out wi a) r := by
  intro n
  induction n with
  | zero => intro a out wi r ha hb hc he; exact gl_cov h hlen ha (by omega) (hc a (Int.le_refl _) (by omega)) (by simpa using he)
  | succ n ih =>
    intro a out wi r ha hb hc he
    refine gl_cov h hlen ha (by omega) (hc a (Int.le_refl _) (by omega)) (ih (by omega) (by omega) (fun t ht ht' => hc t (by omega) (by omega)) ?_)
    have e2 : a + 1 + ((n + 1 : Nat) : Int) = a + ((n + 1 + 1 : Nat) : Int) := by omega
    rw [e2]; exact he

omit h hlen in
theorem gl_end (hr : smallR s m) (out : List S23) (wi : Bool) : Ev (gl l s m out wi (s + m)) (out, 0) := by
  unfold smallR at hr
  refine fin_ev (fun k => ?_)
  unfold gl
  simp only [oakumref11_Gaps.l0]
  rw [w64 (by omega) (by omega), if_neg (by omega)]

include h hlen in
theorem gl_all : ∀ (xs : List S23) (a : Int) (out : List S23), s ≤ a → a ≤ s + m → chainM s m a xs → (∀ t, a ≤ t → (covP l t ↔ covP xs t)) → out.length + xs.length < 8796093022208 → Ev (gl l s m out false a) (out ++ gapsE a (s + m) xs, 0) := by
  intro xs
  induction xs with
  | nil =>
    intro a out ha hb _ hc ho
    rw [gapsE_nil]
    by_cases hlt : a < s + m
    · rw [if_pos hlt]
      exact gl_gap h hlen ha hlt (Int.le_refl _) (fun t ht _ => by rw [hc t ht]; rintro ⟨x, hx, _⟩; cases hx) (by simp at ho; omega) (gl_end h.1 _ _)
    · rw [if_neg hlt, List.append_nil]
      have : a = s + m := by omega
      subst this
      exact gl_end h.1 _ _
  | cons x xs ih =>
    intro a out ha hb hch hc ho
    obtain ⟨h1, h2, h3, h4, h5⟩ := hch
    have again : ∀ out' : List S23, out'.length + xs.length < 8796093022208 → Ev (gl l s m out' false (x.f0 + x.f1)) (out' ++ gapsE (x.f0 + x.f1) (s + m) xs, 0) := fun out' ho' =>
      ih (x.f0 + x.f1) out' (by omega) (by omega) h5 (fun t ht => by
        rw [hc t (by omega)]
        constructor
        · rintro ⟨y, hy, k1, k2⟩
          rcases List.mem_cons.1 hy with rfl | hy
          · omega
          · exact ⟨y, hy, k1, k2⟩
        · rintro ⟨y, hy, k⟩; exact ⟨y, List.mem_cons_of_mem _ hy, k⟩) ho'
    have over : ∀ (out' : List S23) (wi : Bool), out'.length + xs.length < 8796093022208 → Ev (gl l s m out' wi x.f0) (out' ++ gapsE (x.f0 + x.f1) (s + m) xs, 0) := fun out' wi ho' => by
      have e : x.f0 + (((x.f1 - 1).toNat + 1 : Nat) : Int) = x.f0 + x.f1 := by omega
      refine gl_over h hlen (x.f1 - 1).toNat (by omega) (by omega) (fun t ht ht' => ?_) (by rw [e]; exact again out' ho')
      rw [hc t (by omega)]
      exact ⟨x, List.mem_cons_self, ht, by omega⟩
    rw [gapsE_cons]
    by_cases hlt : a < x.f0
    · rw [if_pos hlt, ← List.append_assoc]
      refine gl_gap h hlen ha hlt (by omega) (fun t ht ht' => ?_) (by simp at ho; omega) (over _ _ (by simp at ho ⊢; omega))
      rw [hc t ht]
      rintro ⟨y, hy, k1, k2⟩
      rcases List.mem_cons.1 hy with rfl | hy
      · omega
      · have := (chainM_low h5 y hy).1; omega
    · rw [if_neg hlt, List.nil_append]
      have : a = x.f0 := by omega
      subst this
      exact over _ _ (by simp at ho ⊢; omega)
end

theorem refGaps_ev {s m : Int} {l : List S23} (hf : Fine l) (hlen : l.length ≤ 1000) : Ev (fun k => oakumref11_Gaps.f k s m l) (gapsA s m l) := by
  unfold oakumref11_Gaps.f
  refine Ev.bind (refRight_ev hf hlen) ?_
  by_cases h : Good s m l
  · rw [gapsA_good h]
    have hs := h.1
    unfold smallR at hs
    refine Ev.congr (f := gl l s m [] false s) (fun k => by rw [if_pos (goodB_true.2 h)]; rfl) ?_
    exact gl_all h hlen (sortX l) s [] (Int.le_refl _) (by omega) ((chain_good h.1).2 h) (fun t _ => by
      constructor
      · rintro ⟨x, hx, k⟩; exact ⟨x, (sortX_perm l).mem_iff.2 hx, k⟩
      · rintro ⟨x, hx, k⟩; exact ⟨x, (sortX_perm l).mem_iff.1 hx, k⟩) (by rw [sortX_length]; simp; omega)
  · rw [gapsA_bad h]
    refine Ev.congr (f := fun _ => some ([], 1)) (fun k => ?_) (Ev.now _)
    rw [goodB_false h]; rfl

/-! ### Fit, Free -/
theorem fitl_ev (n : Int) : ∀ (rest pre : List S23), (pre ++ rest).length ≤ 1000000 → Ev (fun k => oakumref11_Fit.l0 k n (pre ++ rest) (pre.length : Int)) (fitOf n rest) := by
  intro rest
  induction rest with
  | nil =>
    intro pre hl
    refine fin_ev (fun k => ?_)
    simp only [oakumref11_Fit.l0]
    rw [if_neg (by simp)]
    rfl
  | cons x rest ih =>
    intro pre hl
    have el : (pre ++ [x]) ++ rest = pre ++ x :: rest := by simp
    have hl' : pre.length < (pre ++ x :: rest).length := by simp
    by_cases c : x.f1 ≥ n
    · have e : fitOf n (x :: rest) = (x.f0, n, 0) := by
        have c' : n ≤ x.f1 := c
        simp [fitOf, c']
      rw [e]
      refine fin_ev (fun k => ?_)
      simp only [oakumref11_Fit.l0]
      rw [if_pos (by omega), if_pos (by omega), rd_mid, if_pos c]
    · have e : fitOf n (x :: rest) = fitOf n rest := by
        have c' : ¬ n ≤ x.f1 := c
        simp [fitOf, c']
      rw [e]
      refine Ev.step (f := fun k => oakumref11_Fit.l0 k n ((pre ++ [x]) ++ rest) ((pre ++ [x]).length : Int)) (fun k => ?_) (ih (pre ++ [x]) (by rw [el]; exact hl))
      simp only [oakumref11_Fit.l0]
      rw [if_pos (by omega), if_pos (by omega), rd_mid, if_neg c, w64 (by omega) (by omega), el]
      simp

theorem gapsR_length {s m : Int} {l : List S23} : (gapsR s m l).length ≤ l.length + 1 := by
  have := gapsE_length (s := s) (m := m) (xs := sortX l) (a := s)
  rw [sortX_length] at this
  exact this

theorem refFit_ev {s m n : Int} {l : List S23} (hf : Fine l) (hlen : l.length ≤ 1000) : Ev (fun k => oakumref11_Fit.f k s m n l) (fitA s m n l) := by
  unfold oakumref11_Fit.f
  refine Ev.bind (refGaps_ev hf hlen) ?_
  by_cases h : Good s m l
  · rw [gapsA_good h]
    by_cases hn : n < 1
    · rw [fitA_bad (fun k => by omega)]
      refine Ev.congr (f := fun k => oakumref11_Fit.j0 k n (gapsR s m l) true) (fun k => by simp [hn]) (fin_ev (fun k => by simp [oakumref11_Fit.j0]))
    · rw [fitA_good (by omega) h]
      refine Ev.congr (f := fun k => oakumref11_Fit.j0 k n (gapsR s m l) false) (fun k => by simp [hn]) (Ev.step (f := fun k => oakumref11_Fit.l0 k n (gapsR s m l) 0) (fun k => by simp [oakumref11_Fit.j0]) ?_)
      exact Ev.congr (fun k => by simp) (fitl_ev n (gapsR s m l) [] (by have := gapsR_length (s := s) (m := m) (l := l); simp; omega))
  · rw [gapsA_bad h, fitA_bad (fun k => h k.2)]
    exact Ev.congr (f := fun k => oakumref11_Fit.j0 k n [] true) (fun k => by simp) (fin_ev (fun k => by simp [oakumref11_Fit.j0]))

theorem freel_ev : ∀ (rest pre : List S23) (a : Int), (pre ++ rest).length ≤ 1000000 → (∀ x ∈ rest, 0 ≤ x.f1) → 0 ≤ a → a + sumF rest ≤ 4194304 → Ev (fun k => oakumref11_Free.l0 k (pre ++ rest) a (pre.length : Int)) (a + sumF rest) := by
  intro rest
  induction rest with
  | nil =>
    intro pre a hl _ _ _
    have : a + sumF ([] : List S23) = a := by simp [sumF]
    rw [this]
    refine fin_ev (fun k => ?_)
    simp only [oakumref11_Free.l0]
    rw [if_neg (by simp)]
  | cons x rest ih =>
    intro pre a hl hp ha hb
    have el : (pre ++ [x]) ++ rest = pre ++ x :: rest := by simp
    have hl' : pre.length < (pre ++ x :: rest).length := by simp
    have hx := hp x List.mem_cons_self
    have hs : 0 ≤ sumF rest := by
      have : ∀ k : List S23, (∀ x ∈ k, 0 ≤ x.f1) → 0 ≤ sumF k := by
        intro k hk
        induction k with
        | nil => simp [sumF]
        | cons y ys ih2 =>
          rw [sumF_cons]
          have := ih2 (fun x hx => hk x (List.mem_cons_of_mem _ hx))
          have := hk y List.mem_cons_self
          omega
      exact this _ (fun y hy => hp y (List.mem_cons_of_mem _ hy))
    rw [sumF_cons] at hb ⊢
    have e : a + (x.f1 + sumF rest) = (a + x.f1) + sumF rest := by omega
    rw [e] at hb ⊢
    refine Ev.step (f := fun k => oakumref11_Free.l0 k ((pre ++ [x]) ++ rest) (a + x.f1) ((pre ++ [x]).length : Int)) (fun k => ?_) (ih (pre ++ [x]) (a + x.f1) (by rw [el]; exact hl) (fun y hy => hp y (List.mem_cons_of_mem _ hy)) (by omega) hb)
    simp only [oakumref11_Free.l0]
    rw [if_pos (by omega), if_pos (by omega), rd_mid, w64 (by omega) (by omega), w64 (by omega) (by omega), el]
    simp

theorem refFree_ev {s m : Int} {l : List S23} (hf : Fine l) (hlen : l.length ≤ 1000) : Ev (fun k => oakumref11_Free.f k s m l) (freeA s m l) := by
  unfold oakumref11_Free.f
  refine Ev.bind (refGaps_ev hf hlen) ?_
  by_cases h : Good s m l
  · have e : freeA s m l = m - sumF l := by unfold freeA; rw [if_pos h]
    have hg := gapsR_sum h
    have hs := sumF_good h
    have hr := h.1
    unfold smallR at hr
    have hin := gapsE_in (by omega) ((chain_good h.1).2 h)
    rw [gapsA_good h, e, ← hg]
    have := freel_ev (gapsR s m l) [] 0 (by have := gapsR_length (s := s) (m := m) (l := l); simp; omega) (fun x hx => by have := (hin x hx).1; omega) (by omega) (by omega)
    rw [Int.zero_add] at this
    exact Ev.congr (fun k => by simp) this
  · have e : freeA s m l = 0 := by unfold freeA; rw [if_neg h]
    rw [gapsA_bad h, e]
    refine fin_ev (fun k => ?_)
    simp [oakumref11_Free.l0]

theorem samel_ev : ∀ (rest pre : List S23), (pre ++ rest).length ≤ 1000000 → Ev (fun k => oakumlaw11_same.l0 k (pre ++ rest) (pre ++ rest) (pre.length : Int)) true := by
  intro rest
  induction rest with
  | nil =>
    intro pre hl
    refine fin_ev (fun k => ?_)
    simp only [oakumlaw11_same.l0]
    rw [if_neg (by simp)]
  | cons x rest ih =>
    intro pre hl
    have el : (pre ++ [x]) ++ rest = pre ++ x :: rest := by simp
    have hl' : pre.length < (pre ++ x :: rest).length := by simp
    refine Ev.step (f := fun k => oakumlaw11_same.l0 k ((pre ++ [x]) ++ rest) ((pre ++ [x]) ++ rest) ((pre ++ [x]).length : Int)) (fun k => ?_) (ih (pre ++ [x]) (by rw [el]; exact hl))
    simp only [oakumlaw11_same.l0]
    rw [if_pos (by omega), if_pos (by omega), if_pos (by omega), rd_mid, w64 (by omega) (by omega), el]
    simp
theorem same_ev {l : List S23} (h : l.length ≤ 1000000) : Ev (fun k => oakumlaw11_same.f k l l) true := by
  unfold oakumlaw11_same.f
  exact Ev.congr (fun k => by simp) (samel_ev l [] (by simpa using h))

end Go.Proofs.Ytflmlejgahnppaa.PExt
