/- What the document prints is what the program prints: the loop over the letters, and the whole. -/
import Derived.Test.YtlinnmllbbmnpaaDoorPlainD
import Derived.Lib.Hide
namespace Go.Proofs.YtlinnmllbbmnpaaDoor.PCmd
open Go.RowKit Go.Proofs.YtlinnmllbbmnpaaDoorW.PrintWords Go.Proofs.YtlinnmllbbmnpaaDoorW.PrintLast Go.Proofs.YtlinnmllbbmnpaaDoorW.PrintMore

theorem size_next (txt V : ByteArray) (pos : Nat) (h1 : txt.size ≤ 1000 + 2002 * pos) (h0 : V.data.toList.length ≤ 2001) (h3 : pos < 3) : ((txt ++ (⟨#[32]⟩ : ByteArray)) ++ V).size ≤ 1000 + 2002 * (pos + 1) ∧ txt.size + 1 ≤ 9223372036854775807 ∧ (txt ++ (⟨#[32]⟩ : ByteArray)).size + V.size ≤ 9223372036854775807 := by
  have e : (⟨#[32]⟩ : ByteArray).size = 1 := rfl
  have h2 : V.size ≤ 2001 := by
    have e2 : V.data.toList.length = V.size := Array.length_toList
    omega
  rw [ByteArray.size_append, ByteArray.size_append, e]
  omega
structure Rng (c : Cmd) : Prop where
  id : 0 ≤ c.id ∧ c.id ≤ 2147483647
  at_ : 0 ≤ c.at_ ∧ c.at_ ≤ 2147483647
  n : 0 ≤ c.n ∧ c.n ≤ 2147483647
theorem Rng.word {c : Cmd} (h : Rng c) (hs : c.op.size + c.data.size ≤ 1000) (x : UInt8) : (wordOf c x).data.toList.length ≤ 2001 := by
  obtain ⟨h1, h2, h3⟩ := h
  exact word_size c hs ⟨⟨by omega, by omega⟩, ⟨by omega, by omega⟩, ⟨by omega, by omega⟩⟩ x
theorem fig_of {n : Int} (h : 0 ≤ n ∧ n ≤ 2147483647) : Ev (fun k => oakumref20_Figures.f k n) ⟨(Lib.itoa n).toArray⟩ := by
  obtain ⟨u, hu⟩ : ∃ u : Nat, n = (u : Int) := ⟨n.toNat, by omega⟩
  rw [hu, itoa_nat]; exact Figures_ev u (by omega)
theorem Rng.f105 {c : Cmd} (h : Rng c) : Ev (fun k => oakumref20_Figures.f k c.id) (wordOf c 105) := by
  unfold wordOf; rw [if_neg (by decide), if_pos rfl]; exact fig_of h.id
theorem Rng.f97 {c : Cmd} (h : Rng c) : Ev (fun k => oakumref20_Figures.f k c.at_) (wordOf c 97) := by
  unfold wordOf; rw [if_neg (by decide), if_neg (by decide), if_pos rfl]; exact fig_of h.at_
theorem Rng.f110 {c : Cmd} (h : Rng c) : Ev (fun k => oakumref20_Figures.f k c.n) (wordOf c 110) := by
  unfold wordOf; rw [if_neg (by decide), if_neg (by decide), if_neg (by decide)]; exact fig_of h.n
theorem Print_l0 (c : Cmd) (hs : c.op.size + c.data.size ≤ 1000) (hr : Rng c)
    (f : List UInt8) (hf3 : f.length ≤ 3) (hfx : ∀ x ∈ f, x = 105 ∨ x = 97 ∨ x = 110 ∨ x = 100) :
    ∀ (d pos : Nat) (txt : ByteArray) (p : Cmd), d + pos = f.length → txt.size ≤ 1000 + 2002 * pos →
    Ev (fun k => oakumref21_Print.l0 k ⟨f.toArray⟩ txt (pos : Int) c.op c.id c.at_ c.n c.data p.op p.id p.at_ p.n p.data) (if plainOf c (f.drop pos) p = c then (restOf c txt (f.drop pos), 0) else (⟨#[]⟩, 1)) := by
  have hFs : (⟨f.toArray⟩ : ByteArray).size = f.length := by simp [ByteArray.size]
  intro d
  induction d with
  | zero =>
    intro pos txt p hd ht
    have e : f.drop pos = [] := List.drop_of_length_le (by omega)
    rw [e]
    refine Ev.step (f := fun _ => (if plainOf c [] p = c then some (restOf c txt [], 0) else some (⟨#[]⟩, 1))) (fun k => ?_) ?_
    · rw [oakumref21_Print.l0, if_neg (by omega), same_cmd]
      have er : restOf c txt [] = txt := by unfold restOf; apply Go.WideShapes.bytes_inj; simp [Lib.joinTail]
      show (if (!decide (p = c)) = true then _ else _) = if p = c then _ else _
      rw [er]
      by_cases h : p = c
      · rw [if_pos h, decide_eq_true h, if_neg (by simp)]
      · rw [if_neg h, decide_eq_false h, if_pos (by simp)]
    · split
      · exact Ev.now _
      · exact Ev.now _
  | succ d ih =>
    intro pos txt p hd ht
    have hp : pos < f.length := by omega
    have hbt : bt (⟨f.toArray⟩ : ByteArray) (pos : Int) = ((f[pos]'hp).toNat : Int) := bt_nat ⟨f.toArray⟩ pos (by omega)
    have w2 : wrap64 ((pos : Int) + 1) = ((pos + 1 : Nat) : Int) := by rw [w64 (by omega) (by omega)]; omega
    have hx := hfx _ (List.getElem_mem hp)
    rw [List.drop_eq_getElem_cons hp]
    generalize f[pos]'hp = x at hbt hx
    obtain ⟨hz, c1, c2⟩ : ((txt ++ (⟨#[32]⟩ : ByteArray)) ++ wordOf c x).size ≤ 1000 + 2002 * (pos + 1) ∧ txt.size + 1 ≤ 9223372036854775807 ∧ (txt ++ (⟨#[32]⟩ : ByteArray)).size + (wordOf c x).size ≤ 9223372036854775807 :=
      size_next txt (wordOf c x) pos ht (hr.word hs x) (Nat.lt_of_lt_of_le hp hf3)
    have h3 := ih (pos + 1) ((txt ++ (⟨#[32]⟩ : ByteArray)) ++ wordOf c x) (setL c x p) (by clear hz c2; omega) hz
    clear hz
    rw [rest_step] at h3
    have go : Ev (fun k => oakumref21_Print.l0 k ⟨f.toArray⟩ ((txt ++ (⟨#[32]⟩ : ByteArray)) ++ wordOf c x) ((pos + 1 : Nat) : Int) c.op c.id c.at_ c.n c.data (setL c x p).op (setL c x p).id (setL c x p).at_ (setL c x p).n (setL c x p).data) (if plainOf c (x :: f.drop (pos + 1)) p = c then (restOf c txt (x :: f.drop (pos + 1)), 0) else (⟨#[]⟩, 1)) := h3
    clear h3
    have C2 := Lib.hid c2
    clear c2
    rcases hx with rfl | rfl | rfl | rfl
    · have hb : bt (⟨f.toArray⟩ : ByteArray) (pos : Int) = 105 := hbt.trans (by decide)
      have hfig := hr.f105
      refine Ev.step (f := fun k => (oakumref20_Figures.f k c.id).bind fun t => if (txt ++ (⟨#[32]⟩ : ByteArray)).size + t.size ≤ 9223372036854775807 then oakumref21_Print.l0 k ⟨f.toArray⟩ ((txt ++ (⟨#[32]⟩ : ByteArray)) ++ t) ((pos + 1 : Nat) : Int) c.op c.id c.at_ c.n c.data p.op c.id p.at_ p.n p.data else none) (fun k => ?_) ?_
      · rw [oakumref21_Print.l0, if_pos (by omega), if_pos (by omega), if_pos hb, if_pos c1, w2]
      · refine Ev.bind hfig ?_
        simp only [if_pos C2.out]
        exact go
    · have hb : bt (⟨f.toArray⟩ : ByteArray) (pos : Int) = 97 := hbt.trans (by decide)
      have hfig := hr.f97
      refine Ev.step (f := fun k => (oakumref20_Figures.f k c.at_).bind fun t => if (txt ++ (⟨#[32]⟩ : ByteArray)).size + t.size ≤ 9223372036854775807 then oakumref21_Print.l0 k ⟨f.toArray⟩ ((txt ++ (⟨#[32]⟩ : ByteArray)) ++ t) ((pos + 1 : Nat) : Int) c.op c.id c.at_ c.n c.data p.op p.id c.at_ p.n p.data else none) (fun k => ?_) ?_
      · rw [oakumref21_Print.l0, if_pos (by omega), if_pos (by omega), if_neg (by omega), if_pos hb, if_pos c1, w2]
      · refine Ev.bind hfig ?_
        simp only [if_pos C2.out]
        exact go
    · have hb : bt (⟨f.toArray⟩ : ByteArray) (pos : Int) = 110 := hbt.trans (by decide)
      have hfig := hr.f110
      refine Ev.step (f := fun k => (oakumref20_Figures.f k c.n).bind fun t => if (txt ++ (⟨#[32]⟩ : ByteArray)).size + t.size ≤ 9223372036854775807 then oakumref21_Print.l0 k ⟨f.toArray⟩ ((txt ++ (⟨#[32]⟩ : ByteArray)) ++ t) ((pos + 1 : Nat) : Int) c.op c.id c.at_ c.n c.data p.op p.id p.at_ c.n p.data else none) (fun k => ?_) ?_
      · rw [oakumref21_Print.l0, if_pos (by omega), if_pos (by omega), if_neg (by omega), if_neg (by omega), if_pos hb, if_pos c1, w2]
      · refine Ev.bind hfig ?_
        simp only [if_pos C2.out]
        exact go
    · have hb : bt (⟨f.toArray⟩ : ByteArray) (pos : Int) = 100 := hbt.trans (by decide)
      have hhex : oakumref21_Hex.f c.data = some (wordOf c 100) := by
        unfold oakumref21_Hex.f wordOf
        rw [if_pos (by omega), if_pos rfl]
      refine Ev.step (f := fun k => oakumref21_Print.l0 k ⟨f.toArray⟩ ((txt ++ (⟨#[32]⟩ : ByteArray)) ++ wordOf c 100) ((pos + 1 : Nat) : Int) c.op c.id c.at_ c.n c.data p.op p.id p.at_ p.n c.data) (fun k => ?_) go
      rw [oakumref21_Print.l0, if_pos (by omega), if_pos (by omega), if_neg (by omega), if_neg (by omega), if_neg (by omega), if_pos c1, hhex, Option.bind_some, if_pos C2.out, w2]

theorem plain_fits (c : Cmd) {f : List UInt8} (hF : formOf c.op.data.toList = some f) (ha : f.all (okL c) = true) (hp : plainOf c f { noCmd with op := c.op } = c) :
    (0 ≤ c.id ∧ c.id ≤ 2147483647) ∧ (0 ≤ c.at_ ∧ c.at_ ≤ 2147483647) ∧ (0 ≤ c.n ∧ c.n ≤ 2147483647) := by
  have hm := formOf_mem hF
  have hid := congrArg Cmd.id hp
  have hat := congrArg Cmd.at_ hp
  have hn := congrArg Cmd.n hp
  have hf : f = [105, 97, 110] ∨ f = [105, 97, 100] ∨ f = [110] ∨ f = [105] ∨ f = [] := by
    have : ∀ p ∈ formRows, p.2 = [105, 97, 110] ∨ p.2 = [105, 97, 100] ∨ p.2 = [110] ∨ p.2 = [105] ∨ p.2 = [] := by decide
    exact this _ hm
  rcases hf with rfl | rfl | rfl | rfl | rfl <;> simp [okL, plainOf, setL, noCmd] at ha hid hat hn <;> omega

theorem Print_ev (c : Cmd) (hs : c.op.size + c.data.size ≤ 1000) : Ev (fun k => oakumref21_Print.f k c.op c.id c.at_ c.n c.data) (printR (printOf c)) := by
  unfold oakumref21_Print.f
  refine Ev.bind (form_ev c.op) ?_
  have hno : ∀ F : ByteArray, Ev (fun k => oakumref21_Print.j0 k F true c.op c.id c.at_ c.n c.data) (printR none) := fun F => Ev.step (f := fun _ => _) (fun k => rfl) (Ev.now _)
  unfold printOf
  cases hF : formOf c.op.data.toList with
  | none =>
    simp only [Option.isSome_none, Option.bind_none]
    exact hno _
  | some f =>
    obtain ⟨hf3, hfx⟩ := formOf_some hF
    simp only [Option.isSome_some, if_pos, Option.getD_some, Option.bind_some]
    rw [parse_text c hF]
    by_cases hr : (0 ≤ c.id ∧ c.id ≤ 2147483647) ∧ (0 ≤ c.at_ ∧ c.at_ ≤ 2147483647) ∧ (0 ≤ c.n ∧ c.n ≤ 2147483647)
    · obtain ⟨hid, hat, hn⟩ := hr
      have hall : f.all (okL c) = true := by
        rw [List.all_eq_true]
        intro x _
        unfold okL
        split
        · exact decide_eq_true hid
        · split
          · exact decide_eq_true hat
          · split
            · exact decide_eq_true hn
            · rfl
      rw [if_pos hall]
      have e1 : ¬ c.id < 0 := by omega
      have e2 : ¬ c.at_ < 0 := by omega
      have e3 : ¬ c.n < 0 := by omega
      have e4 : ¬ c.id > 2147483647 := by omega
      have e5 : ¬ c.at_ > 2147483647 := by omega
      have e6 : decide (c.n > 2147483647) = false := decide_eq_false (by omega)
      simp only [if_neg e1, if_neg e2, if_neg e3, if_neg e4, if_neg e5, e6]
      refine Ev.step (f := fun k => oakumref21_Print.l0 k ⟨f.toArray⟩ c.op 0 c.op c.id c.at_ c.n c.data c.op 0 0 0 ⟨#[]⟩) (fun k => by rw [oakumref21_Print.j0, if_neg (by simp)]) ?_
      have := Print_l0 c hs ⟨hid, hat, hn⟩ f hf3 hfx f.length 0 c.op { noCmd with op := c.op } (by omega) (by omega)
      rw [List.drop_zero] at this
      have et : restOf c c.op f = textOf c f := by
        unfold restOf textOf joinB
        rw [List.map_cons, Lib.join_cons, List.map_map]; rfl
      rw [et] at this
      have e7 : (if some (plainOf c f { noCmd with op := c.op }) = some c then some (textOf c f) else none) = if plainOf c f { noCmd with op := c.op } = c then some (textOf c f) else none := by simp
      rw [e7]
      have e8 : printR (if plainOf c f { noCmd with op := c.op } = c then some (textOf c f) else none) = if plainOf c f { noCmd with op := c.op } = c then (textOf c f, 0) else (⟨#[]⟩, 1) := by split <;> rfl
      rw [e8]
      exact this
    · have hnone : (if (if f.all (okL c) = true then some (plainOf c f { noCmd with op := c.op }) else none) = some c then some (textOf c f) else none) = none := by
        rw [if_neg]
        intro h
        split at h
        · rename_i ha
          exact hr (plain_fits c hF ha (Option.some.inj h))
        · cases h
      rw [hnone]
      by_cases e1 : c.id < 0
      · simp only [if_pos e1]; exact hno _
      by_cases e2 : c.at_ < 0
      · simp only [if_neg e1, if_pos e2]; exact hno _
      by_cases e3 : c.n < 0
      · simp only [if_neg e1, if_neg e2, if_pos e3]; exact hno _
      by_cases e4 : c.id > 2147483647
      · simp only [if_neg e1, if_neg e2, if_neg e3, if_pos e4]; exact hno _
      by_cases e5 : c.at_ > 2147483647
      · simp only [if_neg e1, if_neg e2, if_neg e3, if_neg e4, if_pos e5]; exact hno _
      have e6 : decide (c.n > 2147483647) = true := decide_eq_true (by omega)
      simp only [if_neg e1, if_neg e2, if_neg e3, if_neg e4, if_neg e5, e6]
      exact hno _
end Go.Proofs.YtlinnmllbbmnpaaDoor.PCmd
