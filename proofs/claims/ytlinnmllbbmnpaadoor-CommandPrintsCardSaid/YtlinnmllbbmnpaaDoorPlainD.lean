/- What the document prints is what the program prints: a command's text is parsed back just where its numbers fit and it holds nothing else. -/
import Derived.Test.YtlinnmllbbmnpaaDoorPlainC
import Derived.Test.YtlinnmllbbmnpaaDoorPrint
import Derived.Test.YtlinnmllbbmnpaaDoorPCmdx6
namespace Go.Proofs.YtlinnmllbbmnpaaDoor.PCmd
open Go.RowKit Go.Proofs.YtlinnmllbbmnpaaDoorW.PrintWords Go.Proofs.YtlinnmllbbmnpaaDoorW.PrintLast Go.Proofs.YtlinnmllbbmnpaaDoorW.PrintMore

/-! ### words joined are parted again -/
theorem wordsL_app : ∀ (u last r : List UInt8), 32 ∉ u → wordsL last (u ++ r) = wordsL (last ++ u) r
  | [], last, r, _ => by simp
  | b :: u, last, r, h => by
    rw [List.mem_cons, not_or] at h
    rw [List.cons_append, wordsL, if_neg (fun e => h.1 e.symm), wordsL_app u _ r h.2]
    simp
theorem wordsL_tail : ∀ (ws : List (List UInt8)) (last : List UInt8), (∀ w ∈ ws, 32 ∉ w) → wordsL last (Lib.joinTail [32] ws) = last :: ws
  | [], last, _ => rfl
  | w :: ws, last, h => by
    have e : Lib.joinTail [32] (w :: ws) = 32 :: (w ++ Lib.joinTail [32] ws) := by simp [Lib.joinTail]
    rw [e, wordsL, if_pos rfl, wordsL_app w [] _ (h w List.mem_cons_self), List.nil_append, wordsL_tail ws w (fun x hx => h x (List.mem_cons_of_mem _ hx))]
theorem wordsB_join (w0 : ByteArray) (ws : List ByteArray) (h0 : 32 ∉ w0.data.toList) (h : ∀ w ∈ ws, 32 ∉ w.data.toList) : wordsB (joinB (w0 :: ws)) = w0 :: ws := by
  apply map_data_inj
  rw [wordsB_data]
  show wordsL [] (Lib.join ((w0 :: ws).map (·.data.toList)) [32]) = _
  rw [List.map_cons, Lib.join_cons, wordsL_app _ _ _ h0, List.nil_append, wordsL_tail]
  intro x hx
  obtain ⟨y, hy, rfl⟩ := List.mem_map.1 hx
  exact h y hy

/-! ### no word has a blank -/
theorem formOf_mem {l f : List UInt8} (h : formOf l = some f) : (l, f) ∈ formRows := by
  unfold formOf at h
  rw [Option.map_eq_some_iff] at h
  obtain ⟨p, h1, rfl⟩ := h
  have hm := List.mem_of_find?_eq_some h1
  have hb := List.find?_some h1
  simp only [beq_iff_eq] at hb
  subst hb
  exact hm
theorem op_blank {l f : List UInt8} (h : formOf l = some f) : 32 ∉ l := by
  have : ∀ p ∈ formRows, 32 ∉ p.1 := by decide
  exact this _ (formOf_mem h)
theorem hexOne_fact (b : UInt8) : 32 ∉ hexOne b ∧ ixB (figL.getD (b.toNat / 16) 0) = (b.toNat / 16 : Nat) ∧ ixB (figL.getD (b.toNat % 16) 0) = (b.toNat % 16 : Nat) := by
  have : ∀ i : Fin 256, 32 ∉ hexOne (UInt8.ofNat i.1) ∧ ixB (figL.getD ((UInt8.ofNat i.1).toNat / 16) 0) = ((UInt8.ofNat i.1).toNat / 16 : Nat) ∧ ixB (figL.getD ((UInt8.ofNat i.1).toNat % 16) 0) = ((UInt8.ofNat i.1).toNat % 16 : Nat) := by decide +kernel
  have h := this ⟨b.toNat, b.toNat_lt⟩
  simpa using h
theorem hex_blank (l : List UInt8) : 32 ∉ hexOf l := by
  unfold hexOf
  split
  · decide
  · unfold hexL
    rw [List.mem_flatMap]
    rintro ⟨b, _, hb⟩
    exact (hexOne_fact b).1 hb
theorem dec_range : ∀ (u : Nat), ∀ x ∈ Lib.decDigits u, 48 ≤ x.toNat ∧ x.toNat ≤ 57 := by
  intro u
  induction u using Nat.strongRecOn with
  | _ u ih =>
    intro x hx
    by_cases h : u < 10
    · rw [Lib.decDigits, dif_pos h, List.mem_singleton] at hx
      subst hx
      rw [UInt8.toNat_ofNat']; omega
    · rw [Lib.decDigits, dif_neg h, List.mem_append, List.mem_singleton] at hx
      rcases hx with hx | rfl
      · exact ih (u / 10) (by omega) x hx
      · rw [UInt8.toNat_ofNat']; omega
theorem itoa_blank (n : Int) : 32 ∉ Lib.itoa n := by
  have hd : ∀ u, 32 ∉ Lib.decDigits u := fun u h => by have := (dec_range u _ h).1; exact absurd this (by decide)
  unfold Lib.itoa
  split
  · rw [List.mem_cons, not_or]; exact ⟨by decide, hd _⟩
  · exact hd _
theorem word_blank (c : Cmd) (x : UInt8) : 32 ∉ (wordOf c x).data.toList := by
  unfold wordOf
  split
  · exact hex_blank _
  · exact itoa_blank _

/-! ### a word is taken back -/
theorem pairL_hex : ∀ (l : List UInt8), pairL (hexL l) = some l
  | [] => rfl
  | b :: l => by
    have ih := pairL_hex l
    obtain ⟨_, h1, h2⟩ := hexOne_fact b
    have e : hexL (b :: l) = figL.getD (b.toNat / 16) 0 :: figL.getD (b.toNat % 16) 0 :: hexL l := rfl
    rw [e, pairL, h1, h2, if_neg (by omega), ih, Option.map_some]
    congr 2
    apply UInt8.toNat.inj
    rw [UInt8.toNat_ofNat']
    have := b.toNat_lt
    omega
theorem bytes_hex (l : List UInt8) : bytesOf (hexOf l) = some l := by
  rw [bytesOf_eq]
  unfold hexOf
  by_cases h : l = []
  · subst h; rfl
  · rw [if_neg h]
    have hl := hexL_length l
    have hp : 0 < l.length := List.length_pos_iff.2 h
    rw [if_neg (fun e => by rw [e] at hl; simp at hl; omega), if_neg (by rintro (e | e); (rw [e] at hl; simp at hl; omega); omega)]
    exact pairL_hex l
theorem dec_inj {u v : Nat} (h : Lib.decDigits u = Lib.decDigits v) : u = v := by
  have h1 := numL_dec (most := u + v) (u := u) (by omega)
  have h2 := numL_dec (most := u + v) (u := v) (by omega)
  rw [h, h2] at h1
  exact (Option.some.inj h1).symm
theorem take_itoa (n : Int) : takeNum (Lib.itoa n) = if 0 ≤ n ∧ n ≤ 2147483647 then some n else none := by
  rw [takeNum_eq]
  by_cases h0 : 0 ≤ n
  · obtain ⟨u, rfl⟩ : ∃ u : Nat, n = (u : Int) := ⟨n.toNat, by omega⟩
    rw [itoa_nat]
    by_cases hm : u ≤ 2147483647
    · rw [numL_dec hm, if_pos (by omega)]; rfl
    · rw [if_neg (by omega)]
      cases h : numL 2147483647 (Lib.decDigits u) with
      | none => rfl
      | some v =>
        obtain ⟨h1, h2⟩ := numL_inv h
        have := dec_inj h1
        omega
  · rw [if_neg (by omega)]
    unfold Lib.itoa
    rw [if_pos (by omega)]
    unfold numL
    rw [if_neg (by simp)]
    unfold numFrom
    rw [if_neg (by decide)]; rfl

def setL (c : Cmd) (x : UInt8) (p : Cmd) : Cmd := if x = 105 then { p with id := c.id } else if x = 97 then { p with at_ := c.at_ } else if x = 110 then { p with n := c.n } else { p with data := c.data }
def okL (c : Cmd) (x : UInt8) : Bool := if x = 105 then decide (0 ≤ c.id ∧ c.id ≤ 2147483647) else if x = 97 then decide (0 ≤ c.at_ ∧ c.at_ ≤ 2147483647) else if x = 110 then decide (0 ≤ c.n ∧ c.n ≤ 2147483647) else true
def plainOf (c : Cmd) : List UInt8 → Cmd → Cmd
  | [], p => p
  | x :: r, p => plainOf c r (setL c x p)
theorem ok105 (c : Cmd) : okL c 105 = decide (0 ≤ c.id ∧ c.id ≤ 2147483647) := by unfold okL; rw [if_pos rfl]
theorem ok97 (c : Cmd) : okL c 97 = decide (0 ≤ c.at_ ∧ c.at_ ≤ 2147483647) := by unfold okL; rw [if_neg (by decide), if_pos rfl]
theorem ok110 (c : Cmd) : okL c 110 = decide (0 ≤ c.n ∧ c.n ≤ 2147483647) := by unfold okL; rw [if_neg (by decide), if_neg (by decide), if_pos rfl]
theorem ok100 (c : Cmd) : okL c 100 = true := by unfold okL; rw [if_neg (by decide), if_neg (by decide), if_neg (by decide)]
theorem word105 (c : Cmd) : (wordOf c 105).data.toList = Lib.itoa c.id := by unfold wordOf; rw [if_neg (by decide), if_pos rfl]
theorem word97 (c : Cmd) : (wordOf c 97).data.toList = Lib.itoa c.at_ := by unfold wordOf; rw [if_neg (by decide), if_neg (by decide), if_pos rfl]
theorem word110 (c : Cmd) : (wordOf c 110).data.toList = Lib.itoa c.n := by unfold wordOf; rw [if_neg (by decide), if_neg (by decide), if_neg (by decide)]
theorem word100 (c : Cmd) : (wordOf c 100).data.toList = hexOf c.data.data.toList := by unfold wordOf; rw [if_pos rfl]
theorem take_num (x : UInt8) (hx : ¬ (x.toNat : Int) = 100) (n : Int) (p : Cmd) : takeOk (x.toNat : Int) (Lib.itoa n) p = if decide (0 ≤ n ∧ n ≤ 2147483647) = true then some (p.put (x.toNat : Int) n) else none := by
  unfold takeOk
  rw [if_neg hx, take_itoa]
  by_cases h : 0 ≤ n ∧ n ≤ 2147483647
  · rw [if_pos h, if_pos (decide_eq_true h)]; rfl
  · rw [if_neg h, if_neg (by simpa using h)]; rfl
theorem take_word (c : Cmd) (x : UInt8) (hx : x = 105 ∨ x = 97 ∨ x = 110 ∨ x = 100) (p : Cmd) : takeOk (x.toNat : Int) (wordOf c x).data.toList p = if okL c x = true then some (setL c x p) else none := by
  rcases hx with rfl | rfl | rfl | rfl
  · rw [word105, ok105, take_num _ (by decide)]; rfl
  · rw [word97, ok97, take_num _ (by decide)]; rfl
  · rw [word110, ok110, take_num _ (by decide)]; rfl
  · rw [word100, ok100, if_pos rfl]
    unfold takeOk
    rw [if_pos (by decide), bytes_hex]
    rfl
theorem takeAll_words (c : Cmd) : ∀ (f : List UInt8), (∀ x ∈ f, x = 105 ∨ x = 97 ∨ x = 110 ∨ x = 100) → ∀ p, takeAll f (f.map (wordOf c)) p = if f.all (okL c) = true then some (plainOf c f p) else none
  | [], _, p => rfl
  | x :: f, h, p => by
    rw [List.map_cons, takeAll, take_word c x (h x List.mem_cons_self) p, List.all_cons]
    by_cases hk : okL c x = true
    · rw [if_pos hk, Option.bind_some, takeAll_words c f (fun y hy => h y (List.mem_cons_of_mem _ hy)), hk, Bool.true_and]; rfl
    · rw [if_neg hk, Option.bind_none, if_neg (by simp [hk])]
theorem parse_text (c : Cmd) {f : List UInt8} (hF : formOf c.op.data.toList = some f) : parseOf (textOf c f) = if f.all (okL c) = true then some (plainOf c f { noCmd with op := c.op }) else none := by
  unfold parseOf textOf
  rw [wordsB_join _ _ (op_blank hF) (fun w hw => by obtain ⟨x, _, rfl⟩ := List.mem_map.1 hw; exact word_blank c x)]
  simp only [hF, Option.bind_some]
  rw [if_pos (by simp), takeAll_words c f (formOf_some hF).2]

/-! ### the document's print -/
theorem Figures_ev : ∀ (u : Nat), u ≤ 2147483647 → Ev (fun k => oakumref20_Figures.f k (u : Int)) ⟨(Lib.decDigits u).toArray⟩ := by
  intro u
  induction u using Nat.strongRecOn with
  | _ u ih =>
    intro hu
    have ht : Int.tmod (u : Int) 10 = ((u % 10 : Nat) : Int) := by rw [Int.tmod_eq_emod_of_nonneg (by omega)]; omega
    have hd : wrap64 (Int.tdiv (u : Int) 10) = ((u / 10 : Nat) : Int) := by rw [Int.tdiv_eq_ediv_of_nonneg (by omega), w64 (by omega) (by omega)]; omega
    have hw : (wrap64 (48 + Int.tmod (u : Int) 10)) % 256 = ((48 + u % 10 : Nat) : Int) := by rw [ht, w64 (by omega) (by omega)]; omega
    have hs : strOfNums [((48 + u % 10 : Nat) : Int)] = ⟨#[UInt8.ofNat (48 + u % 10)]⟩ := rfl
    by_cases h : u < 10
    · refine Ev.step (f := fun _ => some (⟨(Lib.decDigits u).toArray⟩ : ByteArray)) (fun k => ?_) (Ev.now _)
      rw [oakumref20_Figures.f, Option.bind_some, hw, if_neg (by omega), hs, Lib.decDigits, dif_pos h, Nat.mod_eq_of_lt h]
    · refine Ev.step (f := fun k => (oakumref20_Figures.f k ((u / 10 : Nat) : Int)).bind fun t => if t.size + 1 ≤ 9223372036854775807 then some (t ++ (⟨#[UInt8.ofNat (48 + u % 10)]⟩ : ByteArray)) else none) (fun k => ?_) ?_
      · rw [oakumref20_Figures.f, Option.bind_some, hw, if_pos (by omega), hd, hs]; rfl
      · refine Ev.bind (ih (u / 10) (by omega) (by omega)) ?_
        have hn := Lib.nDigits_le20 (u / 10) (by omega)
        have hl : (⟨(Lib.decDigits (u / 10)).toArray⟩ : ByteArray).size = Lib.nDigits (u / 10) := by
          show (Lib.decDigits (u / 10)).toArray.size = _
          rw [List.size_toArray, Lib.decDigits_length]
        simp only [hl, if_pos (by omega : Lib.nDigits (u / 10) + 1 ≤ 9223372036854775807)]
        have e : (⟨(Lib.decDigits (u / 10)).toArray⟩ : ByteArray) ++ ⟨#[UInt8.ofNat (48 + u % 10)]⟩ = ⟨(Lib.decDigits u).toArray⟩ := by
          apply Go.WideShapes.bytes_inj
          rw [Lib.decDigits.eq_1 u, dif_neg h]
          simp
        rw [e]
        exact Ev.now _

def printR (o : Option ByteArray) : ByteArray × Int := match o with
  | some t => (t, 0)
  | none => (⟨#[]⟩, 1)
def restOf (c : Cmd) (txt : ByteArray) (r : List UInt8) : ByteArray := ⟨(txt.data.toList ++ Lib.joinTail [32] (r.map fun x => (wordOf c x).data.toList)).toArray⟩
theorem rest_step (c : Cmd) (txt : ByteArray) (x : UInt8) (r : List UInt8) : restOf c ((txt ++ (⟨#[32]⟩ : ByteArray)) ++ wordOf c x) r = restOf c txt (x :: r) := by
  unfold restOf
  congr 2
  simp [Lib.joinTail]
theorem same_cmd (p c : Cmd) : (!(p.op.toList == c.op.toList) || (!(p.id == c.id) || (!(p.at_ == c.at_) || (!(p.n == c.n) || (!(p.data.toList == c.data.toList)))))) = !decide (p = c) := by
  by_cases h : p = c
  · subst h; simp
  · rw [decide_eq_false h]
    cases hz : (!(p.op.toList == c.op.toList) || (!(p.id == c.id) || (!(p.at_ == c.at_) || (!(p.n == c.n) || (!(p.data.toList == c.data.toList)))))) with
    | true => rfl
    | false =>
      exfalso
      simp only [Bool.or_eq_false_iff, Bool.not_eq_false', beq_iff_eq] at hz
      obtain ⟨h0, h1, h2, h3, h4⟩ := hz
      rw [ByteArray.toList_eq, ByteArray.toList_eq] at h0 h4
      apply h
      cases p; cases c
      simp only [Cmd.mk.injEq]
      exact ⟨Go.WideShapes.bytes_inj h0, h1, h2, h3, Go.WideShapes.bytes_inj h4⟩

end Go.Proofs.YtlinnmllbbmnpaaDoor.PCmd
