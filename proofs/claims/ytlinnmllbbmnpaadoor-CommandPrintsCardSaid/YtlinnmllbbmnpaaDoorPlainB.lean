/- What the document computes is what the program computes: figures, numbers, a word taken, a text's command. -/
import Derived.Test.YtlinnmllbbmnpaaDoorPlain
namespace Go.Proofs.YtlinnmllbbmnpaaDoor.PCmd
open Go.RowKit Go.Proofs.YtlinnmllbbmnpaaDoorW.PrintWords Go.Proofs.YtlinnmllbbmnpaaDoorW.PrintLast Go.Proofs.YtlinnmllbbmnpaaDoorW.PrintMore

/-! ### figures -/
theorem ixB_eq (b : UInt8) : ixB b = if 48 ≤ b.toNat ∧ b.toNat ≤ 57 then (b.toNat : Int) - 48 else if 97 ≤ b.toNat ∧ b.toNat ≤ 102 then (b.toNat : Int) - 87 else -1 := by
  have : ∀ i : Fin 256, ixB (UInt8.ofNat i.1) = if 48 ≤ i.1 ∧ i.1 ≤ 57 then (i.1 : Int) - 48 else if 97 ≤ i.1 ∧ i.1 ≤ 102 then (i.1 : Int) - 87 else -1 := by decide +kernel
  have h := this ⟨b.toNat, b.toNat_lt⟩
  simpa using h
theorem figure_ev (b : UInt8) : Ev (fun k => oakumref21_figure.f k (b.toNat : Int)) (ixB b) := by
  have hb := b.toNat_lt
  rw [ixB_eq]
  unfold oakumref21_figure.f
  by_cases h1 : 48 ≤ b.toNat
  · have e1 : ((b.toNat : Nat) : Int) ≥ 48 := by omega
    simp only [if_pos e1]
    by_cases h2 : b.toNat ≤ 57
    · have e2 : decide (((b.toNat : Nat) : Int) ≤ 57) = true := decide_eq_true (by omega)
      rw [e2, if_pos ⟨h1, h2⟩]
      refine Ev.step (f := fun _ => some ((b.toNat : Int) - 48)) (fun k => ?_) (Ev.now _)
      rw [oakumref21_figure.j0, if_pos rfl]; congr 1; omega
    · have e2 : decide (((b.toNat : Nat) : Int) ≤ 57) = false := decide_eq_false (by omega)
      rw [e2, if_neg (by omega)]
      by_cases h3 : 97 ≤ b.toNat ∧ b.toNat ≤ 102
      · rw [if_pos h3]
        refine Ev.step (f := fun _ => some ((b.toNat : Int) - 87)) (fun k => ?_) (Ev.now _)
        rw [oakumref21_figure.j0, if_neg (by simp), if_pos (by omega), if_pos (by omega)]; congr 1; omega
      · rw [if_neg h3]
        refine Ev.step (f := fun _ => some (-1)) (fun k => ?_) (Ev.now _)
        rw [oakumref21_figure.j0, if_neg (by simp)]
        by_cases h4 : ((b.toNat : Nat) : Int) ≥ 97
        · rw [if_pos h4, if_neg (by omega)]
        · rw [if_neg h4]
  · have e1 : ¬ ((b.toNat : Nat) : Int) ≥ 48 := by omega
    simp only [if_neg e1]
    rw [if_neg (by omega), if_neg (by omega)]
    refine Ev.step (f := fun _ => some (-1)) (fun k => ?_) (Ev.now _)
    rw [oakumref21_figure.j0, if_neg (by simp), if_neg (by omega)]

def pairL : List UInt8 → Option (List UInt8)
  | [] => some []
  | [_] => none
  | a :: b :: r => if ixB a < 0 ∨ ixB b < 0 then none else (pairL r).map (UInt8.ofNat (16 * ixB a + ixB b).toNat :: ·)
theorem pairs_all : ∀ (l : List UInt8), l.length % 2 = 0 → (if okFigs l = true then some ((List.range (l.length / 2)).map fun k => UInt8.ofNat (outAt l l.length k).toNat) else none) = pairL l
  | [], _ => rfl
  | [_], h => by simp at h
  | a :: b :: r, h => by
    have ih := pairs_all r (by simp only [List.length_cons] at h; omega)
    unfold pairL
    rw [← ih]
    have hok : okFigs (a :: b :: r) = (decide (0 ≤ ixB a) && (decide (0 ≤ ixB b) && okFigs r)) := rfl
    rw [hok]
    by_cases ha : ixB a < 0
    · rw [if_pos (Or.inl ha), decide_eq_false (by omega)]; rfl
    by_cases hb : ixB b < 0
    · rw [if_pos (Or.inr hb), decide_eq_false (p := 0 ≤ ixB b) (by omega)]; simp
    rw [if_neg (by omega : ¬ (ixB a < 0 ∨ ixB b < 0)), decide_eq_true (p := 0 ≤ ixB a) (by omega), decide_eq_true (p := 0 ≤ ixB b) (by omega)]
    simp only [Bool.true_and]
    split
    · rw [Option.map_some]
      congr 1
      have e : (a :: b :: r).length / 2 = r.length / 2 + 1 := by simp only [List.length_cons]; omega
      rw [e, List.range_succ_eq_map, List.map_cons, List.map_map]
      have e0 : outAt (a :: b :: r) (a :: b :: r).length 0 = 16 * ixB a + ixB b := by
        unfold outAt
        rw [if_pos (by simp only [List.length_cons]; omega)]
        rfl
      rw [e0]
      congr 1
      · apply List.map_congr_left
        intro k hk
        simp only [Function.comp]
        congr 2
        unfold outAt
        have e1 : (2 * k.succ + 1 < (a :: b :: r).length) = (2 * k + 1 < r.length) := by simp only [List.length_cons, Nat.succ_eq_add_one]; apply propext; omega
        have e2 : (2 * k.succ < (a :: b :: r).length) = (2 * k < r.length) := by simp only [List.length_cons, Nat.succ_eq_add_one]; apply propext; omega
        have e3 : 2 * k.succ = 2 * k + 1 + 1 := by omega
        have e4 : 2 * k.succ + 1 = 2 * k + 1 + 1 + 1 := by omega
        simp only [e1, e2]
        rw [e4, e3]
        rfl
    · rfl
theorem bytesOf_eq (l : List UInt8) : bytesOf l = if l = [45] then some [] else if l = [] ∨ l.length % 2 ≠ 0 then none else pairL l := by
  unfold bytesOf
  split
  · rfl
  · split
    · rfl
    · rename_i h; exact pairs_all l (by omega)
def bytesR (o : Option (List UInt8)) : ByteArray × Bool := match o with
  | some r => (⟨r.toArray⟩, true)
  | none => (⟨#[]⟩, false)
theorem Bytes_l0 (s : ByteArray) (hs : s.size ≤ 10000) : ∀ (d i : Nat) (acc : List UInt8), 2 * d + i = s.size → acc.length ≤ i →
    Ev (fun k => oakumref21_Bytes.l0 k s (acc.map fun b => (b.toNat : Int)) (i : Int)) (bytesR ((pairL (s.data.toList.drop i)).map (acc ++ ·))) := by
  intro d
  induction d with
  | zero =>
    intro i acc hd ha
    have e : s.data.toList.drop i = [] := List.drop_of_length_le (by simp; omega)
    rw [e]
    refine Ev.step (f := fun _ => some (strOfNums (acc.map fun b => (b.toNat : Int)), true)) (fun k => by rw [oakumref21_Bytes.l0, if_neg (by omega)]) ?_
    rw [Lib.Lz.strOfNums_map]
    have : (⟨acc.toArray⟩, true) = bytesR ((pairL []).map (acc ++ ·)) := by simp [pairL, bytesR]
    rw [← this]; exact Ev.now _
  | succ d ih =>
    intro i acc hd ha
    have hp : i < s.size := by omega
    have hp1 : i + 1 < s.size := by omega
    have hbt := bt_nat s i hp
    have hbt1 := bt_nat s (i + 1) hp1
    rw [drop_cons s i hp, drop_cons s (i + 1) hp1]
    generalize s.data.toList[i]'(by simpa using hp) = a at hbt
    generalize s.data.toList[i + 1]'(by simpa using hp1) = b at hbt1
    have w1 : wrap64 ((i : Int) + 1) = ((i + 1 : Nat) : Int) := by rw [w64 (by omega) (by omega)]; omega
    have w2 : wrap64 ((i : Int) + 2) = ((i + 1 + 1 : Nat) : Int) := by rw [w64 (by omega) (by omega)]; omega
    refine Ev.step (f := fun k => (oakumref21_figure.f k (a.toNat : Int)).bind fun t165 => (oakumref21_figure.f k (b.toNat : Int)).bind fun t166 => if t165 < 0 then some ((⟨#[]⟩ : ByteArray), false) else if t166 < 0 then some ((⟨#[]⟩ : ByteArray), false) else oakumref21_Bytes.l0 k s ((acc.map fun b => (b.toNat : Int)) ++ [(wrap64 ((wrap64 (16 * t165)) + t166)) % 256]) ((i + 1 + 1 : Nat) : Int)) (fun k => ?_) ?_
    · have c1 : (0 : Int) ≤ ((i + 1 : Nat) : Int) := by omega
      have c2 : ((i + 1 : Nat) : Int) < (s.size : Int) := by omega
      have c3 : (acc.map fun b => (b.toNat : Int)).length < 140737488355328 := by simp; omega
      rw [oakumref21_Bytes.l0, if_pos (by omega), if_pos (by omega), w1]
      simp only [if_pos c1, if_pos c2, if_pos c3, hbt, hbt1, w2]
    · refine Ev.bind (figure_ev a) (Ev.bind (figure_ev b) ?_)
      unfold pairL
      by_cases ha0 : ixB a < 0
      · simp only [if_pos ha0, if_pos (Or.inl ha0 : ixB a < 0 ∨ ixB b < 0)]; exact Ev.now _
      by_cases hb0 : ixB b < 0
      · simp only [if_neg ha0, if_pos hb0, if_pos (Or.inr hb0 : ixB a < 0 ∨ ixB b < 0)]; exact Ev.now _
      simp only [if_neg ha0, if_neg hb0, if_neg (by omega : ¬ (ixB a < 0 ∨ ixB b < 0))]
      have hla := ixB_lt a
      have hlb := ixB_lt b
      have ev : (acc.map fun b => (b.toNat : Int)) ++ [(wrap64 ((wrap64 (16 * ixB a)) + ixB b)) % 256] = ((acc ++ [UInt8.ofNat (16 * ixB a + ixB b).toNat]).map fun b => (b.toNat : Int)) := by
        rw [w64 (a := 16 * ixB a) (by omega) (by omega), w64 (by omega) (by omega), List.map_append, List.map_cons, List.map_nil]
        congr 2
        rw [UInt8.toNat_ofNat']; omega
      rw [ev]
      have := ih (i + 1 + 1) (acc ++ [UInt8.ofNat (16 * ixB a + ixB b).toNat]) (by omega) (by simp; omega)
      rw [Option.map_map]
      have e2 : ((fun x => acc ++ x) ∘ fun x => UInt8.ofNat (16 * ixB a + ixB b).toNat :: x) = fun x => (acc ++ [UInt8.ofNat (16 * ixB a + ixB b).toNat]) ++ x := by funext x; simp
      rw [e2]
      exact this
theorem Bytes_ev (s : ByteArray) (hs : s.size ≤ 10000) : Ev (fun k => oakumref21_Bytes.f k s) (bytesR (bytesOf s.data.toList)) := by
  rw [bytesOf_eq]
  unfold oakumref21_Bytes.f
  rw [ByteArray.toList_eq]
  have hlen : s.data.toList.length = s.size := Array.length_toList
  by_cases h1 : s.data.toList = [45]
  · simp only [if_pos h1]; exact Ev.now _
  simp only [if_neg h1]
  by_cases h2 : s.data.toList = []
  · simp only [if_pos h2, if_pos (Or.inl h2 : s.data.toList = [] ∨ s.data.toList.length % 2 ≠ 0)]
    exact Ev.step (f := fun _ => some ((⟨#[]⟩ : ByteArray), false)) (fun k => rfl) (Ev.now _)
  simp only [if_neg h2]
  by_cases h3 : s.data.toList.length % 2 ≠ 0
  · rw [if_pos (Or.inr h3)]
    have e : (((s.size : Int) % 2) != 0) = true := by rw [bne_iff_ne]; omega
    rw [e]
    exact Ev.step (f := fun _ => some ((⟨#[]⟩ : ByteArray), false)) (fun k => rfl) (Ev.now _)
  · rw [if_neg (by intro h; rcases h with h | h; exact h2 h; exact h3 h)]
    have e : (((s.size : Int) % 2) != 0) = false := by rw [bne_eq_false_iff_eq]; omega
    rw [e]
    refine Ev.step (f := fun k => oakumref21_Bytes.l0 k s ([] : List Int) 0) (fun k => by rw [oakumref21_Bytes.j0, if_neg (by simp)]) ?_
    have := Bytes_l0 s hs (s.size / 2) 0 [] (by omega) (by simp)
    rw [List.drop_zero] at this
    have e2 : (pairL s.data.toList).map (fun x => [] ++ x) = pairL s.data.toList := by simp
    rw [e2] at this
    exact this

/-! ### numbers -/
def numR (o : Option Nat) : Int × Bool := match o with
  | some v => ((v : Int), true)
  | none => (0, false)
theorem Number_l0 (s : ByteArray) (hs : s.size ≤ 10000) (most : Nat) (hm : most < 100000000000000000) : ∀ (d i acc : Nat), d + i = s.size → acc ≤ most →
    Ev (fun k => oakumref20_Number.l0 k s (most : Int) (acc : Int) (i : Int)) (numR (numFrom most acc (s.data.toList.drop i))) := by
  intro d
  induction d with
  | zero =>
    intro i acc hd ha
    have e : s.data.toList.drop i = [] := List.drop_of_length_le (by simp; omega)
    rw [e]
    exact Ev.step (f := fun _ => some ((acc : Int), true)) (fun k => by rw [oakumref20_Number.l0, if_neg (by omega)]) (Ev.now _)
  | succ d ih =>
    intro i acc hd ha
    have hp : i < s.size := by omega
    have hbt := bt_nat s i hp
    rw [drop_cons s i hp]
    generalize s.data.toList[i]'(by simpa using hp) = b at hbt
    have hbl := b.toNat_lt
    have w1 : wrap64 ((i : Int) + 1) = ((i + 1 : Nat) : Int) := by rw [w64 (by omega) (by omega)]; omega
    unfold numFrom
    by_cases hb : 48 ≤ b.toNat ∧ b.toNat ≤ 57
    · rw [if_pos hb]
      have hv : wrap64 ((wrap64 (10 * (acc : Int))) + ((bt s (i : Int) - 48) % 256)) = ((10 * acc + (b.toNat - 48) : Nat) : Int) := by
        rw [w64 (a := 10 * (acc : Int)) (by omega) (by omega), hbt, w64 (by omega) (by omega)]; omega
      refine Ev.step (f := fun k => oakumref20_Number.j2 k s (most : Int) (acc : Int) (i : Int) false) (fun k => ?_) ?_
      · rw [oakumref20_Number.l0, if_pos (by omega), if_pos (by omega), if_neg (by omega), decide_eq_false (by omega)]
      · by_cases hgt : most < 10 * acc + (b.toNat - 48)
        · rw [if_pos hgt]
          refine Ev.step (f := fun _ => some (0, false)) (fun k => ?_) (Ev.now _)
          rw [oakumref20_Number.j2, if_neg (by simp), if_pos (by omega), if_pos (by omega), hv, if_pos (by omega)]
        · rw [if_neg hgt]
          refine Ev.step (f := fun k => oakumref20_Number.l0 k s (most : Int) ((10 * acc + (b.toNat - 48) : Nat) : Int) ((i + 1 : Nat) : Int)) (fun k => ?_) (ih (i + 1) _ (by omega) (by omega))
          rw [oakumref20_Number.j2, if_neg (by simp), if_pos (by omega), if_pos (by omega), hv, if_neg (by omega), w1]
    · rw [if_neg hb]
      refine Ev.step (f := fun k => oakumref20_Number.j2 k s (most : Int) (acc : Int) (i : Int) true) (fun k => ?_) ?_
      · rw [oakumref20_Number.l0, if_pos (by omega), if_pos (by omega)]
        by_cases h4 : bt s (i : Int) < 48
        · rw [if_pos h4]
        · rw [if_neg h4, decide_eq_true (by omega)]
      · exact Ev.step (f := fun _ => some (0, false)) (fun k => by rw [oakumref20_Number.j2, if_pos rfl]) (Ev.now _)
theorem Number_ev (s : ByteArray) (hs : s.size ≤ 10000) (most : Nat) (hm : most < 100000000000000000) : Ev (fun k => oakumref20_Number.f k s (most : Int)) (numR (numL most s.data.toList)) := by
  unfold numL oakumref20_Number.f
  rw [ByteArray.toList_eq]
  have hlen : s.data.toList.length = s.size := Array.length_toList
  have hno : Ev (fun k => oakumref20_Number.j0 k s (most : Int) true) (numR none) := Ev.step (f := fun _ => some (0, false)) (fun k => rfl) (Ev.now _)
  have hyes : Ev (fun k => oakumref20_Number.j0 k s (most : Int) false) (numR (numFrom most 0 s.data.toList)) := by
    refine Ev.step (f := fun k => oakumref20_Number.l0 k s (most : Int) 0 0) (fun k => by rw [oakumref20_Number.j0, if_neg (by simp)]) ?_
    have := Number_l0 s hs most hm s.size 0 0 (by omega) (by omega)
    rw [List.drop_zero] at this
    exact this
  by_cases h1 : s.data.toList = []
  · simp only [if_pos h1, if_pos (Or.inl h1 : s.data.toList = [] ∨ (1 < s.data.toList.length ∧ s.data.toList.head? = some 48))]; exact hno
  simp only [if_neg h1]
  have hp0 : 0 < s.size := by
    rcases Nat.eq_zero_or_pos s.size with h | h
    · exact absurd (List.length_eq_zero_iff.1 (hlen.trans h)) h1
    · exact h
  by_cases h2 : (s.size : Int) > 1
  · simp only [if_pos h2, if_pos (by omega : 0 < (s.size : Int))]
    have hbt := bt_nat s 0 hp0
    have hhd : s.data.toList.head? = some (s.data.toList[0]'(by simpa using hp0)) := by rw [List.head?_eq_getElem?, List.getElem?_eq_getElem]
    by_cases h3 : s.data.toList[0]'(by simpa using hp0) = 48
    · rw [if_pos (Or.inr ⟨by omega, by rw [hhd, h3]⟩)]
      have e : (bt s 0 == 48) = true := by rw [beq_iff_eq]; refine Eq.trans hbt ?_; rw [h3]; rfl
      rw [e]; exact hno
    · rw [if_neg (by rintro (h | ⟨_, h⟩); exact h1 h; rw [hhd] at h; exact h3 (Option.some.inj h))]
      have e : (bt s 0 == 48) = false := by
        rw [beq_eq_false_iff_ne]
        intro h
        have h5 := hbt.symm.trans h
        exact h3 (by apply UInt8.toNat.inj; show _ = 48; omega)
      rw [e]; exact hyes
  · simp only [if_neg h2]
    rw [if_neg (by rintro (h | ⟨h, _⟩); exact h1 h; omega)]
    exact hyes
end Go.Proofs.YtlinnmllbbmnpaaDoor.PCmd
