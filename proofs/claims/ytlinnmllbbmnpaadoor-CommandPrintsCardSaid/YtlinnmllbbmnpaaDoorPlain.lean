/- What the document computes is what the program computes: a text's words; figures; numbers; a text's command. -/
import Derived.Test.YtlinnmllbbmnpaaDoorMath
import Derived.Test.YtlinnmllbbmnpaaDoorParse
import Derived.Test.YtlinnmllbbmnpaaDoorPCmdx9
import Derived.Lib.LazyBuf
namespace Go.Proofs.YtlinnmllbbmnpaaDoor.PCmd
open Go.RowKit Go.Proofs.YtlinnmllbbmnpaaDoorW.PrintWords Go.Proofs.YtlinnmllbbmnpaaDoorW.PrintLast Go.Proofs.YtlinnmllbbmnpaaDoorW.PrintMore

/-! ### words -/
def wordsL (last : List UInt8) : List UInt8 → List (List UInt8)
  | [] => [last]
  | b :: r => if b = 32 then last :: wordsL [] r else wordsL (last ++ [b]) r
def headApp (p : List UInt8) : List (List UInt8) → List (List UInt8)
  | [] => [p]
  | h :: t => (p ++ h) :: t
theorem headApp_nil {x : List (List UInt8)} (h : x ≠ []) : headApp [] x = x := by
  cases x with
  | nil => exact absurd rfl h
  | cons a t => rfl
theorem splitK_ne (sep : List UInt8) (k : Nat) (s : List UInt8) : Lib.splitK sep 0 k s ≠ [] := by
  cases k with
  | zero => simp [Lib.splitK]
  | succ k => unfold Lib.splitK; split <;> simp
theorem splitK_hit (k : Nat) (s : List UInt8) (i : Nat) (h : Lib.index s [32] = (i : Int)) : Lib.splitK [32] 0 (k + 1) s = s.take i :: Lib.splitK [32] 0 k (s.drop (i + 1)) := by
  have hm : ¬ (Lib.index s [32] == -1) = true := fun e => by have := beq_iff_eq.1 e; omega
  have e : (Lib.index s [32]).toNat = i := by omega
  rw [Lib.splitK, if_neg hm, e]; rfl
theorem splitK_words : ∀ (l last : List UInt8), wordsL last l = headApp last (Lib.splitK [32] 0 (l.count 32) l)
  | [], last => by simp [wordsL, Lib.splitK, headApp]
  | b :: r, last => by
    by_cases hb : b = 32
    · subst hb
      rw [List.count_cons_self, splitK_hit _ _ 0 (by simp [Lib.index, List.isPrefixOf]), wordsL, if_pos rfl, splitK_words r [], headApp_nil (splitK_ne _ _ _)]
      simp [headApp]
    · rw [wordsL, if_neg hb, splitK_words r (last ++ [b]), List.count_cons_of_ne (by simpa using hb)]
      cases hk : r.count 32 with
      | zero => simp [Lib.splitK, headApp]
      | succ k =>
        have hne : Lib.index r [32] ≠ -1 := fun h => by
          have := Lib.count_miss h
          rw [Lib.count_one, hk] at this; omega
        have hge := Lib.index_ge r [32]
        obtain ⟨i, hi⟩ : ∃ i : Nat, Lib.index r [32] = (i : Int) := ⟨(Lib.index r [32]).toNat, by omega⟩
        have hp : ([32] : List UInt8).isPrefixOf (b :: r) = false := by simp [List.isPrefixOf, Ne.symm hb]
        have hi2 : Lib.index (b :: r) [32] = ((i + 1 : Nat) : Int) := by
          rw [Lib.index, hp, if_neg (by simp), if_neg (by simpa using hne), hi]; omega
        rw [splitK_hit _ _ _ hi, splitK_hit _ _ _ hi2]
        simp [headApp]
theorem wordsB_data (s : ByteArray) : (wordsB s).map (·.data.toList) = wordsL [] s.data.toList := by
  unfold wordsB
  rw [Lib.splitB_data, splitK_words, headApp_nil (splitK_ne _ _ _)]
  show Lib.splitK [32] 0 (Lib.count s.data.toList [32]) _ = _
  rw [Lib.count_one]
def wordsFrom (last : ByteArray) : List UInt8 → List ByteArray
  | [] => [last]
  | b :: r => if b = 32 then last :: wordsFrom ⟨#[]⟩ r else wordsFrom (last ++ ⟨#[b]⟩) r
theorem wordsFrom_data : ∀ (l : List UInt8) (last : ByteArray), (wordsFrom last l).map (·.data.toList) = wordsL last.data.toList l
  | [], last => rfl
  | b :: r, last => by
    unfold wordsFrom wordsL
    by_cases hb : b = 32
    · rw [if_pos hb, if_pos hb, List.map_cons, wordsFrom_data]
    · rw [if_neg hb, if_neg hb, wordsFrom_data]; simp
theorem map_data_inj : ∀ {a b : List ByteArray}, a.map (·.data.toList) = b.map (·.data.toList) → a = b
  | [], [], _ => rfl
  | [], _ :: _, h => by simp at h
  | _ :: _, [], h => by simp at h
  | x :: a, y :: b, h => by
    rw [List.map_cons, List.map_cons, List.cons.injEq] at h
    rw [Go.WideShapes.bytes_inj h.1, map_data_inj h.2]
theorem wordsFrom_eq (s : ByteArray) : wordsFrom ⟨#[]⟩ s.data.toList = wordsB s := map_data_inj (by rw [wordsFrom_data, wordsB_data])

theorem bt_nat (s : ByteArray) (i : Nat) (h : i < s.size) : bt s (i : Int) = ((s.data.toList[i]'(by simpa using h)).toNat : Int) := by
  unfold bt
  rw [dif_pos (by simpa using h)]
  rfl
theorem drop_cons (s : ByteArray) (i : Nat) (h : i < s.size) : s.data.toList.drop i = (s.data.toList[i]'(by simpa using h)) :: s.data.toList.drop (i + 1) := List.drop_eq_getElem_cons (by simpa using h)
theorem cut_one (s : ByteArray) (i : Nat) (h : i < s.size) : s.extract i (i + 1) = ⟨#[s.data.toList[i]'(by simpa using h)]⟩ := by
  apply Go.WideShapes.bytes_inj
  rw [Lib.extract_data]
  have e : i + 1 - i = 1 := by omega
  rw [drop_cons s i h]
  simp [e]

theorem Words_l0 (s : ByteArray) (hs : s.size ≤ 10000) : ∀ (d i : Nat) (init : List ByteArray) (last : ByteArray), d + i = s.size → init.length ≤ i → last.size ≤ i →
    Ev (fun k => oakumref20_Words.l0 k s (init ++ [last]) (i : Int)) (init ++ wordsFrom last (s.data.toList.drop i)) := by
  intro d
  induction d with
  | zero =>
    intro i init last hd hi hl
    have e : s.data.toList.drop i = [] := List.drop_of_length_le (by simp; omega)
    rw [e]
    exact Ev.step (f := fun _ => some (init ++ [last])) (fun k => by rw [oakumref20_Words.l0, if_neg (by omega)]) (Ev.now _)
  | succ d ih =>
    intro i init last hd hi hl
    have hp : i < s.size := by omega
    rw [drop_cons s i hp]
    have hbt := bt_nat s i hp
    have w1 : wrap64 ((i : Int) + 1) = ((i + 1 : Nat) : Int) := by rw [w64 (by omega) (by omega)]; omega
    by_cases hb : s.data.toList[i]'(by simpa using hp) = 32
    · have hbt2 : bt s (i : Int) = 32 := by rw [hbt, hb]; rfl
      refine Ev.step (f := fun k => oakumref20_Words.l0 k s ((init ++ [last]) ++ [(⟨#[]⟩ : ByteArray)]) ((i + 1 : Nat) : Int)) (fun k => ?_) ?_
      · rw [oakumref20_Words.l0, if_pos (by omega), if_pos (by omega), if_pos hbt2, if_pos (by simp; omega), w1]
      · have := ih (i + 1) (init ++ [last]) ⟨#[]⟩ (by omega) (by simp; omega) (by show 0 ≤ _; omega)
        rw [wordsFrom, if_pos hb]
        rw [List.append_assoc, List.singleton_append] at this
        simpa using this
    · have hbt2 : ¬ bt s (i : Int) = 32 := by
        rw [hbt]; intro h; exact hb (by apply UInt8.toNat.inj; show _ = 32; omega)
      have hlen : (((init ++ [last]).length : Nat) : Int) = (init.length : Int) + 1 := by simp
      have w2 : wrap64 ((((init ++ [last]).length : Nat) : Int) - 1) = ((init.length : Nat) : Int) := by rw [hlen, w64 (by omega) (by omega)]; omega
      have hrd : rdOf ByteArray.empty (init ++ [last]) ((init.length : Nat) : Int) = last := by
        unfold rdOf; rw [Int.toNat_natCast, List.getD_eq_getElem?_getD, List.getElem?_append_right (Nat.le_refl _)]; simp
      have hset : ∀ x, (init ++ [last]).set (((init.length : Nat) : Int).toNat) x = init ++ [x] := fun x => by
        rw [Int.toNat_natCast, List.set_append_right (h := Nat.le_refl _)]; simp
      have hex : s.extract (i : Int).toNat ((i + 1 : Nat) : Int).toNat = ⟨#[s.data.toList[i]'(by simpa using hp)]⟩ := by
        rw [Int.toNat_natCast, Int.toNat_natCast]; exact cut_one s i hp
      refine Ev.step (f := fun k => oakumref20_Words.l0 k s (init ++ [last ++ ⟨#[s.data.toList[i]'(by simpa using hp)]⟩]) ((i + 1 : Nat) : Int)) (fun k => ?_) ?_
      · rw [oakumref20_Words.l0, if_pos (by omega), if_pos (by omega), if_neg hbt2, w2, if_pos (by omega), if_pos (by rw [hlen]; omega), w1, if_pos (by omega), if_pos (by omega), hrd, hex, if_pos (by show last.size + 1 ≤ _; omega), hset]
      · have := ih (i + 1) init (last ++ ⟨#[s.data.toList[i]'(by simpa using hp)]⟩) (by omega) (by omega) (by rw [ByteArray.size_append]; show _ + 1 ≤ _; omega)
        rw [wordsFrom, if_neg hb]
        exact this
theorem Words_ev (s : ByteArray) (hs : s.size ≤ 10000) : Ev (fun k => oakumref20_Words.f k s) (wordsB s) := by
  have := Words_l0 s hs s.size 0 [] ⟨#[]⟩ (by omega) (by simp) (by show 0 ≤ _; omega)
  rw [List.drop_zero, wordsFrom_eq] at this
  exact this

/-! ### forms -/
theorem form_ev (a : ByteArray) : Ev (fun k => oakumref21_form.f k a) (⟨((formOf a.data.toList).getD []).toArray⟩, (formOf a.data.toList).isSome) := by
  unfold oakumref21_form.f
  rw [ByteArray.toList_eq]
  generalize hl : a.data.toList = l
  by_cases h1 : l = [114, 101, 97, 100]
  · simp only [if_pos h1]; subst h1; exact Ev.now _
  by_cases h2 : l = [119, 114, 105, 116, 101]
  · simp only [if_neg h1, if_pos h2]; subst h2; exact Ev.now _
  by_cases h3 : l = [99, 114, 101, 97, 116, 101]
  · simp only [if_neg h1, if_neg h2, if_pos h3]; subst h3; exact Ev.now _
  by_cases h4 : l = [100, 101, 108, 101, 116, 101]
  · simp only [if_neg h1, if_neg h2, if_neg h3, if_pos h4]; subst h4; exact Ev.step (f := fun _ => _) (fun k => rfl) (Ev.now _)
  simp only [if_neg h1, if_neg h2, if_neg h3, if_neg h4]
  by_cases h5 : l = [109, 101, 114, 103, 101]
  · subst h5; exact Ev.step (f := fun _ => _) (fun k => rfl) (Ev.now _)
  have e5 : (l == ([109, 101, 114, 103, 101] : List UInt8)) = false := by simpa using h5
  rw [e5]
  by_cases h6 : l = [115, 116, 101, 112]
  · refine Ev.step (f := fun _ => some ((⟨#[]⟩ : ByteArray), true)) (fun k => ?_) ?_
    · rw [oakumref21_form.j0, if_neg (by simp), ByteArray.toList_eq, hl, if_pos h6]
    · subst h6; exact Ev.now _
  · have e0 : formOf l = none := by
      unfold formOf formRows
      simp [Ne.symm h1, Ne.symm h2, Ne.symm h3, Ne.symm h4, Ne.symm h5, Ne.symm h6]
    refine Ev.step (f := fun _ => some ((⟨#[]⟩ : ByteArray), false)) (fun k => ?_) ?_
    · rw [oakumref21_form.j0, if_neg (by simp), ByteArray.toList_eq, hl, if_neg h6]
    · rw [e0]; exact Ev.now _
end Go.Proofs.YtlinnmllbbmnpaaDoor.PCmd
