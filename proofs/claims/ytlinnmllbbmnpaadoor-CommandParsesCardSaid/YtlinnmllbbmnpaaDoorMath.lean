/- Numbers of figures, as the program takes them (Atoi, Itoa) and as the document does: one. -/
import Derived.Test.YtlinnmllbbmnpaaDoorTake
import Derived.Lib.AtoiAllCases
namespace Go.Proofs.YtlinnmllbbmnpaaDoor

def numFrom (most acc : Nat) : List UInt8 → Option Nat
  | [] => some acc
  | b :: r => if 48 ≤ b.toNat ∧ b.toNat ≤ 57 then (if most < 10 * acc + (b.toNat - 48) then none else numFrom most (10 * acc + (b.toNat - 48)) r) else none
def numL (most : Nat) (l : List UInt8) : Option Nat := if l = [] ∨ (1 < l.length ∧ l.head? = some 48) then none else numFrom most 0 l

theorem numFrom_le {most : Nat} : ∀ (l : List UInt8) (acc v : Nat), acc ≤ most → numFrom most acc l = some v → v ≤ most
  | [], acc, v, ha, h => by simp only [numFrom, Option.some.injEq] at h; omega
  | b :: r, acc, v, ha, h => by
    unfold numFrom at h
    split at h
    · split at h
      · cases h
      · exact numFrom_le r _ _ (by omega) h
    · cases h
theorem numFrom_parse {most : Nat} (hm : most < 1844674407370955162) : ∀ (l : List UInt8) (acc v : Nat), acc ≤ most → numFrom most acc l = some v → Lib.parseUint10 acc l = .ok v
  | [], acc, v, ha, h => by simp only [numFrom, Option.some.injEq] at h; rw [h]; rfl
  | b :: r, acc, v, ha, h => by
    unfold numFrom at h
    unfold Lib.parseUint10
    split at h
    · rename_i hb
      split at h
      · cases h
      · rename_i hle
        rw [if_pos hb, if_neg (by omega), if_neg (by omega), Nat.mul_comm acc 10]
        exact numFrom_parse hm r _ _ (by omega) h
    · cases h

theorem parse_mono : ∀ (l : List UInt8) (acc v : Nat), Lib.parseUint10 acc l = .ok v → acc ≤ v
  | [], acc, v, h => by simp only [Lib.parseUint10, Lib.NumEnd.ok.injEq] at h; omega
  | b :: r, acc, v, h => by
    unfold Lib.parseUint10 at h
    split at h
    · split at h
      · cases h
      · split at h
        · cases h
        · have := parse_mono r _ _ h; omega
    · cases h
theorem parse_numFrom {most : Nat} : ∀ (l : List UInt8) (acc v : Nat), Lib.parseUint10 acc l = .ok v → v ≤ most → numFrom most acc l = some v
  | [], acc, v, h, hv => by simp only [Lib.parseUint10, Lib.NumEnd.ok.injEq] at h; subst h; rfl
  | b :: r, acc, v, h, hv => by
    unfold Lib.parseUint10 at h
    unfold numFrom
    split at h
    · rename_i hb
      split at h
      · cases h
      · split at h
        · cases h
        · have h2 := parse_mono r _ _ h
          rw [if_pos hb, if_neg (by omega), Nat.mul_comm 10 acc]
          exact parse_numFrom r _ _ h hv
    · cases h

/-- A numeral's figures spell its number. -/
theorem numFrom_dec {most : Nat} : ∀ (u acc : Nat) (r : List UInt8), acc * 10 ^ Lib.nDigits u + u ≤ most → numFrom most acc (Lib.decDigits u ++ r) = numFrom most (acc * 10 ^ Lib.nDigits u + u) r := by
  intro u
  induction u using Nat.strongRecOn with
  | _ u ih =>
    intro acc r hle
    by_cases h : u < 10
    · rw [Lib.decDigits, dif_pos h]
      rw [Lib.nDigits_small h] at hle ⊢
      have e : (UInt8.ofNat (48 + u)).toNat = 48 + u := by rw [UInt8.toNat_ofNat']; omega
      rw [List.singleton_append, numFrom, e, if_pos (by omega), if_neg (by omega)]
      congr 1; omega
    · rw [Lib.nDigits_big h, Nat.pow_succ] at hle ⊢
      rw [Lib.decDigits, dif_neg h, List.append_assoc]
      have hmul : acc * (10 ^ Lib.nDigits (u / 10) * 10) = acc * 10 ^ Lib.nDigits (u / 10) * 10 := by rw [Nat.mul_assoc]
      rw [hmul] at hle ⊢
      rw [ih (u / 10) (by omega) acc _ (by omega)]
      have e : (UInt8.ofNat (48 + u % 10)).toNat = 48 + u % 10 := by rw [UInt8.toNat_ofNat']; omega
      rw [List.singleton_append, numFrom, e, if_pos (by omega), if_neg (by omega)]
      congr 1; omega

theorem dec_head : ∀ (u : Nat), 1 ≤ u → ∃ d r, Lib.decDigits u = d :: r ∧ 49 ≤ d.toNat ∧ d.toNat ≤ 57 := by
  intro u
  induction u using Nat.strongRecOn with
  | _ u ih =>
    intro h1
    by_cases h : u < 10
    · refine ⟨UInt8.ofNat (48 + u), [], by rw [Lib.decDigits, dif_pos h], ?_, ?_⟩ <;> (rw [UInt8.toNat_ofNat']; omega)
    · obtain ⟨d, r, h2, h3, h4⟩ := ih (u / 10) (by omega) (by omega)
      exact ⟨d, r ++ [UInt8.ofNat (48 + u % 10)], by rw [Lib.decDigits, dif_neg h, h2]; rfl, h3, h4⟩
theorem dec_zero : Lib.decDigits 0 = [48] := by rw [Lib.decDigits, dif_pos (by decide)]; rfl
theorem numL_dec {most u : Nat} (h : u ≤ most) : numL most (Lib.decDigits u) = some u := by
  have hc : ¬ (Lib.decDigits u = [] ∨ (1 < (Lib.decDigits u).length ∧ (Lib.decDigits u).head? = some 48)) := by
    by_cases h0 : u = 0
    · subst h0; rw [dec_zero]; simp
    · obtain ⟨d, r, h2, h3, h4⟩ := dec_head u (by omega)
      rw [h2]
      rintro (hh | ⟨_, hh⟩)
      · cases hh
      · simp only [List.head?_cons, Option.some.injEq] at hh; subst hh; exact absurd h3 (by decide)
  unfold numL
  rw [if_neg hc]
  have := numFrom_dec (most := most) u 0 [] (by omega)
  rw [List.append_nil] at this
  rw [this, numFrom]; congr 1; omega

/-- Figures without a nought ahead are their number's numeral. -/
theorem dec_snoc (u d : Nat) (h1 : 1 ≤ u) (hd : d < 10) : Lib.decDigits (10 * u + d) = Lib.decDigits u ++ [UInt8.ofNat (48 + d)] := by
  rw [Lib.decDigits, dif_neg (by omega)]
  have e1 : (10 * u + d) / 10 = u := by omega
  have e2 : (10 * u + d) % 10 = d := by omega
  rw [e1, e2]
theorem dec_of {most : Nat} : ∀ (l : List UInt8) (acc v : Nat), 1 ≤ acc → numFrom most acc l = some v → Lib.decDigits v = Lib.decDigits acc ++ l
  | [], acc, v, ha, h => by simp only [numFrom, Option.some.injEq] at h; subst h; simp
  | b :: r, acc, v, ha, h => by
    unfold numFrom at h
    split at h
    · rename_i hb
      split at h
      · cases h
      · rw [dec_of r _ v (by omega) h, dec_snoc _ _ ha (by omega)]
        have e : UInt8.ofNat (48 + (b.toNat - 48)) = b := by
          apply UInt8.toNat.inj; rw [UInt8.toNat_ofNat']; have := b.toNat_lt; omega
        rw [e, List.append_assoc]; rfl
    · cases h
theorem numL_inv {most v : Nat} {l : List UInt8} (h : numL most l = some v) : Lib.decDigits v = l ∧ v ≤ most := by
  unfold numL at h
  split at h
  · cases h
  · rename_i hc
    refine ⟨?_, numFrom_le l 0 v (by omega) h⟩
    cases l with
    | nil => exact absurd (Or.inl rfl) hc
    | cons b r =>
      unfold numFrom at h
      split at h
      · rename_i hb
        split at h
        · cases h
        · have e : UInt8.ofNat (48 + (b.toNat - 48)) = b := by
            apply UInt8.toNat.inj; rw [UInt8.toNat_ofNat']; have := b.toNat_lt; omega
          by_cases h0 : b.toNat = 48
          · have hr : r = [] := by
              cases r with
              | nil => rfl
              | cons x y =>
                refine absurd (Or.inr ⟨by simp, ?_⟩) hc
                have : b = 48 := UInt8.toNat.inj h0
                rw [this]; rfl
            subst hr
            simp only [numFrom, Option.some.injEq] at h
            subst h
            rw [Lib.decDigits, dif_pos (by omega)]
            simp [h0]
            exact (UInt8.toNat.inj h0).symm
          · rw [dec_of r _ v (by omega) h, Lib.decDigits, dif_pos (by omega)]
            simp only [Nat.mul_zero, Nat.zero_add]
            rw [e]; rfl
      · cases h

/-- What the program takes as a number, at any bound below 2^60. -/
def numOk (most : Nat) (l : List UInt8) : Option Int := if atoiOk l = true ∧ 0 ≤ atoiVal l ∧ atoiVal l ≤ (most : Int) ∧ Lib.itoa (atoiVal l) = l then some (atoiVal l) else none
theorem atoi_dec {u : Nat} (h : u < 1844674407370955162) : Lib.atoiAll (Lib.decDigits u) = .ok (u : Int) := by
  have hp : Lib.parseMag (Lib.decDigits u) = .ok u := by
    have h1 := numL_dec (Nat.le_refl u)
    unfold numL at h1
    split at h1
    · cases h1
    · rename_i hc
      unfold Lib.parseMag
      rw [if_neg (fun e => hc (.inl e))]
      exact numFrom_parse h _ _ _ (by omega) h1
  obtain ⟨c, r, hcr, h43, h45⟩ : ∃ c r, Lib.decDigits u = c :: r ∧ c.toNat ≠ 43 ∧ c.toNat ≠ 45 := by
    by_cases h0 : u = 0
    · subst h0; exact ⟨48, [], dec_zero, by decide, by decide⟩
    · obtain ⟨d, r, h2, h3, h4⟩ := dec_head u (by omega)
      exact ⟨d, r, h2, by omega, by omega⟩
  rw [hcr] at hp ⊢
  rw [Lib.atoiAll_plain c r h43 h45, hp, Lib.signless, if_neg (by omega)]
theorem itoa_nat (u : Nat) : Lib.itoa (u : Int) = Lib.decDigits u := by unfold Lib.itoa; rw [if_neg (by omega)]; rfl
theorem numOk_eq {most : Nat} (hm : most < 1844674407370955162) (l : List UInt8) : numOk most l = (numL most l).map fun (v : Nat) => (v : Int) := by
  cases h : numL most l with
  | some v =>
    obtain ⟨h1, h2⟩ := numL_inv h
    have ha : Lib.atoiAll l = .ok (v : Int) := by rw [← h1]; exact atoi_dec (by omega)
    have e1 : atoiOk l = true := by unfold atoiOk; rw [ha]
    have e2 : atoiVal l = (v : Int) := by unfold atoiVal; rw [ha]
    unfold numOk
    rw [if_pos ⟨e1, by omega, by omega, by rw [e2, itoa_nat]; exact h1⟩, e2]; rfl
  | none =>
    unfold numOk
    rw [if_neg]; · rfl
    rintro ⟨_, h1, h2, h3⟩
    obtain ⟨u, hu⟩ : ∃ u : Nat, atoiVal l = (u : Int) := ⟨(atoiVal l).toNat, by omega⟩
    rw [hu, itoa_nat] at h3
    have := numL_dec (most := most) (u := u) (by omega)
    rw [h3, h] at this
    cases this
theorem takeNum_eq (l : List UInt8) : takeNum l = (numL 2147483647 l).map fun (v : Nat) => (v : Int) := by
  have := numOk_eq (most := 2147483647) (by decide) l
  rw [← this]; rfl
end Go.Proofs.YtlinnmllbbmnpaaDoor
