/- The document's figures of bytes: walked; at most 10000 bytes. -/
import Derived.Test.YtlinnmllbbmnpaaDoorPCmdx0
import Derived.Test.YtlinnmllbbmnpaaDoorHex
import Derived.BigQuiet
import Derived.Lib.Hide
import Derived.Deep.QuietTactic
namespace Go.Proofs.YtlinnmllbbmnpaaDoor.PCmd
open Go.RowKit Go.Proofs.YtlinnmllbbmnpaaDoorW.PrintWords Go.Proofs.YtlinnmllbbmnpaaDoorW.PrintLast Go.Proofs.YtlinnmllbbmnpaaDoorW.PrintMore

def oakumref21_Hex.f (a0 : ByteArray) : Option ByteArray := if a0.size ≤ 10000 then some ⟨(hexOf a0.data.toList).toArray⟩ else none

theorem fig_cut (F : ByteArray) (hF : F = ⟨#[48, 49, 50, 51, 52, 53, 54, 55, 56, 57, 97, 98, 99, 100, 101, 102]⟩) (i : Nat) (h : i < 16) : F.extract i (i + 1) = ⟨#[figL.getD i 0]⟩ := by
  subst hF
  have : ∀ i : Fin 16, ((⟨#[48, 49, 50, 51, 52, 53, 54, 55, 56, 57, 97, 98, 99, 100, 101, 102]⟩ : ByteArray).extract i.1 (i.1 + 1)) = ⟨#[figL.getD i.1 0]⟩ := by decide
  exact this ⟨i, h⟩
theorem u8w {x : Int} (h0 : 0 ≤ x) (h1 : x < 256) : IntKind.u8.wrap x = x := by
  unfold IntKind.wrap; simp [IntKind.signed, IntKind.bits]; omega
set_option maxHeartbeats 4000000 in
set_option maxRecDepth 1000000 in
theorem oakumref21_Hex.calls (a0 : ByteArray) (r : ByteArray) (w : World) (h : oakumref21_Hex.f a0 = some r) :
    Calls Tryd.prog 17 #[.string a0] w fun e w' => e = .returned (.string r) ∧ Drawn0 w w' := by
  unfold oakumref21_Hex.f at h
  split at h
  · rename_i hs
    obtain rfl := Option.some.inj h
    clear h
    obtain ⟨F, hF⟩ : ∃ F : ByteArray, F = ⟨#[48, 49, 50, 51, 52, 53, 54, 55, 56, 57, 97, 98, 99, 100, 101, 102]⟩ := ⟨_, rfl⟩
    have hFs : F.size = 16 := by rw [hF]; rfl
    have HF := Lib.hid hF
    have hF2 := hF
    clear hF
    go_enter Tryd.func17, Tryd.ntmps17
    rw [← hF2]
    clear hF2
    go_wp2
    · go_ret
      have h : a0.toList.isEmpty = true := by assumption
      rw [ByteArray.toList_eq, List.isEmpty_iff] at h
      rw [h]
      exact ⟨rfl, Drawn0.refl _⟩
    · have hne : a0.toList.isEmpty = false := by assumption
      rw [hne]
      rw [ByteArray.toList_eq] at hne
      go_loopw [4, 5] (fun v4 v5 wr => ∃ (i : Nat) (acc : ByteArray), v5 = .int .i64 (i : Int) ∧ v4 = .string acc ∧ i ≤ a0.size ∧ Drawn0 w wr ∧ acc.data.toList = hexL (a0.data.toList.take i) ∧ acc.size = 2 * i) (fun _ v5 _ => a0.size - (Lib.intOf v5).toNat)
      case atStart =>
        exact ⟨0, ⟨#[]⟩, rfl, rfl, by omega, Drawn0.refl _, rfl, rfl⟩
      case round =>
        obtain ⟨i, acc, rfl, rfl, hi, hbw, hacc, hlen⟩ := hrel
        by_cases hp : i < a0.size
        · have hb0 : (a0[i]'hp).toNat < 256 := (a0[i]'hp).toNat_lt
          obtain ⟨P, hP⟩ : ∃ P : Nat, (a0[i]'hp).toNat / 16 = P := ⟨_, rfl⟩
          obtain ⟨R, hR⟩ : ∃ R : Nat, (a0[i]'hp).toNat % 16 = R := ⟨_, rfl⟩
          have hP16 : P < 16 := by omega
          have hR16 : R < 16 := by omega
          have e1 : IntKind.u8.wrap (((a0[i]'hp).toNat : Int) / 16) = (P : Int) := by rw [u8w (by omega) (by omega)]; omega
          have e2 : IntKind.u8.wrap ((P : Int) + 1) = (P : Int) + 1 := u8w (by omega) (by omega)
          have e3 : IntKind.u8.wrap (((a0[i]'hp).toNat : Int) % 16) = (R : Int) := by rw [u8w (by omega) (by omega)]; omega
          have e4 : IntKind.u8.wrap ((R : Int) + 1) = (R : Int) + 1 := u8w (by omega) (by omega)
          have e5 : Int.tmod ((a0[i]'hp).toNat : Int) 16 = (R : Int) := by rw [Int.tmod_eq_emod_of_nonneg (by omega)]; omega
          have hPl : (P : Int) + 1 ≤ (F.size : Int) := by omega
          have hRl : (R : Int) + 1 ≤ (F.size : Int) := by omega
          have hPm : (P : Int) ≤ (P : Int) + 1 := by omega
          have hRm : (R : Int) ≤ (R : Int) + 1 := by omega
          have hP0 : 0 ≤ (P : Int) + 1 := by omega
          have hR0 : 0 ≤ (R : Int) + 1 := by omega
          have tP : ((P : Int) + 1).toNat = P + 1 := by omega
          have tR : ((R : Int) + 1).toNat = R + 1 := by omega
          have HP := Lib.hid hP
          have HR := Lib.hid hR
          have HL := Lib.hid hlen
          have HA := Lib.hid hacc
          have HS := Lib.hid hFs
          obtain ⟨A, hA⟩ : ∃ A : UInt8, figL.getD P 0 = A := ⟨_, rfl⟩
          obtain ⟨B, hB⟩ : ∃ B : UInt8, figL.getD R 0 = B := ⟨_, rfl⟩
          have x1 : F.extract P (P + 1) = ⟨#[A]⟩ := by rw [fig_cut F HF.out P hP16, hA]
          have x2 : F.extract R (R + 1) = ⟨#[B]⟩ := by rw [fig_cut F HF.out R hR16, hB]
          have n1 : (9223372036854775807 < acc.size + (⟨#[A]⟩ : ByteArray).size) = False := eq_false (by show ¬ _ < acc.size + 1; omega)
          have n2 : (9223372036854775807 < (acc ++ (⟨#[A]⟩ : ByteArray)).size + (⟨#[B]⟩ : ByteArray).size) = False := eq_false (by rw [ByteArray.size_append]; show ¬ _ < acc.size + 1 + 1; omega)
          have n3 : (9223372036854775807 < acc.size + 1) = False := eq_false (by omega)
          have n4 : (9223372036854775807 < acc.size + 1 + 1) = False := eq_false (by omega)
          have HAA := Lib.hid hA
          have HBB := Lib.hid hB
          clear hA hB
          clear hP hR hlen hacc hFs hP16 hR16 hb0
          go_wp2
          go_quiet (fail)
          clear n1 n2 n3 n4 e1 e2 e3 e4 e5 tP tR x1 x2
          go_wp2
          go_roundw
          case rel =>
            refine ⟨i + 1, _, by simp, rfl, by omega, by (repeat (first | exact hbw | apply Drawn0.step)), ?_, ?_⟩
            · have h1 : (acc ++ ⟨#[A]⟩ ++ ⟨#[B]⟩ : ByteArray).data.toList = acc.data.toList ++ [A] ++ [B] := by simp
              rw [h1, HA.out]
              have hlt : i < a0.data.toList.length := by simpa using hp
              rw [List.take_add_one, hexL_append, List.getElem?_eq_getElem hlt]
              have e6 : hexOne (a0[i]'hp) = [A, B] := by unfold hexOne; rw [HP.out, HR.out, HAA.out, HBB.out]
              have e7 : a0.data.toList[i]'hlt = a0[i]'hp := rfl
              rw [e7, Option.toList_some]
              simp only [hexL, List.flatMap_cons, List.flatMap_nil, List.append_nil, e6, List.append_assoc, List.singleton_append]
            · have h1 : (acc ++ ⟨#[A]⟩ ++ ⟨#[B]⟩ : ByteArray).size = acc.size + 1 + 1 := by rw [ByteArray.size_append, ByteArray.size_append]; rfl
              have := HL.out
              omega
          case measure =>
            simp only [Lib.intOf]
            omega
        · go_wp2
          go_ret
          refine ⟨?_, hbw⟩
          have : acc = ⟨(hexL (a0.data.toList.take i)).toArray⟩ := by rw [← hacc]
          rw [List.take_of_length_le (by simpa using hp)] at this
          subst this
          show Ending.returned (.string ⟨(hexL a0.data.toList).toArray⟩) = _
          unfold hexOf
          rw [if_neg (by intro hh; rw [hh] at hne; simp at hne)]
  · cases h
end Go.Proofs.YtlinnmllbbmnpaaDoor.PCmd
