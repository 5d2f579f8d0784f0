/- What the document computes is what the program computes: a word taken, a text's command. -/
import Derived.Test.YtlinnmllbbmnpaaDoorPlainB
namespace Go.Proofs.YtlinnmllbbmnpaaDoor.PCmd
open Go.RowKit Go.Proofs.YtlinnmllbbmnpaaDoorW.PrintWords Go.Proofs.YtlinnmllbbmnpaaDoorW.PrintLast Go.Proofs.YtlinnmllbbmnpaaDoorW.PrintMore

def takeR (o : Option Cmd) (r : ByteArray × Int × Int × Int × ByteArray × Bool) : Prop := match o with
  | some c => r = (c.op, c.id, c.at_, c.n, c.data, true)
  | none => r.2.2.2.2.2 = false
theorem take_ev (c : Cmd) (letter : Int) (v : ByteArray) (hs : v.size ≤ 10000) (hl : letter = 105 ∨ letter = 97 ∨ letter = 110 ∨ letter = 100) :
    ∃ r, Ev (fun k => oakumref21_take.f k c.op c.id c.at_ c.n c.data letter v) r ∧ takeR (takeOk letter v.data.toList c) r := by
  unfold oakumref21_take.f
  by_cases h100 : letter = 100
  · subst h100
    simp only [if_pos]
    refine ⟨_, Ev.bind (Bytes_ev v hs) (Ev.now _), ?_⟩
    unfold takeOk
    rw [if_pos rfl]
    cases bytesOf v.data.toList <;> rfl
  · simp only [if_neg h100]
    unfold takeOk
    rw [if_neg h100, takeNum_eq]
    have hN := Number_ev v hs 2147483647 (by decide)
    rcases hl with rfl | rfl | rfl | rfl
    · refine ⟨_, Ev.bind hN (by simp only [if_pos]; exact Ev.now _), ?_⟩
      cases numL 2147483647 v.data.toList <;> rfl
    · refine ⟨_, Ev.bind hN (by simp only [if_neg (by decide : ¬ (97 : Int) = 105), if_pos]; exact Ev.now _), ?_⟩
      cases numL 2147483647 v.data.toList <;> rfl
    · refine ⟨_, Ev.bind hN (by simp only [if_neg (by decide : ¬ (110 : Int) = 105), if_neg (by decide : ¬ (110 : Int) = 97)]; exact Ev.now _), ?_⟩
      cases numL 2147483647 v.data.toList <;> rfl
    · exact absurd rfl h100

def parseR (o : Option Cmd) : ByteArray × Int × Int × Int × ByteArray × Int := match o with
  | some c => (c.op, c.id, c.at_, c.n, c.data, 0)
  | none => (⟨#[]⟩, 0, 0, 0, ⟨#[]⟩, 32)
theorem Parse_l0 (v0 : ByteArray) (vs : List ByteArray) (hvs : ∀ v ∈ vs, v.size ≤ 10000) (f : List UInt8) (hf3 : f.length ≤ 3) (hfx : ∀ x ∈ f, x = 105 ∨ x = 97 ∨ x = 110 ∨ x = 100) (hlen : vs.length = f.length) :
    ∀ (d pos : Nat) (c : Cmd), d + pos = f.length → Ev (fun k => oakumref21_Parse.l0 k (v0 :: vs) ⟨f.toArray⟩ (pos : Int) c.op c.id c.at_ c.n c.data) (parseR (takeAll (f.drop pos) (vs.drop pos) c)) := by
  have hFs : (⟨f.toArray⟩ : ByteArray).size = f.length := by simp [ByteArray.size]
  intro d
  induction d with
  | zero =>
    intro pos c hd
    have e : f.drop pos = [] := List.drop_of_length_le (by omega)
    rw [e]
    exact Ev.step (f := fun _ => some (c.op, c.id, c.at_, c.n, c.data, 0)) (fun k => by rw [oakumref21_Parse.l0, if_neg (by omega)]) (Ev.now _)
  | succ d ih =>
    intro pos c hd
    have hp : pos < f.length := by omega
    have hpv : pos < vs.length := by omega
    have hbt : bt (⟨f.toArray⟩ : ByteArray) (pos : Int) = ((f[pos]'hp).toNat : Int) := bt_nat ⟨f.toArray⟩ pos (by omega)
    have hrd : rdOf ByteArray.empty (v0 :: vs) ((pos + 1 : Nat) : Int) = vs[pos]'hpv := by
      unfold rdOf; rw [Int.toNat_natCast]; simp [hpv]
    have w1 : wrap64 (1 + (pos : Int)) = ((pos + 1 : Nat) : Int) := by rw [w64 (by omega) (by omega)]; omega
    have w2 : wrap64 ((pos : Int) + 1) = ((pos + 1 : Nat) : Int) := by rw [w64 (by omega) (by omega)]; omega
    have hlet : ((f[pos]'hp).toNat : Int) = 105 ∨ ((f[pos]'hp).toNat : Int) = 97 ∨ ((f[pos]'hp).toNat : Int) = 110 ∨ ((f[pos]'hp).toNat : Int) = 100 := by
      rcases hfx _ (List.getElem_mem hp) with hx | hx | hx | hx <;> rw [hx] <;> decide
    obtain ⟨r, hr, ht⟩ := take_ev c ((f[pos]'hp).toNat : Int) (vs[pos]'hpv) (hvs _ (List.getElem_mem hpv)) hlet
    rw [List.drop_eq_getElem_cons hp, List.drop_eq_getElem_cons hpv, takeAll]
    refine Ev.step (f := fun k => (oakumref21_take.f k c.op c.id c.at_ c.n c.data ((f[pos]'hp).toNat : Int) (vs[pos]'hpv)).bind fun b => if b.2.2.2.2.2 = true then oakumref21_Parse.l0 k (v0 :: vs) ⟨f.toArray⟩ ((pos + 1 : Nat) : Int) b.1 b.2.1 b.2.2.1 b.2.2.2.1 b.2.2.2.2.1 else some ((⟨#[]⟩ : ByteArray), 0, 0, 0, (⟨#[]⟩ : ByteArray), 32)) (fun k => ?_) ?_
    · rw [oakumref21_Parse.l0, if_pos (by omega), if_pos (by omega), w1, if_pos (by omega), if_pos (by simp; omega), hbt, hrd, w2]
    · refine Ev.bind hr ?_
      cases h : takeOk ((f[pos]'hp).toNat : Int) (vs[pos]'hpv).data.toList c with
      | none =>
        rw [h] at ht
        have hz : r.2.2.2.2.2 = false := ht
        simp only [hz]
        exact Ev.now _
      | some c' =>
        rw [h] at ht
        have hz : r = (c'.op, c'.id, c'.at_, c'.n, c'.data, true) := ht
        subst hz
        simp only [if_pos]
        exact ih (pos + 1) c' (by omega)
theorem Parse_ev (s : ByteArray) (hs : s.size ≤ 10000) : Ev (fun k => oakumref21_Parse.f k s) (parseR (parseOf s)) := by
  have hWl : ∃ v0 vs, wordsB s = v0 :: vs := by
    have := wordsB_data s
    cases h : wordsB s with
    | nil =>
      have h2 : (wordsB s).length = Lib.countB s ⟨#[32]⟩ + 1 := Lib.splitB_all _ (by decide) 0 _ s rfl
      rw [h] at h2; simp at h2
    | cons a b => exact ⟨a, b, rfl⟩
  have hWs : ∀ v ∈ wordsB s, v.size ≤ 10000 := fun v hv => by have := splitB_size _ _ _ _ hv; omega
  have hWn : (wordsB s).length ≤ 10001 := by
    have h2 : (wordsB s).length = Lib.countB s ⟨#[32]⟩ + 1 := Lib.splitB_all _ (by decide) 0 _ s rfl
    have h3 := Lib.countB_le ⟨#[32]⟩ (by decide) s.size s (Nat.le_refl _)
    omega
  unfold oakumref21_Parse.f
  refine Ev.bind (Words_ev s hs) ?_
  obtain ⟨v0, vs, hW⟩ := hWl
  unfold parseOf
  rw [hW] at hWs hWn ⊢
  simp only
  have hrd : rdOf ByteArray.empty (v0 :: vs) 0 = v0 := rfl
  have hl0 : (0 : Int) < (((v0 :: vs).length : Nat) : Int) := by simp
  simp only [if_pos hl0, hrd]
  refine Ev.bind (form_ev v0) ?_
  have hno : Ev (fun k => oakumref21_Parse.j0 k (v0 :: vs) (⟨((formOf v0.data.toList).getD []).toArray⟩) true) (parseR none) := Ev.step (f := fun _ => _) (fun k => rfl) (Ev.now _)
  cases hF : formOf v0.data.toList with
  | none =>
    rw [hF] at hno
    simp only [Option.isSome_none, Option.bind_none]
    exact hno
  | some f =>
    obtain ⟨hf3, hfx⟩ := formOf_some hF
    rw [hF] at hno
    simp only [Option.isSome_some, if_pos, Option.getD_some, Option.bind_some] at hno ⊢
    have hFs : (⟨f.toArray⟩ : ByteArray).size = f.length := by simp [ByteArray.size]
    have hw : wrap64 (1 + ((⟨f.toArray⟩ : ByteArray).size : Int)) = (f.length : Int) + 1 := by rw [hFs, w64 (by omega) (by omega)]; omega
    have hvl : (((v0 :: vs).length : Nat) : Int) = (vs.length : Int) + 1 := by simp
    rw [hw, hvl]
    by_cases hlen : vs.length = f.length
    · rw [if_pos hlen]
      have e : ((vs.length : Int) + 1 != (f.length : Int) + 1) = false := by rw [bne_eq_false_iff_eq]; omega
      rw [e]
      refine Ev.step (f := fun k => oakumref21_Parse.l0 k (v0 :: vs) ⟨f.toArray⟩ 0 v0 0 0 0 ⟨#[]⟩) (fun k => by rw [oakumref21_Parse.j0, if_neg (by simp), if_pos hl0, hrd]) ?_
      have := Parse_l0 v0 vs (fun v hv => hWs v (List.mem_cons_of_mem _ hv)) f hf3 hfx hlen f.length 0 { noCmd with op := v0 } (by omega)
      rw [List.drop_zero, List.drop_zero] at this
      exact this
    · rw [if_neg hlen]
      have e : ((vs.length : Int) + 1 != (f.length : Int) + 1) = true := by rw [bne_iff_ne]; omega
      rw [e]
      exact hno
end Go.Proofs.YtlinnmllbbmnpaaDoor.PCmd
