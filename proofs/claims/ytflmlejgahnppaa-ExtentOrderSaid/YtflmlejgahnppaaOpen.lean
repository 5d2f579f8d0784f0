/- A slice of extents that an argument is: what its cells read, and how long it may be. -/
import Derived.Test.YtflmlejgahnppaaMath
import Derived.WalkKit
import Derived.ProofKit
import Derived.OpenShut
import Derived.ChangeOld
import Derived.Below
import Derived.SizedLaws
import Derived.Deep.SlicePairs
import Derived.Lib.SmallJoins
namespace Go.Proofs.Ytflmlejgahnppaa.PExt
open Go.ChangeShapes Go.WideShapes Go.RowKit Go.Proofs.YtflmlejgahnppaaW.PrintWords Go.Proofs.YtflmlejgahnppaaW.PrintLast Go.Proofs.YtflmlejgahnppaaW.PrintMore

theorem in64_wf {n : Int} (h : (Lit.int .i64 n).wf = true) : In64 n := by
  have h1 : (decide ((-9223372036854775808 : Int) ≤ n) && decide (n ≤ (9223372036854775807 : Int))) = true := h
  simpa [In64] using h1

theorem open_row {H : Type} {enc : TypeId × Value → H} {W : World} {base : Nat} {spare : Nat → Bool} {held : Bool} {a : Option Addr} {len cap : Nat} {d : DataW H} {ps : List MemPlace} {ts : List TypeId} {ds : List (DataW H)} {j : Nat}
    (hsz : (DataW.weightsEach Try.prog ts ds).all (· ≤ reachBytes) = true) (ht : ts[j]? = some 24) (hd : ds[j]? = some d) (h : DataW.Trod enc Try.prog W base spare held 24 (.slice a len cap) d ps) :
    len * 16 ≤ 140737488351232 ∧ len ≤ cap ∧ ∃ xs : List S23, xs.length = len ∧ Kd.C k23 W a len xs ∧ Fine xs := by
  obtain ⟨fuel, hf⟩ := h
  rcases Go.Deep.open_slice_pairs Try.underlying24 Try.underlying23 (by kernel_rfl) rfl rfl (by kernel_rfl) (by kernel_rfl) hf with ⟨hcs, _⟩ | ⟨x, l, c, m, n, V0, V1, D0, D1, P0, P1, hcs, _, hl, hm, hz, hx, hcell⟩
  · simp [Value.cells] at hcs
    obtain ⟨rfl, rfl, rfl⟩ := hcs
    exact ⟨by simp, by simp, [], rfl, ⟨rfl, by omega, fun h => by omega⟩, fun _ hx => by cases hx⟩
  · simp [Value.cells] at hcs
    obtain ⟨rfl, rfl, rfl⟩ := hcs
    obtain ⟨hx, _⟩ := Prod.mk.inj hx
    subst hx
    have z := sized_slice hsz ht hd Try.underlying24
    rw [show Try.prog.bytesOf 23 = 16 from by kernel_rfl] at z
    have hb : len * 16 ≤ 140737488351232 := by
      have : reachBytes = 140737488351232 := by decide
      simp only [List.length_map, List.length_range] at z
      omega
    have hlm : len ≤ m := by rw [hz]; split <;> omega
    have hv : ∀ i, i < len → ∃ y : S23, In64 y.f0 ∧ In64 y.f1 ∧ W.cell? (x.add (i * 2)) = some (.int .i64 y.f0) ∧ W.cell? (x.add (i * 2 + 1)) = some (.int .i64 y.f1) := by
      intro i hi
      obtain ⟨h0, h1, h2, h3⟩ := hcell i (by omega)
      obtain ⟨n0, e0, _, w0⟩ := DataW.trod_int Try.underlying3 h2
      obtain ⟨n1, e1, _, w1⟩ := DataW.trod_int Try.underlying3 h3
      refine ⟨⟨n0, n1⟩, in64_wf w0, in64_wf w1, ?_, ?_⟩
      · rw [h0]; simpa using e0
      · rw [h1]; simpa using e1
    have : ∃ f : Nat → S23, ∀ i, i < len → In64 (f i).f0 ∧ In64 (f i).f1 ∧ W.cell? (x.add (i * 2)) = some (.int .i64 (f i).f0) ∧ W.cell? (x.add (i * 2 + 1)) = some (.int .i64 (f i).f1) :=
      ⟨fun i => if h : i < len then Classical.choose (hv i h) else ⟨0, 0⟩, fun i hi => by simp only [hi, dite_true]; exact Classical.choose_spec (hv i hi)⟩
    obtain ⟨f, hf⟩ := this
    refine ⟨hb, hl, (List.range len).map f, by simp, ⟨by simp, by unfold maxLen at hm; omega, fun _ => ⟨x, rfl, ?_⟩⟩, ?_⟩
    · intro j p hj
      obtain ⟨hj1, hj2⟩ : j < len ∧ f j = p := by
        rw [List.getElem?_map] at hj
        by_cases hjl : j < len
        · rw [List.getElem?_range hjl] at hj; exact ⟨hjl, by simpa using hj⟩
        · rw [List.getElem?_eq_none (by simp; omega)] at hj; simp at hj
      subst hj2
      refine ⟨[.int .i64 (f j).f0, .int .i64 (f j).f1], rfl, k23_mk _ _, ?_⟩
      intro i u hi
      obtain ⟨_, _, c0, c1⟩ := hf j hj1
      match i, hi with
      | 0, hi => simp at hi; subst hi; exact c0
      | 1, hi => simp at hi; subst hi; exact c1
      | i + 2, hi => simp at hi
    · intro y hy
      obtain ⟨i, hi, rfl⟩ := List.mem_map.1 hy
      have := hf i (List.mem_range.1 hi)
      exact ⟨this.1, this.2.1⟩
end Go.Proofs.Ytflmlejgahnppaa.PExt
