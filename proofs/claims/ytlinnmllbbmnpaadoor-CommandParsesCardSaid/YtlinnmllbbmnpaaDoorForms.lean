/- The table of forms: the map that the call makes, and what a look into it tells. -/
import Derived.Test.YtlinnmllbbmnpaaDoorTake
import Derived.Maps.OwnSet
import Derived.StringKeys
import Derived.Maps.StringElems
namespace Go.Proofs.YtlinnmllbbmnpaaDoor
open Go.RowKit Go.Maps

def formRows : List (List UInt8 × List UInt8) := [([114, 101, 97, 100], [105, 97, 110]), ([119, 114, 105, 116, 101], [105, 97, 100]), ([99, 114, 101, 97, 116, 101], [110]), ([100, 101, 108, 101, 116, 101], [105]), ([109, 101, 114, 103, 101], [105]), ([115, 116, 101, 112], [])]
abbrev DU := DataW Unit
noncomputable def putAll : DU → List (List UInt8 × List UInt8) → DU
  | D, [] => D
  | D, p :: r => putAll (D.put (.string p.1) (.lit (.string p.2))) r
noncomputable def formD : DU := putAll (.map []) formRows
noncomputable def RF : Value → Option (DU × List MemPlace) := plainElem Tryd.prog 9

theorem keyF : Keyed Tryd.prog 9 := string_keyed Tryd.underlying9
set_option maxHeartbeats 4000000 in
set_option maxRecDepth 1000000 in
theorem forms_calls (w : World) :
    Calls Tryd.prog 10 #[] w fun e w' => ∃ b, e = .returned (.map (some b)) ∧ w'.ownsMap Tryd.prog 9 RF b 6 formD ∧ Below w.heap.size w w' := by
  have hmm : (Instr.makeMap 33 none).run Tryd.prog w = .ok (.map (some w.heap.size)) (w.alloc (.map #[] 0)) := run_makeMap 33 w
  have o0 : (w.alloc (.map #[] 0)).ownsMap Tryd.prog 9 RF w.heap.size 0 (.map []) := World.ownsMap_made _ _ _ _
  have b0 : Below w.heap.size w (w.alloc (.map #[] 0)) := (Below.refl _ w).alloc (Nat.le_refl _) _
  generalize w.alloc (.map #[] 0) = w0 at o0 b0 hmm
  have up : ∀ (W : World) (n : Nat) (D : DU) (key val : ByteArray), n < 6 → key.size ≤ 6 → val.size ≤ 6 → W.ownsMap Tryd.prog 9 RF w.heap.size n D → Below w.heap.size w W →
      ∃ W', (Instr.mapUpdate 33 (.map (some w.heap.size)) (.string key) (.string val)).run Tryd.prog W = .ok () W' ∧ W'.ownsMap Tryd.prog 9 RF w.heap.size (n + 1) (D.put (.string key.data.toList) (.lit (.string val.data.toList))) ∧ Below w.heap.size w W' := by
    intro W n D key val hn hk hv ho hb
    obtain ⟨W', h1, h2, h3⟩ := ho.update keyF Tryd.underlying33 (by unfold maxLen; omega) (key := .string key) (val := .string val) (Go.WideMaps.keyOf_string_mk (s := key) Tryd.underlying9 (by unfold maxLen; omega)) (plainElem_string (s := val) Tryd.underlying9 (by unfold maxLen; omega))
    exact ⟨W', h1, h2, hb.grown h3 hb.size (fun k hk => by cases hk; exact Nat.le_refl _)⟩
  obtain ⟨w1, h1, o1, b1⟩ := up w0 0 _ ⟨#[114, 101, 97, 100]⟩ ⟨#[105, 97, 110]⟩ (by decide) (by decide) (by decide) o0 b0
  obtain ⟨w2, h2, o2, b2⟩ := up w1 1 _ ⟨#[119, 114, 105, 116, 101]⟩ ⟨#[105, 97, 100]⟩ (by decide) (by decide) (by decide) o1 b1
  obtain ⟨w3, h3, o3, b3⟩ := up w2 2 _ ⟨#[99, 114, 101, 97, 116, 101]⟩ ⟨#[110]⟩ (by decide) (by decide) (by decide) o2 b2
  obtain ⟨w4, h4, o4, b4⟩ := up w3 3 _ ⟨#[100, 101, 108, 101, 116, 101]⟩ ⟨#[105]⟩ (by decide) (by decide) (by decide) o3 b3
  obtain ⟨w5, h5, o5, b5⟩ := up w4 4 _ ⟨#[109, 101, 114, 103, 101]⟩ ⟨#[105]⟩ (by decide) (by decide) (by decide) o4 b4
  obtain ⟨w6, h6, o6, b6⟩ := up w5 5 _ ⟨#[115, 116, 101, 112]⟩ ⟨#[]⟩ (by decide) (by decide) (by decide) o5 b5
  clear up o0 o1 o2 o3 o4 o5 b0 b1 b2 b3 b4 b5
  go_enter Tryd.func10, Tryd.ntmps10
  go_wp2
  go_ret
  exact ⟨_, rfl, o6, b6⟩
def formOf (l : List UInt8) : Option (List UInt8) := (formRows.find? (fun p => p.1 == l)).map (·.2)
theorem formD_look (l : List UInt8) : has formD (.string l) = (formOf l).isSome ∧ formD.atKey (.string l) (.lit (.string [])) = .lit (.string ((formOf l).getD [])) := by
  by_cases h1 : l = [114, 101, 97, 100]
  · subst h1; exact ⟨rfl, rfl⟩
  by_cases h2 : l = [119, 114, 105, 116, 101]
  · subst h2; exact ⟨rfl, rfl⟩
  by_cases h3 : l = [99, 114, 101, 97, 116, 101]
  · subst h3; exact ⟨rfl, rfl⟩
  by_cases h4 : l = [100, 101, 108, 101, 116, 101]
  · subst h4; exact ⟨rfl, rfl⟩
  by_cases h5 : l = [109, 101, 114, 103, 101]
  · subst h5; exact ⟨rfl, rfl⟩
  by_cases h6 : l = [115, 116, 101, 112]
  · subst h6; exact ⟨rfl, rfl⟩
  have e0 : formOf l = none := by
    unfold formOf formRows
    simp [Ne.symm h1, Ne.symm h2, Ne.symm h3, Ne.symm h4, Ne.symm h5, Ne.symm h6]
  have e1 : formD = .map [(.string [99, 114, 101, 97, 116, 101], .lit (.string [110])), (.string [100, 101, 108, 101, 116, 101], .lit (.string [105])), (.string [109, 101, 114, 103, 101], .lit (.string [105])), (.string [114, 101, 97, 100], .lit (.string [105, 97, 110])), (.string [115, 116, 101, 112], .lit (.string [])), (.string [119, 114, 105, 116, 101], .lit (.string [105, 97, 100]))] := rfl
  rw [e0, e1]
  simp [has, DataW.atKey, Lit.sameKey, Ne.symm h1, Ne.symm h2, Ne.symm h3, Ne.symm h4, Ne.symm h5, Ne.symm h6]
theorem forms_look {w : World} {b : Nat} (ho : w.ownsMap Tryd.prog 9 RF b 6 formD) (key : ByteArray) (hk : key.size ≤ 10000) :
    (Instr.lookup 33 (.map (some b)) (.string key) true).run Tryd.prog w = .ok (.tuple #[.string ⟨((formOf key.data.toList).getD []).toArray⟩, .bool (formOf key.data.toList).isSome]) w := by
  obtain ⟨v, ps, h1, h2⟩ := ho.look_ok keyF Tryd.underlying33 (z := .string ⟨#[]⟩) (by kernel_rfl) (zd := .lit (.string [])) (zp := []) (plainElem_string (s := ⟨#[]⟩) Tryd.underlying9 (by decide)) (key := .string key) (Go.WideMaps.keyOf_string_mk (s := key) Tryd.underlying9 (by unfold maxLen; omega))
  obtain ⟨l1, l2⟩ := formD_look key.data.toList
  rw [l2] at h2
  obtain ⟨s, rfl, hz, _⟩ := plainElem_string_inv Tryd.underlying9 h2
  rw [h1, l1]
  have e : s.data.toList = (formOf key.data.toList).getD [] := by
    have := congrArg Prod.fst hz
    simp only [DataW.lit.injEq, Lit.string.injEq] at this
    exact this.symm
  rw [← e]
end Go.Proofs.YtlinnmllbbmnpaaDoor
