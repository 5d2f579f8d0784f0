/- Figures' bytes: the loop over a string, walked; at most 2000 bytes. -/
import Derived.Test.YtlinnmllbbmnpaaDoorRuneErr
import Derived.Laws.BytesArg
namespace Go.Proofs.YtlinnmllbbmnpaaDoor
open Go.RowKit

def ixB (b : UInt8) : Int := Lib.indexByte figL b
def outAt (l : List UInt8) (i k : Nat) : Int :=
  if 2 * k + 1 < i then 16 * ixB (l.getD (2 * k) 0) + ixB (l.getD (2 * k + 1) 0) else if 2 * k < i then ixB (l.getD (2 * k) 0) else 0
def okFigs (l : List UInt8) : Bool := l.all fun b => decide (0 ≤ ixB b)
def bytesOf (l : List UInt8) : Option (List UInt8) :=
  if l = [45] then some [] else if l = [] ∨ l.length % 2 ≠ 0 then none else
  if okFigs l = true then some ((List.range (l.length / 2)).map fun k => UInt8.ofNat (outAt l l.length k).toNat) else none
def bytesVal (o : Option (List UInt8)) : Value := match o with
  | some r => .tuple #[.string ⟨r.toArray⟩, .bool true]
  | none => .tuple #[.string ⟨#[]⟩, .bool false]

theorem figIx_ok (s : ByteArray) (pos : Nat) (hp : pos < s.size) (h : ¬ figIx ((Utf8.decode s pos).1 : Int) < 0) :
    (s[pos]'hp).toNat < 128 ∧ Utf8.decode s pos = ((s[pos]'hp).toNat, 1) ∧ figIx ((Utf8.decode s pos).1 : Int) = ixB (s[pos]'hp) := by
  have hb : (s[pos]'hp).toNat < 128 := by
    by_cases hb : (s[pos]'hp).toNat < 128
    · exact hb
    · exfalso
      have := (decode_high s pos hp (by omega)).1
      unfold figIx at h
      rw [if_neg (by omega)] at h
      omega
  have hd := decode_ascii s pos hp hb
  refine ⟨hb, hd, ?_⟩
  rw [hd]
  unfold figIx ixB
  rw [if_pos (by show ((s[pos]'hp).toNat : Int) < 128; omega)]
  congr 1
  apply UInt8.toNat.inj
  simp
theorem figIx_bad (s : ByteArray) (pos : Nat) (hp : pos < s.size) (h : figIx ((Utf8.decode s pos).1 : Int) < 0) : ixB (s[pos]'hp) < 0 := by
  by_cases hb : (s[pos]'hp).toNat < 128
  · have hd := decode_ascii s pos hp hb
    rw [hd] at h
    unfold figIx at h
    rw [if_pos (by show ((s[pos]'hp).toNat : Int) < 128; omega)] at h
    have e : ((s[pos]'hp).toNat : Int).toNat.toUInt8 = s[pos]'hp := by apply UInt8.toNat.inj; simp
    rw [e] at h
    exact h
  · have : ixB (s[pos]'hp) = -1 := indexByte_none (by decide) (by omega)
    omega
theorem ixB_lt (b : UInt8) : ixB b < 16 := by
  have : ∀ i : Fin 256, ixB (UInt8.ofNat i.1) < 16 := by decide +kernel
  have h := this ⟨b.toNat, b.toNat_lt⟩
  simpa using h
theorem or16 (a b : Int) (ha : 0 ≤ a) (ha2 : a < 16) (hb : 0 ≤ b) (hb2 : b < 16) : bits BinOp.or IntKind.u8 (a * 16 % 256) (b % 256) = 16 * a + b := by
  have : ∀ i j : Fin 16, bits BinOp.or IntKind.u8 ((i.1 : Int) * 16 % 256) ((j.1 : Int) % 256) = 16 * (i.1 : Int) + (j.1 : Int) := by decide +kernel
  have h := this ⟨a.toNat, by omega⟩ ⟨b.toNat, by omega⟩
  simp only at h
  rw [show ((a.toNat : Nat) : Int) = a by omega, show ((b.toNat : Nat) : Int) = b by omega] at h
  exact h
theorem outAt_same (l : List UInt8) (i k : Nat) (h : k ≠ i / 2) : outAt l (i + 1) k = outAt l i k := by
  unfold outAt
  by_cases h1 : 2 * k + 1 < i
  · rw [if_pos (by omega), if_pos h1]
  · by_cases h2 : 2 * k < i
    · omega
    · rw [if_neg (by omega), if_neg (by omega), if_neg (by omega), if_neg (by omega)]
theorem outAt_new (l : List UInt8) (i : Nat) (hall : ∀ j, j < i → 0 ≤ ixB (l.getD j 0)) (hi : 0 ≤ ixB (l.getD i 0)) :
    bits BinOp.or IntKind.u8 (outAt l i (i / 2) * 16 % 256) (ixB (l.getD i 0) % 256) = outAt l (i + 1) (i / 2) := by
  rcases Nat.mod_two_eq_zero_or_one i with h | h
  · have e : 2 * (i / 2) = i := by omega
    have e1 : outAt l i (i / 2) = 0 := by unfold outAt; rw [if_neg (by omega), if_neg (by omega)]
    have e2 : outAt l (i + 1) (i / 2) = ixB (l.getD i 0) := by unfold outAt; rw [if_neg (by omega), if_pos (by omega), e]
    rw [e1, e2, or16 0 _ (by omega) (by omega) hi (ixB_lt _)]
    omega
  · have e : 2 * (i / 2) + 1 = i := by omega
    have e1 : outAt l i (i / 2) = ixB (l.getD (2 * (i / 2)) 0) := by unfold outAt; rw [if_neg (by omega), if_pos (by omega)]
    have e2 : outAt l (i + 1) (i / 2) = 16 * ixB (l.getD (2 * (i / 2)) 0) + ixB (l.getD i 0) := by unfold outAt; rw [if_pos (by omega), e]
    rw [e1, e2, or16 _ _ (hall _ (by omega)) (ixB_lt _) hi (ixB_lt _)]
theorem info5 : (Tryd.prog.info? 5).map (fun i => (i.zero, i.size, i.bytes)) = some (some (.int .u8 0), 1, 1) := by kernel_rfl

set_option maxHeartbeats 4000000 in
set_option maxRecDepth 1000000 in
theorem bytes_calls (s : ByteArray) (w : World) (hs : s.size ≤ 10000) :
    Calls Tryd.prog 28 #[.string s] w fun e w' => e = .returned (bytesVal (bytesOf s.data.toList)) ∧ Below w.heap.size w w' := by
  obtain ⟨i0, hi, hz0, hz1, hz2⟩ : ∃ i, Tryd.prog.info? 5 = some i ∧ i.zero = some (.int .u8 0) ∧ i.size = 1 ∧ i.bytes = 1 := by
    have h := info5
    rw [Option.map_eq_some_iff] at h
    obtain ⟨i, h1, h2⟩ := h
    simp only [Prod.mk.injEq] at h2
    exact ⟨i, h1, h2.1, h2.2.1, h2.2.2⟩
  have hmk : (Instr.makeSlice 49 (.int .i64 ((s.size : Int) / 2)) (.int .i64 ((s.size : Int) / 2))).run Tryd.prog w = .ok (.slice (some ⟨w.heap.size, 0, none⟩) (s.size / 2) (s.size / 2)) (w.alloc (.cells (madeCells #[.int .u8 0] (s.size / 2)) 5)) := by
    have := run_makeSlice (P := Tryd.prog) (w := w) 49 5 i0 (.int .u8 0) Tryd.underlying49 hi hz0 .i64 .i64 ((s.size : Int) / 2) ((s.size : Int) / 2) (by omega) (by omega) (by rw [hz1]; omega) (by rw [hz2]; omega) (by omega)
    have e : ((s.size : Int) / 2).toNat = s.size / 2 := by omega
    simpa [hz1, e, Value.cells] using this
  go_enter Tryd.func28, Tryd.ntmps28
  go_wp2
  · go_ret2
    have h : (s.toList == [45]) = true := by assumption
    rw [ByteArray.toList_eq, beq_iff_eq] at h
    refine ⟨?_, Below.refl _ _⟩
    unfold bytesOf; rw [if_pos h]; rfl
  · go_ret2
    have h : (s.toList == [45]) = false := by assumption
    have h2 : s.toList = [] := by assumption
    rw [ByteArray.toList_eq] at h h2
    refine ⟨?_, Below.refl _ _⟩
    unfold bytesOf; rw [if_neg (by rw [h2]; decide), if_pos (.inl h2)]; rfl
  · go_ret2
    have h : (s.toList == [45]) = false := by assumption
    have h2 : s.toList.isEmpty = true ∨ ((s.size : Int) % 2 != 0) = true := by assumption
    rw [ByteArray.toList_eq] at h h2
    refine ⟨?_, Below.refl _ _⟩
    unfold bytesOf; rw [if_neg (by simpa using h), if_pos (by
      rcases h2 with h2 | h2
      · exact .inl (by simpa using h2)
      · right; rw [bne_iff_ne] at h2; simp only [Array.length_toList]; show s.size % 2 ≠ 0; omega)]; rfl
  · have h : (s.toList == [45]) = false := by assumption
    have h2 : s.toList.isEmpty = false ∧ ((s.size : Int) % 2 != 0) = false := by assumption
    have hev : s.size % 2 = 0 := by have := h2.2; rw [bne_eq_false_iff_eq] at this; omega
    rw [h2.1, h2.2, Bool.or_false]
    go_loopw [] (fun wr => ∃ pos : Nat, pos ≤ s.size ∧ (∀ j, j < pos → 0 ≤ ixB (s.data.toList.getD j 0)) ∧ wr.heap[w.heap.size + 1]? = some (.stringIter s pos) ∧ Below w.heap.size w wr ∧
      (∀ k, k < s.size / 2 → wr.cell? ⟨w.heap.size, k, none⟩ = some (.int .u8 (outAt s.data.toList pos k)) ∧ wr.frozen? ⟨w.heap.size, k, none⟩ = false)) (fun wr => s.size - wr.iterPos (w.heap.size + 1))
    case atStart =>
      refine ⟨0, by omega, fun j hj => by omega, ?_, ?_, fun k hk => ?_⟩
      · have := World.iter_heap (w.alloc (.cells (madeCells #[.int .u8 0] (s.size / 2)) 5)) s 0
        simpa using this
      · exact ((Below.refl _ w).alloc (Nat.le_refl _) _).alloc (by simp) _
      · have e1 : ∀ o, ((w.alloc (.cells (madeCells #[.int .u8 0] (s.size / 2)) 5)).alloc o).cell? ⟨w.heap.size, k, none⟩ = (w.alloc (.cells (madeCells #[.int .u8 0] (s.size / 2)) 5)).cell? ⟨w.heap.size, k, none⟩ := fun o => World.cell?_alloc_lt _ _ _ (by simp)
        refine ⟨(e1 _).trans ?_, ?_⟩
        · rw [World.cell?_alloc_new]
          have e2 : outAt s.data.toList 0 k = 0 := by unfold outAt; rw [if_neg (by omega), if_neg (by omega)]
          rw [e2]
          simp [madeCells, hk, Nat.mod_one]
        · show ((w.alloc (.cells (madeCells #[.int .u8 0] (s.size / 2)) 5)).alloc (.stringIter s 0)).frozen? ⟨w.heap.size, k, none⟩ = false
          rw [World.frozen?_alloc_past _ _ _ (by simp), World.frozen?_alloc_at _ _ _ _ rfl]
    case round =>
      obtain ⟨pos, hpos, hall, hit, hbw, hcells⟩ := hrel
      have hsz : w.heap.size + 1 < wr.heap.size := (Array.getElem?_eq_some_iff.1 hit).1
      by_cases hp : pos < s.size
      · have hnx : ∀ ty, (Instr.next (.pointer (some ⟨w.heap.size + 1, 0, none⟩)) true ty).run Tryd.prog wr = _ := fun ty => Lib.run_next_any_at wr (w.heap.size + 1) s pos ty hit hp
        have hd1 := decode_le s pos
        have hit2 := Lib.iterAt_heap wr (w.heap.size + 1) s pos (pos + (Utf8.decode s pos).2) hit
        have hbw2 := Lib.below_iterAt hbw (k := w.heap.size + 1) (by omega) s (pos + (Utf8.decode s pos).2)
        go_wp2_with (go_at_call 38; refine (indexRune_calls _ _ (by omega) (by omega)).mono ?_)
        rintro e W1 ⟨rfl, b1⟩
        have hw1 : w.heap.size < (wr.iterAt (w.heap.size + 1) s (pos + (Utf8.decode s pos).2)).heap.size := by rw [Lib.iterAt_size]; omega
        have hcells2 : ∀ k, k < s.size / 2 → W1.cell? ⟨w.heap.size, k, none⟩ = some (.int .u8 (outAt s.data.toList pos k)) ∧ W1.frozen? ⟨w.heap.size, k, none⟩ = false := by
          intro k hk
          rw [b1.cell (p := ⟨w.heap.size, k, none⟩) hw1, b1.frozen (p := ⟨w.heap.size, k, none⟩) hw1, World.cell?_of_block (w := wr) (Lib.iterAt_other _ _ _ _ _ (by simp)), World.frozen?_of_block (w := wr) (Lib.iterAt_other _ _ _ _ _ (by simp))]
          exact hcells k hk
        by_cases hneg : figIx ((Utf8.decode s pos).1 : Int) < 0
        · go_wp2
          go_ret2
          refine ⟨?_, hbw2.trans (b1.mono (Nat.le_of_lt hw1))⟩
          have hbad := figIx_bad s pos hp hneg
          have hl : s.toList = s.data.toList := ByteArray.toList_eq s
          have hlen : s.data.toList.length = s.size := Array.length_toList
          rw [hl] at h h2
          unfold bytesOf
          rw [if_neg (by simpa using h), if_neg (by rw [hlen]; intro hh; rcases hh with hh | hh; · rw [hh] at h2; simp at h2
                                                    · omega), if_neg (by
            intro hh
            unfold okFigs at hh
            rw [List.all_eq_true] at hh
            have := hh (s[pos]'hp) (by
              have : s.data.toList[pos]'(by rw [hlen]; exact hp) = s[pos]'hp := rfl
              rw [← this]; exact List.getElem_mem _)
            simp only [decide_eq_true_eq] at this
            omega)]
          rfl
        · obtain ⟨hb, hdec, hix⟩ := figIx_ok s pos hp hneg
          have hc1 := (hcells2 (pos / 2) (by omega)).1
          have hf1 := (hcells2 (pos / 2) (by omega)).2
          have hb3 : 0 ≤ ((pos : Int) / 2) ∧ ((pos : Int) / 2) < ((s.size / 2 : Nat) : Int) := by omega
          have hlen : s.data.toList.length = s.size := Array.length_toList
          have hgd : s.data.toList.getD pos 0 = s[pos]'hp := by
            rw [List.getD_eq_getElem?_getD, List.getElem?_eq_getElem (by rw [hlen]; exact hp)]
            rfl
          have hng : 0 ≤ ixB (s[pos]'hp) := by rw [hix] at hneg; omega
          have hng2 : ¬ ixB (s[pos]'hp) < 0 := by omega
          have hix0 : 0 ≤ ixB (s.data.toList.getD pos 0) := by rw [hgd]; exact hng
          have hd2 : (Utf8.decode s pos).2 = 1 := by rw [hdec]
          rw [hd2] at b1 hit2 hbw2 hw1
          rw [hdec] at hix
          go_wp2
          have hval : bits BinOp.or IntKind.u8 (outAt s.data.toList pos (pos / 2) * 16 % 256) (ixB (s[pos]'hp) % 256) = outAt s.data.toList (pos + 1) (pos / 2) := by
            rw [← hgd]; exact outAt_new _ _ hall hix0
          rw [hval]
          have hit3 := (Below.heap_setCell W1 ⟨w.heap.size, pos / 2, none⟩ (.int .u8 (outAt s.data.toList (pos + 1) (pos / 2))) (w.heap.size + 1) (by simp)).trans ((b1.block (w.heap.size + 1) (by rw [Lib.iterAt_size]; exact hsz)).trans hit2)
          refine ⟨⟨pos + 1, by omega, fun j hj => ?_, hit3, ?_, fun k hk => ?_⟩, ?_⟩
          · by_cases hjp : j = pos
            · subst hjp; exact hix0
            · exact hall j (by omega)
          · have hb2 : Below w.heap.size w W1 := hbw2.trans (b1.mono (Nat.le_of_lt hw1))
            exact hb2.setCell (p := ⟨w.heap.size, pos / 2, none⟩) (Nat.le_refl _) _
          · obtain ⟨hck, hfk⟩ := hcells2 k hk
            refine ⟨?_, by rw [World.frozen?_setCell]; exact hfk⟩
            by_cases hkp : k = pos / 2
            · subst hkp
              exact World.cell?_setCell_same _ _ _ hck
            · rw [World.cell?_setCell_other _ _ _ _ (by simp only [ne_eq, Addr.mk.injEq]; omega), outAt_same _ _ _ hkp]
              exact hck
          · simp only [World.iterPos, hit3, hit]
            omega
      · have hnx : ∀ ty, (Instr.next (.pointer (some ⟨w.heap.size + 1, 0, none⟩)) true ty).run Tryd.prog wr = _ := fun ty => Lib.run_next_end_at wr (w.heap.size + 1) s pos ty hit hp
        have hpe : pos = s.size := by omega
        have hcv := run_convert_bytes_arg (P := Tryd.prog) (w := wr) 49 5 Tryd.underlying49 Tryd.underlying5 w.heap.size 0 (s.size / 2) (s.size / 2) ((List.range (s.size / 2)).map (outAt s.data.toList pos)) (by simp) (fun k hk => by
          rw [Nat.zero_add, (hcells k hk).1, List.getD_eq_getElem?_getD, List.getElem?_map, List.getElem?_range hk]; rfl) 9 Tryd.underlying9
        go_wp2
        go_ret2
        refine ⟨?_, hbw⟩
        have hl : s.toList = s.data.toList := ByteArray.toList_eq s
        have hlen : s.data.toList.length = s.size := Array.length_toList
        rw [hl] at h h2
        unfold bytesOf
        rw [if_neg (by simpa using h), if_neg (by rw [hlen]; intro hh; rcases hh with hh | hh; · rw [hh] at h2; simp at h2
                                                  · omega), if_pos (by
          unfold okFigs
          rw [List.all_eq_true]
          intro b hb
          obtain ⟨j, hj, rfl⟩ := List.mem_iff_getElem.1 hb
          have := hall j (by omega)
          rw [List.getD_eq_getElem?_getD, List.getElem?_eq_getElem hj] at this
          simpa using this)]
        rw [hlen, ← hpe]
        have hst : strOfNums (List.map (outAt s.data.toList pos) (List.range (pos / 2))) = ⟨((List.range (pos / 2)).map fun k => UInt8.ofNat (outAt s.data.toList pos k).toNat).toArray⟩ := by
          unfold strOfNums; rw [List.map_map]; rfl
        show Ending.returned (.tuple #[.string (strOfNums (List.map (outAt s.data.toList pos) (List.range (pos / 2)))), .bool true]) = Ending.returned (.tuple #[.string ⟨((List.range (pos / 2)).map fun k => UInt8.ofNat (outAt s.data.toList pos k).toNat).toArray⟩, .bool true])
        rw [hst]
end Go.Proofs.YtlinnmllbbmnpaaDoor
