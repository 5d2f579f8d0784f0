/- The package's variables as start-up lays them; a word taken into a command: walked, for words of at most 2000 bytes. -/
import Derived.Test.YtlinnmllbbmnpaaDoorBytes
import Derived.Lib.SmallJoins
import Derived.Test.YtlinnmllbbmnpaaDoorWWords
namespace Go.Proofs.YtlinnmllbbmnpaaDoor
open Go.RowKit Go.Proofs.YtlinnmllbbmnpaaDoorW.PrintWords

structure Vars (w : World) : Prop where
  tab : Lib.TabIs Tryd.prog w "internal/strconv.uint64pow10" .u64 Lib.pow10Tab
  max : ∃ m, w.cell? ⟨1, 0, none⟩ = some (.int .i64 m)
  syn : ∃ ev, w.cell? ⟨2, 0, none⟩ = some ev ∧ (ev = .nilIface ∨ ∃ te pe, ev = .iface te pe)
  rng : ∃ ev, w.cell? ⟨3, 0, none⟩ = some ev ∧ (ev = .nilIface ∨ ∃ te pe, ev = .iface te pe)
theorem Vars.below {B : Nat} {w w' : World} (h : Vars w) (hb : Below B w w') (hB : w.heap.size ≤ B) : Vars w' := by
  have keep : ∀ {a : Addr} {v : Value}, w.cell? a = some v → w'.cell? a = some v := fun {a v} hc => (hb.cell (Nat.lt_of_lt_of_le (World.block_lt_of_cell? w a hc) hB)).trans hc
  obtain ⟨m, hm⟩ := h.max
  obtain ⟨s, hs, hs2⟩ := h.syn
  obtain ⟨r, hr, hr2⟩ := h.rng
  exact ⟨Go.Joins.tab_stays (g := 0) (by kernel_rfl) h.tab hb hB, ⟨m, keep hm⟩, ⟨s, keep hs, hs2⟩, ⟨r, keep hr, hr2⟩⟩

theorem below_grow {w : World} (k : Nat) (os : Array Obj) : Below w.heap.size w (Go.Sort.grow (w.drewN k) os) := by
  refine ⟨rfl, rfl, rfl, ?_, ?_⟩
  · simp only [Go.Sort.grow, Array.size_append]
    exact Nat.le_add_right _ _
  · intro j hj
    simp only [Go.Sort.grow]
    rw [Array.getElem?_append_left (by exact hj)]
    rfl
theorem itoa_calls (n : Int) (h0 : -9223372036854775808 ≤ n) (h1 : n ≤ 9223372036854775807) (w : World) (hv : Vars w) :
    Calls Tryd.prog 12 #[.int .i64 n] w fun e w' => e = .returned (.string ⟨(Lib.itoa n).toArray⟩) ∧ Below w.heap.size w w' := by
  refine (Tryd.strconv_Itoa n h0 h1 w hv.tab).mono ?_
  rintro e w' ⟨rfl, k, os, rfl⟩
  exact ⟨rfl, below_grow k os⟩

def atoiVal (l : List UInt8) : Int := match Lib.atoiAll l with | .ok v => v | .range => Lib.atoiSat l | _ => 0
def atoiOk (l : List UInt8) : Bool := match Lib.atoiAll l with | .ok _ => true | _ => false
theorem atoi_calls (s : ByteArray) (hs : s.size ≤ 10000) (w : World) (hv : Vars w) :
    Calls Tryd.prog 29 #[.string s] w fun e w' => (∃ err, e = .returned (.tuple #[.int .i64 (atoiVal s.data.toList), err]) ∧ ((atoiOk s.data.toList = true ∧ err = .nilIface) ∨ (atoiOk s.data.toList = false ∧ ∃ t p, err = .iface t p))) ∧ Below w.heap.size w w' := by
  unfold atoiVal atoiOk
  cases h : Lib.atoiAll s.data.toList with
  | ok v =>
    refine (Tryd.strconv_Atoi_ok s (by omega) v h w).mono ?_
    rintro e w' ⟨rfl, hw⟩
    refine ⟨⟨_, rfl, .inl ⟨rfl, rfl⟩⟩, ?_⟩
    rcases hw with rfl | ⟨t, rfl⟩
    · exact Below.refl _ _
    · exact Go.Joins.below_bytesWorld _ _ _ _ (Nat.le_refl _)
  | range =>
    obtain ⟨ev, he, he2⟩ := hv.rng
    refine (Tryd.strconv_Atoi_range s (by omega) h ev w he he2).mono ?_
    rintro e w' ⟨N, rfl, _, _, hb⟩
    exact ⟨⟨_, rfl, .inr ⟨rfl, _, _, rfl⟩⟩, hb⟩
  | _ =>
    obtain ⟨ev, he, he2⟩ := hv.syn
    refine (Tryd.strconv_Atoi_none s (by omega) (fun v hh => by rw [hh] at h; cases h) (fun hh => by rw [hh] at h; cases h) ev w he he2).mono ?_
    rintro e w' ⟨N, rfl, _, _, hb⟩
    exact ⟨⟨_, rfl, .inr ⟨rfl, _, _, rfl⟩⟩, hb⟩

structure Cmd where
  op : ByteArray
  id : Int
  at_ : Int
  n : Int
  data : ByteArray
deriving DecidableEq
def Cmd.cells (c : Cmd) : Array Value := #[.string c.op, .int .i64 c.id, .int .i64 c.at_, .int .i64 c.n, .string c.data]
def takeNum (l : List UInt8) : Option Int := if atoiOk l = true ∧ 0 ≤ atoiVal l ∧ atoiVal l ≤ 2147483647 ∧ Lib.itoa (atoiVal l) = l then some (atoiVal l) else none
def Cmd.put (c : Cmd) (letter : Int) (v : Int) : Cmd := if letter = 105 then { c with id := v } else if letter = 97 then { c with at_ := v } else { c with n := v }
def takeOk (letter : Int) (l : List UInt8) (c : Cmd) : Option Cmd :=
  if letter = 100 then (bytesOf l).map fun d => { c with data := ⟨d.toArray⟩ } else (takeNum l).map fun v => c.put letter v

set_option maxHeartbeats 4000000 in
set_option maxRecDepth 1000000 in
theorem take_calls (b : Nat) (c : Cmd) (letter : Int) (s : ByteArray) (B : Nat) (w : World) (hs : s.size ≤ 10000) (hv : ∀ w', Below B w w' → Vars w') (hBw : B ≤ w.heap.size) (hl : letter = 105 ∨ letter = 97 ∨ letter = 110 ∨ letter = 100)
    (hbox : w.heap[b]? = some (.cells c.cells 23 (0, 0))) (hB : B ≤ b) :
    Calls Tryd.prog 19 #[.pointer (some ⟨b, 0, none⟩), .int .i32 letter, .string s] w fun e w' =>
      ((e = .returned (.bool true) ∧ ∃ c', takeOk letter s.data.toList c = some c' ∧ w'.heap[b]? = some (.cells c'.cells 23 (0, 0))) ∨ (e = .returned (.bool false) ∧ takeOk letter s.data.toList c = none)) ∧ Below B w w' ∧ ∀ k, k < w.heap.size → k ≠ b → w'.heap[k]? = w.heap[k]? := by
  have hlt : b < w.heap.size := (Array.getElem?_eq_some_iff.1 hbox).1
  rcases hl with rfl | rfl | rfl | rfl
  · go_enter Tryd.func19, Tryd.ntmps19
    go_wp2_with (go_at_call 29; refine (atoi_calls _ hs _ (hv _ (Below.refl _ _))).mono ?_)
    rintro e W1 ⟨⟨err, rfl, herr⟩, b1⟩
    have hbox1 : W1.heap[b]? = some (.cells c.cells 23 (0, 0)) := (b1.block b hlt).trans hbox
    have hc0 : W1.cell? ⟨b, 1, none⟩ = some (.int .i64 c.id) := (blk_cell hbox1 1).trans rfl
    have hf0 := blk_frozen hbox1 1
    have hb2 : Below B w (W1.setCell ⟨b, 1, none⟩ (.int .i64 (atoiVal s.data.toList))) := (b1.mono hBw).setCell (p := ⟨b, 1, none⟩) hB _
    have hbox2 : (W1.setCell ⟨b, 1, none⟩ (.int .i64 (atoiVal s.data.toList))).heap[b]? = some (.cells (c.put 105 (atoiVal s.data.toList)).cells 23 (0, 0)) := blk_put hbox1 1 _ rfl
    have hk2 : ∀ k, k < w.heap.size → k ≠ b → (W1.setCell ⟨b, 1, none⟩ (.int .i64 (atoiVal s.data.toList))).heap[k]? = w.heap[k]? := fun k hk hkb => (Below.heap_setCell W1 ⟨b, 1, none⟩ _ k hkb).trans (b1.block k hk)
    have hs2 : w.heap.size ≤ (W1.setCell ⟨b, 1, none⟩ (.int .i64 (atoiVal s.data.toList))).heap.size := hb2.size
    rcases herr with ⟨ha, rfl⟩ | ⟨ha, t, p, rfl⟩
    · go_wp2_with (first | (go_at_call 12; refine (itoa_calls _ (by omega) (by omega) _ (hv _ hb2)).mono ?_) | go_in)
      · rintro e W2 ⟨rfl, b2⟩
        go_wp2
        go_ret
        have hbW : B ≤ (W1.setCell ⟨b, 1, none⟩ (.int .i64 (atoiVal s.data.toList))).heap.size := Nat.le_trans hBw hb2.size
        refine ⟨?_, hb2.trans (b2.mono hbW), fun k hk hkb => (b2.block k (Nat.lt_of_lt_of_le hk hs2)).trans (hk2 k hk hkb)⟩
        have h0 : 0 ≤ atoiVal s.data.toList := by assumption
        have h1 : atoiVal s.data.toList ≤ 2147483647 := by assumption
        have hl : s.toList = s.data.toList := ByteArray.toList_eq s
        show (Ending.returned (.bool (Lib.itoa (atoiVal s.data.toList) == s.toList)) = _ ∧ _) ∨ (Ending.returned (.bool (Lib.itoa (atoiVal s.data.toList) == s.toList)) = _ ∧ _)
        rw [hl]
        by_cases he : Lib.itoa (atoiVal s.data.toList) = s.data.toList
        · refine .inl ⟨by rw [beq_iff_eq.2 he], c.put 105 (atoiVal s.data.toList), ?_, (b2.block b (blk_lt hbox2)).trans hbox2⟩
          unfold takeOk takeNum
          rw [if_neg (by decide), if_pos ⟨ha, h0, h1, he⟩]; rfl
        · refine .inr ⟨by rw [beq_eq_false_iff_ne.2 he], ?_⟩
          unfold takeOk takeNum
          rw [if_neg (by decide), if_neg (fun hh => he hh.2.2.2)]; rfl
      · have h1 : 2147483647 < atoiVal s.data.toList := by assumption
        go_ret
        refine ⟨.inr ⟨rfl, ?_⟩, hb2, hk2⟩
        unfold takeOk takeNum
        rw [if_neg (by decide), if_neg (fun hh => by omega)]; rfl
      · have h1 : atoiVal s.data.toList < 0 := by assumption
        go_ret
        refine ⟨.inr ⟨rfl, ?_⟩, hb2, hk2⟩
        unfold takeOk takeNum
        rw [if_neg (by decide), if_neg (fun hh => by omega)]; rfl
    · go_wp2
      go_ret
      refine ⟨.inr ⟨rfl, ?_⟩, hb2, hk2⟩
      unfold takeOk takeNum
      rw [if_neg (by decide), if_neg (by rw [ha]; simp)]
      rfl
  · go_enter Tryd.func19, Tryd.ntmps19
    go_wp2_with (go_at_call 29; refine (atoi_calls _ hs _ (hv _ (Below.refl _ _))).mono ?_)
    rintro e W1 ⟨⟨err, rfl, herr⟩, b1⟩
    have hbox1 : W1.heap[b]? = some (.cells c.cells 23 (0, 0)) := (b1.block b hlt).trans hbox
    have hc0 : W1.cell? ⟨b, 2, none⟩ = some (.int .i64 c.at_) := (blk_cell hbox1 2).trans rfl
    have hf0 := blk_frozen hbox1 2
    have hb2 : Below B w (W1.setCell ⟨b, 2, none⟩ (.int .i64 (atoiVal s.data.toList))) := (b1.mono hBw).setCell (p := ⟨b, 2, none⟩) hB _
    have hbox2 : (W1.setCell ⟨b, 2, none⟩ (.int .i64 (atoiVal s.data.toList))).heap[b]? = some (.cells (c.put 97 (atoiVal s.data.toList)).cells 23 (0, 0)) := blk_put hbox1 2 _ rfl
    have hk2 : ∀ k, k < w.heap.size → k ≠ b → (W1.setCell ⟨b, 2, none⟩ (.int .i64 (atoiVal s.data.toList))).heap[k]? = w.heap[k]? := fun k hk hkb => (Below.heap_setCell W1 ⟨b, 2, none⟩ _ k hkb).trans (b1.block k hk)
    have hs2 : w.heap.size ≤ (W1.setCell ⟨b, 2, none⟩ (.int .i64 (atoiVal s.data.toList))).heap.size := hb2.size
    rcases herr with ⟨ha, rfl⟩ | ⟨ha, t, p, rfl⟩
    · go_wp2_with (first | (go_at_call 12; refine (itoa_calls _ (by omega) (by omega) _ (hv _ hb2)).mono ?_) | go_in)
      · rintro e W2 ⟨rfl, b2⟩
        go_wp2
        go_ret
        have hbW : B ≤ (W1.setCell ⟨b, 2, none⟩ (.int .i64 (atoiVal s.data.toList))).heap.size := Nat.le_trans hBw hb2.size
        refine ⟨?_, hb2.trans (b2.mono hbW), fun k hk hkb => (b2.block k (Nat.lt_of_lt_of_le hk hs2)).trans (hk2 k hk hkb)⟩
        have h0 : 0 ≤ atoiVal s.data.toList := by assumption
        have h1 : atoiVal s.data.toList ≤ 2147483647 := by assumption
        have hl : s.toList = s.data.toList := ByteArray.toList_eq s
        show (Ending.returned (.bool (Lib.itoa (atoiVal s.data.toList) == s.toList)) = _ ∧ _) ∨ (Ending.returned (.bool (Lib.itoa (atoiVal s.data.toList) == s.toList)) = _ ∧ _)
        rw [hl]
        by_cases he : Lib.itoa (atoiVal s.data.toList) = s.data.toList
        · refine .inl ⟨by rw [beq_iff_eq.2 he], c.put 97 (atoiVal s.data.toList), ?_, (b2.block b (blk_lt hbox2)).trans hbox2⟩
          unfold takeOk takeNum
          rw [if_neg (by decide), if_pos ⟨ha, h0, h1, he⟩]; rfl
        · refine .inr ⟨by rw [beq_eq_false_iff_ne.2 he], ?_⟩
          unfold takeOk takeNum
          rw [if_neg (by decide), if_neg (fun hh => he hh.2.2.2)]; rfl
      · have h1 : 2147483647 < atoiVal s.data.toList := by assumption
        go_ret
        refine ⟨.inr ⟨rfl, ?_⟩, hb2, hk2⟩
        unfold takeOk takeNum
        rw [if_neg (by decide), if_neg (fun hh => by omega)]; rfl
      · have h1 : atoiVal s.data.toList < 0 := by assumption
        go_ret
        refine ⟨.inr ⟨rfl, ?_⟩, hb2, hk2⟩
        unfold takeOk takeNum
        rw [if_neg (by decide), if_neg (fun hh => by omega)]; rfl
    · go_wp2
      go_ret
      refine ⟨.inr ⟨rfl, ?_⟩, hb2, hk2⟩
      unfold takeOk takeNum
      rw [if_neg (by decide), if_neg (by rw [ha]; simp)]
      rfl
  · go_enter Tryd.func19, Tryd.ntmps19
    go_wp2_with (go_at_call 29; refine (atoi_calls _ hs _ (hv _ (Below.refl _ _))).mono ?_)
    rintro e W1 ⟨⟨err, rfl, herr⟩, b1⟩
    have hbox1 : W1.heap[b]? = some (.cells c.cells 23 (0, 0)) := (b1.block b hlt).trans hbox
    have hc0 : W1.cell? ⟨b, 3, none⟩ = some (.int .i64 c.n) := (blk_cell hbox1 3).trans rfl
    have hf0 := blk_frozen hbox1 3
    have hb2 : Below B w (W1.setCell ⟨b, 3, none⟩ (.int .i64 (atoiVal s.data.toList))) := (b1.mono hBw).setCell (p := ⟨b, 3, none⟩) hB _
    have hbox2 : (W1.setCell ⟨b, 3, none⟩ (.int .i64 (atoiVal s.data.toList))).heap[b]? = some (.cells (c.put 110 (atoiVal s.data.toList)).cells 23 (0, 0)) := blk_put hbox1 3 _ rfl
    have hk2 : ∀ k, k < w.heap.size → k ≠ b → (W1.setCell ⟨b, 3, none⟩ (.int .i64 (atoiVal s.data.toList))).heap[k]? = w.heap[k]? := fun k hk hkb => (Below.heap_setCell W1 ⟨b, 3, none⟩ _ k hkb).trans (b1.block k hk)
    have hs2 : w.heap.size ≤ (W1.setCell ⟨b, 3, none⟩ (.int .i64 (atoiVal s.data.toList))).heap.size := hb2.size
    rcases herr with ⟨ha, rfl⟩ | ⟨ha, t, p, rfl⟩
    · go_wp2_with (first | (go_at_call 12; refine (itoa_calls _ (by omega) (by omega) _ (hv _ hb2)).mono ?_) | go_in)
      · rintro e W2 ⟨rfl, b2⟩
        go_wp2
        go_ret
        have hbW : B ≤ (W1.setCell ⟨b, 3, none⟩ (.int .i64 (atoiVal s.data.toList))).heap.size := Nat.le_trans hBw hb2.size
        refine ⟨?_, hb2.trans (b2.mono hbW), fun k hk hkb => (b2.block k (Nat.lt_of_lt_of_le hk hs2)).trans (hk2 k hk hkb)⟩
        have h0 : 0 ≤ atoiVal s.data.toList := by assumption
        have h1 : atoiVal s.data.toList ≤ 2147483647 := by assumption
        have hl : s.toList = s.data.toList := ByteArray.toList_eq s
        show (Ending.returned (.bool (Lib.itoa (atoiVal s.data.toList) == s.toList)) = _ ∧ _) ∨ (Ending.returned (.bool (Lib.itoa (atoiVal s.data.toList) == s.toList)) = _ ∧ _)
        rw [hl]
        by_cases he : Lib.itoa (atoiVal s.data.toList) = s.data.toList
        · refine .inl ⟨by rw [beq_iff_eq.2 he], c.put 110 (atoiVal s.data.toList), ?_, (b2.block b (blk_lt hbox2)).trans hbox2⟩
          unfold takeOk takeNum
          rw [if_neg (by decide), if_pos ⟨ha, h0, h1, he⟩]; rfl
        · refine .inr ⟨by rw [beq_eq_false_iff_ne.2 he], ?_⟩
          unfold takeOk takeNum
          rw [if_neg (by decide), if_neg (fun hh => he hh.2.2.2)]; rfl
      · have h1 : 2147483647 < atoiVal s.data.toList := by assumption
        go_ret
        refine ⟨.inr ⟨rfl, ?_⟩, hb2, hk2⟩
        unfold takeOk takeNum
        rw [if_neg (by decide), if_neg (fun hh => by omega)]; rfl
      · have h1 : atoiVal s.data.toList < 0 := by assumption
        go_ret
        refine ⟨.inr ⟨rfl, ?_⟩, hb2, hk2⟩
        unfold takeOk takeNum
        rw [if_neg (by decide), if_neg (fun hh => by omega)]; rfl
    · go_wp2
      go_ret
      refine ⟨.inr ⟨rfl, ?_⟩, hb2, hk2⟩
      unfold takeOk takeNum
      rw [if_neg (by decide), if_neg (by rw [ha]; simp)]
      rfl
  · go_enter Tryd.func19, Tryd.ntmps19
    go_wp2_with (go_at_call 28; refine (bytes_calls _ _ hs).mono ?_)
    rintro e W1 ⟨rfl, b1⟩
    have hbox1 : W1.heap[b]? = some (.cells c.cells 23 (0, 0)) := (b1.block b hlt).trans hbox
    have hc0 : W1.cell? ⟨b, 4, none⟩ = some (.string c.data) := (blk_cell hbox1 4).trans rfl
    have hf0 := blk_frozen hbox1 4
    cases hr : bytesOf s.data.toList with
    | none =>
      unfold bytesVal
      go_wp2
      go_ret
      refine ⟨.inr ⟨rfl, ?_⟩, (b1.mono hBw).setCell (p := ⟨b, 4, none⟩) hB _, fun k hk hkb => (Below.heap_setCell W1 ⟨b, 4, none⟩ _ k hkb).trans (b1.block k hk)⟩
      unfold takeOk
      rw [if_pos rfl, hr]; rfl
    | some d =>
      unfold bytesVal
      go_wp2
      go_ret
      refine ⟨.inl ⟨rfl, { c with data := ⟨d.toArray⟩ }, ?_, blk_put hbox1 4 _ rfl⟩, (b1.mono hBw).setCell (p := ⟨b, 4, none⟩) hB _, fun k hk hkb => (Below.heap_setCell W1 ⟨b, 4, none⟩ _ k hkb).trans (b1.block k hk)⟩
      unfold takeOk
      rw [if_pos rfl, hr]; rfl
end Go.Proofs.YtlinnmllbbmnpaaDoor
