/- A command's text: walked; commands of at most 1000 bytes. -/
import Derived.Test.YtlinnmllbbmnpaaDoorParse
import Derived.Test.YtlinnmllbbmnpaaDoorWMore
import Derived.Lib.ItoaLen
import Derived.RangeFuncBox
namespace Go.Proofs.YtlinnmllbbmnpaaDoor
open Go.RowKit Go.Maps Go.Proofs.YtlinnmllbbmnpaaDoorW.PrintWords Go.Proofs.YtlinnmllbbmnpaaDoorW.PrintLast Go.Proofs.YtlinnmllbbmnpaaDoorW.PrintMore

def wordOf (c : Cmd) (x : UInt8) : ByteArray :=
  if x = 100 then ⟨(hexOf c.data.data.toList).toArray⟩ else ⟨(Lib.itoa (if x = 105 then c.id else if x = 97 then c.at_ else c.n)).toArray⟩
def joinB (ws : List ByteArray) : ByteArray := ⟨(Lib.join (ws.map (·.data.toList)) [32]).toArray⟩
def textOf (c : Cmd) (f : List UInt8) : ByteArray := joinB (c.op :: f.map (wordOf c))
def printOf (c : Cmd) : Option ByteArray := (formOf c.op.data.toList).bind fun f => if parseOf (textOf c f) = some c then some (textOf c f) else none
def printVal (o : Option ByteArray) : Value := match o with
  | some t => .tuple #[.string t, .int .i64 0]
  | none => .tuple #[.string ⟨#[]⟩, .int .i64 1]
def InI (a : Int) : Prop := -9223372036854775808 ≤ a ∧ a ≤ 9223372036854775807
def Cmd.fine (c : Cmd) : Prop := InI c.id ∧ InI c.at_ ∧ InI c.n
theorem info9 : (Tryd.prog.info? 9).map (fun i => (i.zero, i.size, i.bytes)) = some (some (.string ⟨#[]⟩), 1, 16) := by kernel_rfl

theorem hexL_length (l : List UInt8) : (hexL l).length = 2 * l.length := by
  induction l with
  | nil => rfl
  | cons a l ih => unfold hexL at ih ⊢; rw [List.flatMap_cons, List.length_append, ih]; simp [hexOne]; omega
theorem word_size (c : Cmd) (hs : c.op.size + c.data.size ≤ 1000) (hf : InI c.id ∧ InI c.at_ ∧ InI c.n) (x : UInt8) : (wordOf c x).data.toList.length ≤ 2001 := by
  obtain ⟨h1, h2, h3⟩ := hf
  unfold InI at h1 h2 h3
  unfold wordOf
  split
  · show (hexOf c.data.data.toList).toArray.toList.length ≤ 2001
    rw [List.toList_toArray]
    unfold hexOf
    split
    · simp
    · rw [hexL_length]
      have : c.data.data.toList.length = c.data.size := Array.length_toList
      omega
  · show (Lib.itoa _).toArray.toList.length ≤ 2001
    rw [List.toList_toArray]
    have : ∀ n : Int, -9223372036854775808 ≤ n ∧ n ≤ 9223372036854775807 → (Lib.itoa n).length ≤ 2001 := fun n hn => Nat.le_trans (Lib.itoa_length_le n hn.1 hn.2) (by decide)
    split
    · exact this _ h1
    · split
      · exact this _ h2
      · exact this _ h3
theorem tail_size {M : Nat} (r : List (List UInt8)) (h : ∀ x ∈ r, x.length ≤ M) : (Lib.joinTail [32] r).length ≤ r.length * (M + 1) := by
  induction r with
  | nil => simp [Lib.joinTail]
  | cons a r ih =>
    have h1 := h a List.mem_cons_self
    have h2 := ih (fun x hx => h x (List.mem_cons_of_mem _ hx))
    unfold Lib.joinTail at h2 ⊢
    have e : (a :: r).length * (M + 1) = r.length * (M + 1) + (M + 1) := by rw [List.length_cons, Nat.succ_mul]
    rw [e]
    simp only [List.map_cons, List.flatten_cons, List.length_append, List.length_cons, List.length_nil]
    omega
theorem text_size (c : Cmd) (hs : c.op.size + c.data.size ≤ 1000) (hf : InI c.id ∧ InI c.at_ ∧ InI c.n) {f : List UInt8} (hf3 : f.length ≤ 3) : (Lib.join ((c.op :: f.map (wordOf c)).map (·.data.toList)) [32]).length ≤ 10000 := by
  rw [List.map_cons, Lib.join_cons, List.length_append]
  have h1 := tail_size (M := 2001) ((f.map (wordOf c)).map (·.data.toList)) (by
    intro x hx
    obtain ⟨y, hy, rfl⟩ := List.mem_map.1 hx
    obtain ⟨z, _, rfl⟩ := List.mem_map.1 hy
    exact word_size c hs hf z)
  simp only [List.length_map] at h1
  have h2 : c.op.data.toList.length = c.op.size := Array.length_toList
  have h3 : f.length * 2002 ≤ 3 * 2002 := Nat.mul_le_mul_right _ hf3
  omega

set_option maxHeartbeats 8000000 in
set_option maxRecDepth 1000000 in
theorem print_calls (c : Cmd) (w : World) (hs : c.op.size + c.data.size ≤ 1000) (hf : c.fine) (hv : Vars w) :
    Calls Tryd.prog 6 #[c.agg] w fun e w' => e = .returned (printVal (printOf c)) ∧ Below w.heap.size w w' := by
  obtain ⟨hfi, hfa, hfn⟩ := hf
  unfold InI at hfi hfa hfn
  have hop : c.op.size ≤ 10000 := by omega
  unfold Cmd.agg Cmd.cells
  go_enter Tryd.func6, Tryd.ntmps6
  go_wp2
  have hbox0 : (w.alloc (.cells c.cells 23)).heap[w.heap.size]? = some (.cells c.cells 23 (0, 0)) := blk_new w _
  have hb0 : Below w.heap.size w (w.alloc (.cells c.cells 23)) := (Below.refl _ w).alloc (Nat.le_refl _) _
  have hsz0 : (w.alloc (.cells c.cells 23)).heap.size = w.heap.size + 1 := by simp
  unfold Cmd.cells at hbox0 hb0 hsz0
  generalize w.alloc (.cells #[.string c.op, .int .i64 c.id, .int .i64 c.at_, .int .i64 c.n, .string c.data] 23) = W2 at hbox0 hb0 hsz0 ⊢
  go_cut [4, 5] from 13 to 19 (fun v4 v5 wx => v4 = .string ⟨((formOf c.op.data.toList).getD []).toArray⟩ ∧ v5 = .bool (formOf c.op.data.toList).isSome ∧ Below W2.heap.size W2 wx)
  case first =>
    have hlt2 : w.heap.size < W2.heap.size := by omega
    have hbq : Below W2.heap.size W2 W2.drew := (Below.refl _ _).drew
    have hc2 : W2.cell? ⟨w.heap.size, 0, none⟩ = some (.string c.op) := (blk_cell hbox0 0).trans rfl
    go_region_with (go_at_call 10; refine (forms_calls _).mono ?_; rintro e W3 ⟨b, rfl, ho, hb3⟩; have hlk := forms_look ho c.op hop; have hc3 : W3.cell? ⟨w.heap.size, 0, none⟩ = some (.string c.op) := (hb3.cell (p := ⟨w.heap.size, 0, none⟩) hlt2).trans hc2)
    all_goals (go_wp2_with fail; go_meet; case rel => exact ⟨rfl, rfl, hbq.trans hb3⟩)
  case rest =>
    obtain ⟨rfl, rfl, hbx⟩ := hcut
    have hb1 : Below w.heap.size w wc := hb0.trans (hbx.mono (by omega))
    have hbox1 := blk_below hbox0 hbx
    have hsz1 : w.heap.size + 1 ≤ wc.heap.size := by have := hbx.size; omega
    clear hbx hb0 hbox0 hsz0
    have g0 : wc.cell? ⟨w.heap.size, 0, none⟩ = some (.string c.op) := (blk_cell hbox1 0).trans rfl
    cases hF : formOf c.op.data.toList with
    | none =>
      have hpn : printOf c = none := by unfold printOf; rw [hF]; rfl
      simp only [Option.getD_none, Option.isSome_none]
      go_wp2
      go_ret2
      refine ⟨?_, hb1⟩
      first | (rw [hpn]; rfl) | rfl
    | some f =>
      obtain ⟨hf3, hfx⟩ := formOf_some hF
      simp only [Option.getD_some, Option.isSome_some]
      go_wp2_with (first | ((with_reducible refine gate_dst (N := 24) rfl ?_); refine Kd.R_lit Kd.string (w0 := wc) wc.heap.size 9 ?hg (N := 24) ?hd (xs := [c.op]) (inner := [.string c.op]) (ok := fun _ => True) (okp := fun _ => True) ?hr ?hp (fun _ hk => hk) trivial (Below.refl _ _) (Nat.le_refl _) (by simp) ?_; (try (case hd => rfl)); (try (case hg => rfl)); (case hr => first | (go_simp; done) | (go_simp; rfl)); (case hp => exact Reps.snoc (Reps.none _ _) (show Kd.M Kd.string _ _ _ c.op [.string c.op] from rfl) rfl); intro v24 W3 ho3 hb3 hg3 hnew3))
      obtain ⟨F, hFe⟩ : ∃ F : ByteArray, (⟨f.toArray⟩ : ByteArray) = F := ⟨_, rfl⟩
      have hFs : F.size = f.length := by rw [← hFe]; simp [ByteArray.size]
      have hFd : ∀ pos (h : pos < f.length), Utf8.decode F pos = ((f[pos]'h).toNat, 1) := by
        intro pos h
        have hp : pos < F.size := by rw [hFs]; exact h
        have e : F[pos]'hp = f[pos]'h := by subst hFe; rfl
        have hx := hfx _ (List.getElem_mem h)
        have := decode_ascii F pos hp (by rw [e]; rcases hx with hx | hx | hx | hx <;> rw [hx] <;> decide)
        rw [e] at this
        exact this
      rw [hFe]
      have hbox3 : W3.heap[w.heap.size]? = some (.cells #[.string c.op, .int .i64 c.id, .int .i64 c.at_, .int .i64 c.n, .string c.data] 23 (0, 0)) := blk_below hbox1 hb3
      have hb4 : Below w.heap.size w W3 := hb1.trans (hb3.mono (by omega))
      have hsz3 : wc.heap.size ≤ W3.heap.size := hb3.size
      go_loopw [6] (fun v6 wr => ∃ (pos : Nat), pos ≤ f.length ∧ Kd.R Kd.string 9 wr wc.heap.size (fun k => k ≠ W3.heap.size) v6 (c.op :: (f.take pos).map (wordOf c)) ∧ wr.heap[W3.heap.size]? = some (.stringIter F pos) ∧
          wr.heap[w.heap.size]? = some (.cells #[.string c.op, .int .i64 c.id, .int .i64 c.at_, .int .i64 c.n, .string c.data] 23 (0, 0)) ∧ Below w.heap.size w wr) (fun _ wr => f.length - wr.iterPos W3.heap.size)
      case atStart =>
        refine ⟨0, by omega, ?_, ?_, blk_alloc hbox3 _, hb4.alloc hb4.size _⟩
        · have := Kd.R_alloc (Kd.R_mono (Kd.R_bound ho3) (ok' := fun k => k ≠ W3.heap.size) (fun k hk => by have := hk.2.2.1; omega)) (.stringIter F 0)
          exact this
        · exact World.iter_heap W3 F 0
      case round =>
        obtain ⟨pos, hpos, hR, hit, hbox, hbw⟩ := hrel
        have hsz : W3.heap.size < wr.heap.size := (Array.getElem?_eq_some_iff.1 hit).1
        by_cases hp : pos < f.length
        · have hp2 : pos < F.size := by rw [hFs]; exact hp
          have hnx : ∀ ty, (Instr.next (.pointer (some ⟨W3.heap.size, 0, none⟩)) true ty).run Tryd.prog wr = _ := fun ty => Lib.run_next_any_at wr W3.heap.size F pos ty hit hp2
          rw [hFd pos hp] at hnx
          have hit2 := Lib.iterAt_heap wr W3.heap.size F pos (pos + 1) hit
          have hbw2 := Lib.below_iterAt hbw (k := W3.heap.size) (by have := hb4.size; omega) F (pos + 1)
          have hboxI : (wr.iterAt W3.heap.size F (pos + 1)).heap[w.heap.size]? = some (.cells #[.string c.op, .int .i64 c.id, .int .i64 c.at_, .int .i64 c.n, .string c.data] 23 (0, 0)) := by
            rw [Lib.iterAt_other _ _ _ _ _ (by omega)]; exact hbox
          have hRI : Kd.R Kd.string 9 (wr.iterAt W3.heap.size F (pos + 1)) wc.heap.size (fun k => k ≠ W3.heap.size) _ (c.op :: (f.take pos).map (wordOf c)) := Kd.R_step hR (fun k hk _ => Lib.iterAt_other _ _ _ _ _ hk)
          generalize wr.iterAt W3.heap.size F (pos + 1) = WI at hit2 hbw2 hboxI hRI hnx
          have d4 : WI.cell? ⟨w.heap.size, 4, none⟩ = some (.string c.data) := (blk_cell hboxI 4).trans rfl
          go_wp2_with (go_at_call 11; refine (hex_calls _ _ (by omega)).mono ?_)
          rintro e W4 rfl hbx
          have hR4 := Kd.R_below hRI hbx
          have hit4 := blk_below hit2 hbx
          have hbox4 := blk_below hboxI hbx
          have hbw4 : Below w.heap.size w W4 := hbw2.trans (hbx.mono (Nat.le_trans (by have := hb4.size; omega) hbw2.size))
          have hsz4 : W3.heap.size < W4.heap.size := (Array.getElem?_eq_some_iff.1 hit4).1
          clear hRI hit2 hboxI hbw2
          by_cases h100 : f[pos]'hp = 100
          · have hne : (((f[pos]'hp).toNat : Int) != 100) = false := by rw [h100]; decide
            have hword : wordOf c (f[pos]'hp) = ⟨(hexOf c.data.data.toList).toArray⟩ := by unfold wordOf; rw [if_pos h100]
            go_wp2_with (first | ((with_reducible refine gate_builtin (b := .append) (xs := #[.tmp 40, .tmp 42]) rfl ?_); at_builtin; refine Kd.R_append Kd.string (w0 := W4) wc.heap.size rfl (.tmp 40) (.tmp 42) 35 9 (.string ⟨#[]⟩) 16 rfl Tryd.underlying35 info9 rfl (by decide) (by omega) _ (c.op :: (f.take pos).map (wordOf c)) ⟨(hexOf c.data.data.toList).toArray⟩ [.string ⟨(hexOf c.data.data.toList).toArray⟩] (fun k => k ≠ W3.heap.size) (fun _ => False) rfl rfl ?aP (fun _ hk => hk.elim) ?aF hR4 (Below.refl _ _) ?aS ?aL ?_; (case aP => exact rfl); (case aF => exact fun k hk => by omega); (case aS => omega); (case aL => simp only [List.length_cons, List.length_map, List.length_take]; omega); intro v9 W9 hR9 hb9 hg9 hat9))
            have hw9 : c.op :: (f.take (pos + 1)).map (wordOf c) = (c.op :: (f.take pos).map (wordOf c)) ++ [⟨(hexOf c.data.data.toList).toArray⟩] := by
              rw [List.take_add_one, List.getElem?_eq_getElem hp, List.map_append, Option.toList_some, List.map_cons, List.map_nil, hword, List.cons_append]
            have hit9 : W9.heap[W3.heap.size]? = some (.stringIter F (pos + 1)) := blk_grown hit4 hg9 (Kd.R_away hR4 (fun _ h => h))
            have hbox9 := blk_grown hbox4 hg9 (fun e_ => by have := Kd.R_base hR4 _ e_.symm; omega)
            have hbw9 : Below w.heap.size w W9 := hbw4.trans (hb9.mono (by omega))
            refine ⟨⟨pos + 1, by omega, by rw [hw9]; exact hR9, hit9, hbox9, hbw9⟩, ?_⟩
            simp only [World.iterPos, hit9, hit]
            omega
          · have hne : (((f[pos]'hp).toNat : Int) != 100) = true := by
              rw [bne_iff_ne]; intro h; exact h100 (by apply UInt8.toNat.inj; show _ = 100; omega)
            have d1 : W4.cell? ⟨w.heap.size, 1, none⟩ = some (.int .i64 c.id) := (blk_cell hbox4 1).trans rfl
            have d2 : W4.cell? ⟨w.heap.size, 2, none⟩ = some (.int .i64 c.at_) := (blk_cell hbox4 2).trans rfl
            have d3 : W4.cell? ⟨w.heap.size, 3, none⟩ = some (.int .i64 c.n) := (blk_cell hbox4 3).trans rfl
            rcases hfx _ (List.getElem_mem hp) with hx | hx | hx | hx
            · have hlv : ((f[pos]'hp).toNat : Int) = 105 := by rw [hx]; decide
              have hword : wordOf c (f[pos]'hp) = ⟨(Lib.itoa c.id).toArray⟩ := by unfold wordOf; rw [hx]; rfl
              rw [hlv]
              go_wp2_with (first | (go_at_call 12; refine (itoa_calls c.id hfi.1 hfi.2 _ (hv.below hbw4 (Nat.le_refl _))).mono ?_) | go_in)
              rintro e W5 ⟨rfl, hb5⟩
              have hR5 := Kd.R_below hR4 hb5
              have hit5 := blk_below hit4 hb5
              have hbox5 := blk_below hbox4 hb5
              have hbw5 : Below w.heap.size w W5 := hbw4.trans (hb5.mono (by omega))
              have hsz5 : W3.heap.size < W5.heap.size := (Array.getElem?_eq_some_iff.1 hit5).1
              go_wp2_with (first | ((with_reducible refine gate_builtin (b := .append) (xs := #[.tmp 40, .tmp 42]) rfl ?_); at_builtin; refine Kd.R_append Kd.string (w0 := W5) wc.heap.size rfl (.tmp 40) (.tmp 42) 35 9 (.string ⟨#[]⟩) 16 rfl Tryd.underlying35 info9 rfl (by decide) (by omega) _ (c.op :: (f.take pos).map (wordOf c)) ⟨(Lib.itoa c.id).toArray⟩ [.string ⟨(Lib.itoa c.id).toArray⟩] (fun k => k ≠ W3.heap.size) (fun _ => False) rfl rfl ?aP (fun _ hk => hk.elim) ?aF hR5 (Below.refl _ _) ?aS ?aL ?_; (case aP => exact rfl); (case aF => exact fun k hk => by omega); (case aS => omega); (case aL => simp only [List.length_cons, List.length_map, List.length_take]; omega); intro v9 W9 hR9 hb9 hg9 hat9))
              have hw9 : c.op :: (f.take (pos + 1)).map (wordOf c) = (c.op :: (f.take pos).map (wordOf c)) ++ [⟨(Lib.itoa c.id).toArray⟩] := by
                rw [List.take_add_one, List.getElem?_eq_getElem hp, List.map_append, Option.toList_some, List.map_cons, List.map_nil, hword, List.cons_append]
              have hit9 : W9.heap[W3.heap.size]? = some (.stringIter F (pos + 1)) := blk_grown hit5 hg9 (Kd.R_away hR5 (fun _ h => h))
              have hbox9 := blk_grown hbox5 hg9 (fun e_ => by have := Kd.R_base hR5 _ e_.symm; omega)
              have hbw9 : Below w.heap.size w W9 := hbw5.trans (hb9.mono (by omega))
              refine ⟨⟨pos + 1, by omega, by rw [hw9]; exact hR9, hit9, hbox9, hbw9⟩, ?_⟩
              simp only [World.iterPos, hit9, hit]
              omega
            · have hlv : ((f[pos]'hp).toNat : Int) = 97 := by rw [hx]; decide
              have hword : wordOf c (f[pos]'hp) = ⟨(Lib.itoa c.at_).toArray⟩ := by unfold wordOf; rw [hx]; rfl
              rw [hlv]
              go_wp2_with (first | (go_at_call 12; refine (itoa_calls c.at_ hfa.1 hfa.2 _ (hv.below hbw4 (Nat.le_refl _))).mono ?_) | go_in)
              rintro e W5 ⟨rfl, hb5⟩
              have hR5 := Kd.R_below hR4 hb5
              have hit5 := blk_below hit4 hb5
              have hbox5 := blk_below hbox4 hb5
              have hbw5 : Below w.heap.size w W5 := hbw4.trans (hb5.mono (by omega))
              have hsz5 : W3.heap.size < W5.heap.size := (Array.getElem?_eq_some_iff.1 hit5).1
              go_wp2_with (first | ((with_reducible refine gate_builtin (b := .append) (xs := #[.tmp 40, .tmp 42]) rfl ?_); at_builtin; refine Kd.R_append Kd.string (w0 := W5) wc.heap.size rfl (.tmp 40) (.tmp 42) 35 9 (.string ⟨#[]⟩) 16 rfl Tryd.underlying35 info9 rfl (by decide) (by omega) _ (c.op :: (f.take pos).map (wordOf c)) ⟨(Lib.itoa c.at_).toArray⟩ [.string ⟨(Lib.itoa c.at_).toArray⟩] (fun k => k ≠ W3.heap.size) (fun _ => False) rfl rfl ?aP (fun _ hk => hk.elim) ?aF hR5 (Below.refl _ _) ?aS ?aL ?_; (case aP => exact rfl); (case aF => exact fun k hk => by omega); (case aS => omega); (case aL => simp only [List.length_cons, List.length_map, List.length_take]; omega); intro v9 W9 hR9 hb9 hg9 hat9))
              have hw9 : c.op :: (f.take (pos + 1)).map (wordOf c) = (c.op :: (f.take pos).map (wordOf c)) ++ [⟨(Lib.itoa c.at_).toArray⟩] := by
                rw [List.take_add_one, List.getElem?_eq_getElem hp, List.map_append, Option.toList_some, List.map_cons, List.map_nil, hword, List.cons_append]
              have hit9 : W9.heap[W3.heap.size]? = some (.stringIter F (pos + 1)) := blk_grown hit5 hg9 (Kd.R_away hR5 (fun _ h => h))
              have hbox9 := blk_grown hbox5 hg9 (fun e_ => by have := Kd.R_base hR5 _ e_.symm; omega)
              have hbw9 : Below w.heap.size w W9 := hbw5.trans (hb9.mono (by omega))
              refine ⟨⟨pos + 1, by omega, by rw [hw9]; exact hR9, hit9, hbox9, hbw9⟩, ?_⟩
              simp only [World.iterPos, hit9, hit]
              omega
            · have hlv : ((f[pos]'hp).toNat : Int) = 110 := by rw [hx]; decide
              have hword : wordOf c (f[pos]'hp) = ⟨(Lib.itoa c.n).toArray⟩ := by unfold wordOf; rw [hx]; rfl
              rw [hlv]
              go_wp2_with (first | (go_at_call 12; refine (itoa_calls c.n hfn.1 hfn.2 _ (hv.below hbw4 (Nat.le_refl _))).mono ?_) | go_in)
              rintro e W5 ⟨rfl, hb5⟩
              have hR5 := Kd.R_below hR4 hb5
              have hit5 := blk_below hit4 hb5
              have hbox5 := blk_below hbox4 hb5
              have hbw5 : Below w.heap.size w W5 := hbw4.trans (hb5.mono (by omega))
              have hsz5 : W3.heap.size < W5.heap.size := (Array.getElem?_eq_some_iff.1 hit5).1
              go_wp2_with (first | ((with_reducible refine gate_builtin (b := .append) (xs := #[.tmp 40, .tmp 42]) rfl ?_); at_builtin; refine Kd.R_append Kd.string (w0 := W5) wc.heap.size rfl (.tmp 40) (.tmp 42) 35 9 (.string ⟨#[]⟩) 16 rfl Tryd.underlying35 info9 rfl (by decide) (by omega) _ (c.op :: (f.take pos).map (wordOf c)) ⟨(Lib.itoa c.n).toArray⟩ [.string ⟨(Lib.itoa c.n).toArray⟩] (fun k => k ≠ W3.heap.size) (fun _ => False) rfl rfl ?aP (fun _ hk => hk.elim) ?aF hR5 (Below.refl _ _) ?aS ?aL ?_; (case aP => exact rfl); (case aF => exact fun k hk => by omega); (case aS => omega); (case aL => simp only [List.length_cons, List.length_map, List.length_take]; omega); intro v9 W9 hR9 hb9 hg9 hat9))
              have hw9 : c.op :: (f.take (pos + 1)).map (wordOf c) = (c.op :: (f.take pos).map (wordOf c)) ++ [⟨(Lib.itoa c.n).toArray⟩] := by
                rw [List.take_add_one, List.getElem?_eq_getElem hp, List.map_append, Option.toList_some, List.map_cons, List.map_nil, hword, List.cons_append]
              have hit9 : W9.heap[W3.heap.size]? = some (.stringIter F (pos + 1)) := blk_grown hit5 hg9 (Kd.R_away hR5 (fun _ h => h))
              have hbox9 := blk_grown hbox5 hg9 (fun e_ => by have := Kd.R_base hR5 _ e_.symm; omega)
              have hbw9 : Below w.heap.size w W9 := hbw5.trans (hb9.mono (by omega))
              refine ⟨⟨pos + 1, by omega, by rw [hw9]; exact hR9, hit9, hbox9, hbw9⟩, ?_⟩
              simp only [World.iterPos, hit9, hit]
              omega
            · exact absurd hx h100
        · have hp2 : ¬ pos < F.size := by rw [hFs]; exact hp
          have hnx : ∀ ty, (Instr.next (.pointer (some ⟨W3.heap.size, 0, none⟩)) true ty).run Tryd.prog wr = _ := fun ty => Lib.run_next_end_at wr W3.heap.size F pos ty hit hp2
          rw [List.take_of_length_le (by omega)] at hR
          obtain ⟨inner, hown⟩ := Kd.R_own hR
          rw [List.length_cons] at hown
          obtain ⟨g, cap, rfl⟩ := ownsRow_succ hown
          have hcells : ∀ (j : Nat) x, (c.op :: f.map (wordOf c))[j]? = some x → wr.cell? ⟨g, 0 + j, none⟩ = some (.string x) := by
            intro j x hj
            have hjl : j < (c.op :: f.map (wordOf c)).length := (List.getElem?_eq_some_iff.1 hj).1
            have := (Kd.R_cell ByteArray.empty hR (j : Int) (by omega) (by omega)).1
            rw [Int.toNat_natCast] at this
            rw [Nat.zero_add, this]
            unfold rdOf
            rw [Int.toNat_natCast, List.getD_eq_getElem?_getD, hj]
            rfl
          have hgl : g < wr.heap.size := Kd.R_lt hR g rfl
          have hcap := (Kd.R_reads' hR).2.1
          have htl := text_size c hs ⟨hfi, hfa, hfn⟩ hf3
          have hJ : Calls Tryd.prog 14 #[.slice (some ⟨g, 0, none⟩) ((f.map (wordOf c)).length + 1) cap, .string ⟨#[32]⟩] wr fun e w' => e = .returned (.string (textOf c f)) ∧ Below wr.heap.size wr w' :=
            Tryd.strings_Join g 0 cap (c.op :: f.map (wordOf c)) ⟨#[32]⟩ wr hcells hgl (by simp only [List.length_cons, List.length_map]; omega) hcap (Nat.le_trans htl (by decide))
          have hT : (textOf c f).size ≤ 10000 := by
            show (Lib.join ((c.op :: f.map (wordOf c)).map (·.data.toList)) [32]).toArray.size ≤ 10000
            rw [List.size_toArray]; exact htl
          clear hcells hR hown hcap htl
          obtain ⟨T, hTe⟩ : ∃ T, textOf c f = T := ⟨_, rfl⟩
          rw [hTe] at hJ hT
          rw [List.length_map] at hJ
          have HJ := Aside0.mk hJ
          clear hJ
          have hbs : w.heap.size ≤ wr.heap.size := hbw.size
          go_wp2_with (first | (go_at_call 14; refine HJ.out.mono ?_; rintro e W6 ⟨rfl, hb6⟩; have hb6w : Below w.heap.size w W6 := hbw.trans (hb6.mono hbs)) | (go_at_call 8; refine (parse_calls T _ hT (hv.below hb6w (Nat.le_refl _))).mono ?_))
          rintro e W7 ⟨rfl, hb7⟩
          have hb7w : Below w.heap.size w W7 := hb6w.trans (hb7.mono hb6w.size)
          have hbox7 : W7.heap[w.heap.size]? = some (.cells #[.string c.op, .int .i64 c.id, .int .i64 c.at_, .int .i64 c.n, .string c.data] 23 (0, 0)) := blk_below (blk_below hbox hb6) hb7
          cases hP : parseOf T with
          | none =>
            have hpn : printOf c = none := by unfold printOf; rw [hF]; show (if parseOf (textOf c f) = some c then _ else _) = _; rw [hTe, hP]; rfl
            unfold parseVal Cmd.agg Cmd.cells noCmd
            clear hTe
            go_wp2
            go_ret2
            refine ⟨?_, hb7w.alloc hb7w.size _⟩
            first | (rw [hpn]; rfl) | rfl
          | some c2 =>
            have k0 : (W7.alloc (.cells #[.string c2.op, .int .i64 c2.id, .int .i64 c2.at_, .int .i64 c2.n, .string c2.data] 23)).cell? ⟨w.heap.size, 0, none⟩ = some (.string c.op) := (blk_cell (blk_alloc hbox7 _) 0).trans rfl
            have k1 : (W7.alloc (.cells #[.string c2.op, .int .i64 c2.id, .int .i64 c2.at_, .int .i64 c2.n, .string c2.data] 23)).cell? ⟨w.heap.size, 1, none⟩ = some (.int .i64 c.id) := (blk_cell (blk_alloc hbox7 _) 1).trans rfl
            have k2 : (W7.alloc (.cells #[.string c2.op, .int .i64 c2.id, .int .i64 c2.at_, .int .i64 c2.n, .string c2.data] 23)).cell? ⟨w.heap.size, 2, none⟩ = some (.int .i64 c.at_) := (blk_cell (blk_alloc hbox7 _) 2).trans rfl
            have k3 : (W7.alloc (.cells #[.string c2.op, .int .i64 c2.id, .int .i64 c2.at_, .int .i64 c2.n, .string c2.data] 23)).cell? ⟨w.heap.size, 3, none⟩ = some (.int .i64 c.n) := (blk_cell (blk_alloc hbox7 _) 3).trans rfl
            have k4 : (W7.alloc (.cells #[.string c2.op, .int .i64 c2.id, .int .i64 c2.at_, .int .i64 c2.n, .string c2.data] 23)).cell? ⟨w.heap.size, 4, none⟩ = some (.string c.data) := (blk_cell (blk_alloc hbox7 _) 4).trans rfl
            have hpe : printOf c = if c2 = c then some T else none := by unfold printOf; rw [hF]; show (if parseOf (textOf c f) = some c then _ else _) = _; rw [hTe, hP]; simp
            unfold parseVal Cmd.agg Cmd.cells
            clear hTe
            go_wp2
            all_goals (go_ret2; refine ⟨?_, hb7w.alloc hb7w.size _⟩; rw [hpe])
            · have hcc : c2 = c := by
                have i0 : c2.op.toList = c.op.toList := by assumption
                have i1 : c2.id = c.id := by assumption
                have i2 : c2.at_ = c.at_ := by assumption
                have i3 : c2.n = c.n := by assumption
                have i4 : c2.data.toList = c.data.toList := by assumption
                rw [ByteArray.toList_eq, ByteArray.toList_eq] at i0 i4
                have j0 := Go.WideShapes.bytes_inj i0
                have j4 := Go.WideShapes.bytes_inj i4
                cases c2; cases c; simp_all
              rw [if_pos hcc]; rfl
            all_goals (rw [if_neg (fun hcc => by subst hcc; first | exact absurd rfl (by assumption) | contradiction)]; rfl)
end Go.Proofs.YtlinnmllbbmnpaaDoor
