/- A text's command: walked; texts of at most 5000 bytes. -/
import Derived.Test.YtlinnmllbbmnpaaDoorForms
import Derived.Lib.SplitLaws
namespace Go.Proofs.YtlinnmllbbmnpaaDoor
open Go.RowKit Go.Maps Go.Proofs.YtlinnmllbbmnpaaDoorW.PrintWords

def blank : ByteArray := ⟨#[32]⟩
def wordsB (s : ByteArray) : List ByteArray := Lib.splitB ⟨#[32]⟩ 0 (Lib.countB s ⟨#[32]⟩) s
def takeAll : List UInt8 → List ByteArray → Cmd → Option Cmd
  | [], _, c => some c
  | x :: xs, v :: vs, c => (takeOk x.toNat v.data.toList c).bind (takeAll xs vs)
  | _ :: _, [], _ => none
def noCmd : Cmd := ⟨⟨#[]⟩, 0, 0, 0, ⟨#[]⟩⟩
def parseOf (s : ByteArray) : Option Cmd :=
  match wordsB s with
  | [] => none
  | v :: vs => (formOf v.data.toList).bind fun f => if vs.length = f.length then takeAll f vs { noCmd with op := v } else none
def Cmd.agg (c : Cmd) : Value := .agg c.cells
def parseVal (o : Option Cmd) : Value := match o with
  | some c => .tuple #[c.agg, .int .i64 0]
  | none => .tuple #[noCmd.agg, .int .i64 32]

theorem splitB_size (sep : ByteArray) : ∀ (k : Nat) (s v : ByteArray), v ∈ Lib.splitB sep 0 k s → v.size ≤ s.size := by
  intro k
  induction k with
  | zero => intro s v hv; simp [Lib.splitB] at hv; subst hv; exact Nat.le_refl _
  | succ k ih =>
    intro s v hv
    unfold Lib.splitB at hv
    split at hv
    · simp at hv; subst hv; exact Nat.le_refl _
    · rcases List.mem_cons.1 hv with rfl | hv
      · simp only [ByteArray.size_extract]; omega
      · have := ih _ _ hv
        simp only [ByteArray.size_extract] at this; omega

theorem formOf_some {l f : List UInt8} (h : formOf l = some f) : f.length ≤ 3 ∧ ∀ x ∈ f, x = 105 ∨ x = 97 ∨ x = 110 ∨ x = 100 := by
  unfold formOf at h
  rw [Option.map_eq_some_iff] at h
  obtain ⟨p, h1, rfl⟩ := h
  have hm := List.mem_of_find?_eq_some h1
  have : ∀ p ∈ formRows, p.2.length ≤ 3 ∧ ∀ x ∈ p.2, x = 105 ∨ x = 97 ∨ x = 110 ∨ x = 100 := by decide
  exact this p hm

def TakePost (b : Nat) (c : Cmd) (letter : Int) (s : ByteArray) (B : Nat) (w : World) (e : Ending) (w' : World) : Prop :=
  ((e = .returned (.bool true) ∧ ∃ c', takeOk letter s.data.toList c = some c' ∧ w'.heap[b]? = some (.cells c'.cells 23 (0, 0))) ∨ (e = .returned (.bool false) ∧ takeOk letter s.data.toList c = none)) ∧ Below B w w' ∧ ∀ k, k < w.heap.size → k ≠ b → w'.heap[k]? = w.heap[k]?
theorem take_post (b : Nat) (c : Cmd) (letter : Int) (s : ByteArray) (B : Nat) (w : World) (hs : s.size ≤ 10000) (hv : ∀ w', Below B w w' → Vars w') (hBw : B ≤ w.heap.size) (hl : letter = 105 ∨ letter = 97 ∨ letter = 110 ∨ letter = 100)
    (hbox : w.heap[b]? = some (.cells c.cells 23 (0, 0))) (hB : B ≤ b) :
    Calls Tryd.prog 19 #[.pointer (some ⟨b, 0, none⟩), .int .i32 letter, .string s] w (TakePost b c letter s B w) := take_calls b c letter s B w hs hv hBw hl hbox hB
theorem put_all {W : World} {b : Nat} {c0 : Cmd} (c : Cmd) (h : W.heap[b]? = some (.cells c0.cells 23 (0, 0))) :
    (((((W.setCell ⟨b, 0, none⟩ (.string c.op)).setCell ⟨b, 1, none⟩ (.int .i64 c.id)).setCell ⟨b, 2, none⟩ (.int .i64 c.at_)).setCell ⟨b, 3, none⟩ (.int .i64 c.n)).setCell ⟨b, 4, none⟩ (.string c.data)).heap[b]? = some (.cells c.cells 23 (0, 0)) :=
  blk_put (blk_put (blk_put (blk_put (blk_put h 0 _ rfl) 1 _ rfl) 2 _ rfl) 3 _ rfl) 4 _ rfl
theorem put_below {W w : World} {B b : Nat} (c : Cmd) (h : Below B w W) (hB : B ≤ b) :
    Below B w (((((W.setCell ⟨b, 0, none⟩ (.string c.op)).setCell ⟨b, 1, none⟩ (.int .i64 c.id)).setCell ⟨b, 2, none⟩ (.int .i64 c.at_)).setCell ⟨b, 3, none⟩ (.int .i64 c.n)).setCell ⟨b, 4, none⟩ (.string c.data)) :=
  ((((h.setCell (p := ⟨b, 0, none⟩) hB _).setCell (p := ⟨b, 1, none⟩) hB _).setCell (p := ⟨b, 2, none⟩) hB _).setCell (p := ⟨b, 3, none⟩) hB _).setCell (p := ⟨b, 4, none⟩) hB _

set_option maxHeartbeats 8000000 in
set_option maxRecDepth 1000000 in
theorem parse_calls (s : ByteArray) (w : World) (hs : s.size ≤ 10000) (hv : Vars w) :
    Calls Tryd.prog 8 #[.string s] w fun e w' => e = .returned (parseVal (parseOf s)) ∧ Below w.heap.size w w' := by
  obtain ⟨m, hm⟩ := hv.max
  obtain ⟨W, hW⟩ : ∃ W, wordsB s = W := ⟨_, rfl⟩
  obtain ⟨n, hn⟩ : ∃ n, Lib.countB s ⟨#[32]⟩ = n := ⟨_, rfl⟩
  have hWl : W.length = n + 1 := by rw [← hW, ← hn]; exact Lib.splitB_all _ (by decide) 0 _ s rfl
  have hWs : ∀ v ∈ W, v.size ≤ 10000 := fun v hv => by rw [← hW] at hv; have := splitB_size _ _ _ _ hv; omega
  go_enter Tryd.func8, Tryd.ntmps8
  have hml : (w.alloc (.cells noCmd.cells 23)).cell? ⟨1, 0, none⟩ = some (.int .i64 m) := (World.cell?_alloc_lt _ _ _ (World.block_lt_of_cell? w _ hm)).trans hm
  go_wp2_with (go_at_call 18; refine (Tryd.strings_Split s ⟨#[32]⟩ m _ (by omega) hml (by decide)).mono ?_)
  rintro e W1 ⟨rfl, rfl⟩
  have hres0 : ((w.alloc (.cells noCmd.cells 23)).alloc (.cells (W.map Value.string).toArray 9)).heap[w.heap.size]? = some (.cells noCmd.cells 23 (0, 0)) := blk_alloc (blk_new w _) _
  have hsl0 : ((w.alloc (.cells noCmd.cells 23)).alloc (.cells (W.map Value.string).toArray 9)).heap[w.heap.size + 1]? = some (.cells (W.map Value.string).toArray 9 (0, 0)) := by
    have := blk_new (w.alloc (.cells noCmd.cells 23)) (.cells (W.map Value.string).toArray 9 (0, 0))
    simpa using this
  have hb0 : Below w.heap.size w ((w.alloc (.cells noCmd.cells 23)).alloc (.cells (W.map Value.string).toArray 9)) := ((Below.refl _ w).alloc (Nat.le_refl _) _).alloc (by simp) _
  have hsz0 : ((w.alloc (.cells noCmd.cells 23)).alloc (.cells (W.map Value.string).toArray 9)).heap.size = w.heap.size + 2 := by simp
  have eW : (Lib.splitB ⟨#[32]⟩ 0 (Lib.countB s ⟨#[32]⟩) s) = W := hW
  rw [eW]
  have hW0 := hW
  clear hW eW
  obtain ⟨v0, vs, rfl⟩ : ∃ v0 vs, W = v0 :: vs := by cases W with
    | nil => simp at hWl
    | cons a b => exact ⟨a, b, rfl⟩
  have hv0 : v0.size ≤ 10000 := hWs v0 List.mem_cons_self
  have hvl : vs.length = n := by simpa using hWl
  go_wp2
  rw [List.map_cons] at hres0 hsl0 hb0 hsz0
  generalize ((w.alloc (.cells noCmd.cells 23)).alloc (.cells (Value.string v0 :: vs.map Value.string).toArray 9)) = W2 at hres0 hsl0 hb0 hsz0 ⊢
  go_cut [5, 6] from 12 to 19 (fun v5 v6 wx => v5 = .string ⟨((formOf v0.data.toList).getD []).toArray⟩ ∧ v6 = .bool (formOf v0.data.toList).isSome ∧ Below W2.heap.size W2 wx)
  case first =>
    have hlt2 : w.heap.size + 1 < W2.heap.size := by omega
    have hbq : Below W2.heap.size W2 W2.drew := (Below.refl _ _).drew
    have hc2 : W2.cell? ⟨w.heap.size + 1, 0, none⟩ = some (.string v0) := (blk_cell hsl0 0).trans rfl
    go_region_with (go_at_call 10; refine (forms_calls _).mono ?_; rintro e W3 ⟨b, rfl, ho, hb3⟩; have hlk := forms_look ho v0 hv0; have hc3 : W3.cell? ⟨w.heap.size + 1, 0, none⟩ = some (.string v0) := (hb3.cell (p := ⟨w.heap.size + 1, 0, none⟩) hlt2).trans hc2)
    all_goals (go_wp2_with fail; go_meet; case rel => exact ⟨rfl, rfl, hbq.trans hb3⟩)
  case rest =>
    obtain ⟨rfl, rfl, hbx⟩ := hcut
    have hb1 : Below w.heap.size w wc := hb0.trans (hbx.mono (by omega))
    have hres1 := blk_below hres0 hbx
    have hsl1 := blk_below hsl0 hbx
    have hsz1 : w.heap.size + 2 ≤ wc.heap.size := by have := hbx.size; omega
    clear hbx hb0 hres0 hsl0 hsz0
    have hz0 : wc.cell? ⟨w.heap.size, 0, none⟩ = some (.string ⟨#[]⟩) := (blk_cell hres1 0).trans rfl
    have hz1 : wc.cell? ⟨w.heap.size, 1, none⟩ = some (.int .i64 0) := (blk_cell hres1 1).trans rfl
    have hz2 : wc.cell? ⟨w.heap.size, 2, none⟩ = some (.int .i64 0) := (blk_cell hres1 2).trans rfl
    have hz3 : wc.cell? ⟨w.heap.size, 3, none⟩ = some (.int .i64 0) := (blk_cell hres1 3).trans rfl
    have hz4 : wc.cell? ⟨w.heap.size, 4, none⟩ = some (.string ⟨#[]⟩) := (blk_cell hres1 4).trans rfl
    have hy0 := blk_frozen hres1 0
    have hy1 := blk_frozen hres1 1
    have hy2 := blk_frozen hres1 2
    have hy3 := blk_frozen hres1 3
    have hy4 := blk_frozen hres1 4
    have hwords : wordsB s = v0 :: vs := hW0
    have hw0 : wc.cell? ⟨w.heap.size + 1, 0, none⟩ = some (.string v0) := (blk_cell hsl1 0).trans rfl
    cases hF : formOf v0.data.toList with
    | none =>
      have hpn : parseOf s = none := by unfold parseOf; rw [hwords]; simp [hF]
      simp only [Option.getD_none, Option.isSome_none]
      go_wp2
      refine bodyPost_ret (results_ct rfl _ _ w.heap.size 23 noCmd.cells (0, 0) _ rfl (put_all noCmd hres1) Tryd.underlying23 rfl (by kernel_rfl)) rfl ⟨?_, put_below noCmd hb1 (Nat.le_refl _)⟩
      rw [hpn]; rfl
    | some f =>
      obtain ⟨hf3, hfx⟩ := formOf_some hF
      simp only [Option.getD_some, Option.isSome_some]
      by_cases hlen : vs.length = f.length
      · have hne : ((n : Int) + 1 != wrap64 (1 + (f.length : Int))) = false := by rw [w64 (by omega) (by omega), bne_eq_false_iff_eq]; omega
        have hpn : parseOf s = takeAll f vs { noCmd with op := v0 } := by unfold parseOf; rw [hwords]; simp [hF, hlen]
        go_wp2
        obtain ⟨F, hFe⟩ : ∃ F : ByteArray, (⟨f.toArray⟩ : ByteArray) = F := ⟨_, rfl⟩
        have hFs : F.size = f.length := by rw [← hFe]; simp [ByteArray.size]
        have hFd : ∀ pos (h : pos < f.length), Utf8.decode F pos = ((f[pos]'h).toNat, 1) := by
          intro pos h
          have hp : pos < F.size := by rw [hFs]; exact h
          have e : F[pos]'hp = f[pos]'h := by subst hFe; rfl
          have hx := hfx _ (List.getElem_mem h)
          have := decode_ascii F pos hp (by rw [e]; rcases hx with hx | hx | hx | hx <;> rw [hx] <;> decide)
          rw [e] at this
          exact this
        rw [hFe]
        go_loopw [] (fun wr => ∃ (pos : Nat) (c : Cmd), pos ≤ f.length ∧ takeAll f vs { noCmd with op := v0 } = takeAll (f.drop pos) (vs.drop pos) c ∧ wr.heap[wc.heap.size + 1]? = some (.stringIter F pos) ∧
          wr.heap[wc.heap.size]? = some (.cells c.cells 23 (0, 0)) ∧ (∀ k, k < wc.heap.size → wr.heap[k]? = wc.heap[k]?) ∧ Below w.heap.size w wr) (fun wr => f.length - wr.iterPos (wc.heap.size + 1))
        case atStart =>
          refine ⟨0, { noCmd with op := v0 }, by omega, rfl, ?_, ?_, ?_, ?_⟩
          · have := World.iter_heap (wc.alloc (.cells #[.string v0, .int .i64 0, .int .i64 0, .int .i64 0, .string ⟨#[]⟩] 23)) F 0
            simpa using this
          · exact blk_alloc (blk_new wc (.cells ({ noCmd with op := v0 } : Cmd).cells 23 (0, 0))) _
          · intro k hk
            exact (Below.heap_alloc _ _ k (by simp; omega)).trans (Below.heap_alloc wc _ k hk)
          · exact (hb1.alloc (by omega) _).alloc (by simp; omega) _
        case round =>
          obtain ⟨pos, c, hpos, htk, hit, hbox, hkeep, hbw⟩ := hrel
          have hsz : wc.heap.size + 1 < wr.heap.size := (Array.getElem?_eq_some_iff.1 hit).1
          by_cases hp : pos < f.length
          · have hp2 : pos < F.size := by rw [hFs]; exact hp
            have hnx : ∀ ty, (Instr.next (.pointer (some ⟨wc.heap.size + 1, 0, none⟩)) true ty).run Tryd.prog wr = _ := fun ty => Lib.run_next_any_at wr (wc.heap.size + 1) F pos ty hit hp2
            rw [hFd pos hp] at hnx
            have hit2 := Lib.iterAt_heap wr (wc.heap.size + 1) F pos (pos + 1) hit
            have hbw2 := Lib.below_iterAt hbw (k := wc.heap.size + 1) (by omega) F (pos + 1)
            have hpv : pos < vs.length := by omega
            have hsl3 : (wr.iterAt (wc.heap.size + 1) F (pos + 1)).heap[w.heap.size + 1]? = some (.cells (Value.string v0 :: vs.map Value.string).toArray 9 (0, 0)) := by
              rw [Lib.iterAt_other _ _ _ _ _ (by omega), hkeep _ (by omega)]; exact hsl1
            have hbox3 : (wr.iterAt (wc.heap.size + 1) F (pos + 1)).heap[wc.heap.size]? = some (.cells c.cells 23 (0, 0)) := by
              rw [Lib.iterAt_other _ _ _ _ _ (by omega)]; exact hbox
            have hcv : (wr.iterAt (wc.heap.size + 1) F (pos + 1)).cell? ⟨w.heap.size + 1, 1 + pos, none⟩ = some (.string (vs[pos]'hpv)) := by
              rw [blk_cell hsl3 (1 + pos), Nat.add_comm 1 pos]
              simp [hpv]
            have hlet : ((f[pos]'hp).toNat : Int) = 105 ∨ ((f[pos]'hp).toNat : Int) = 97 ∨ ((f[pos]'hp).toNat : Int) = 110 ∨ ((f[pos]'hp).toNat : Int) = 100 := by
              rcases hfx _ (List.getElem_mem hp) with hx | hx | hx | hx <;> rw [hx] <;> decide
            have hszi : (wr.iterAt (wc.heap.size + 1) F (pos + 1)).heap.size = wr.heap.size := Lib.iterAt_size _ _ _ _
            go_wp2_with (go_at_call 19; refine (take_post wc.heap.size c ((f[pos]'hp).toNat : Int) (vs[pos]'hpv) w.heap.size _ (hWs _ (List.mem_cons_of_mem _ (List.getElem_mem hpv))) (fun w' h => hv.below (hbw2.trans h) (Nat.le_refl _)) (by omega) hlet hbox3 (by omega)).mono ?_)
            intro e W3 h
            obtain ⟨h, hb4, hk4⟩ := h
            have hdf : f.drop pos = f[pos]'hp :: f.drop (pos + 1) := List.drop_eq_getElem_cons hp
            have hdv : vs.drop pos = vs[pos]'hpv :: vs.drop (pos + 1) := List.drop_eq_getElem_cons hpv
            have hkeep4 : ∀ k, k < wc.heap.size → W3.heap[k]? = wc.heap[k]? := fun k hk => (hk4 k (by omega) (by omega)).trans ((Lib.iterAt_other _ _ _ _ _ (by omega)).trans (hkeep k hk))
            rcases h with ⟨rfl, c', ht, hbox4⟩ | ⟨rfl, ht⟩
            · have hit4 : W3.heap[wc.heap.size + 1]? = some (.stringIter F (pos + 1)) := (hk4 _ (by omega) (by omega)).trans hit2
              go_wp2
              refine ⟨⟨pos + 1, c', by omega, ?_, hit4, hbox4, hkeep4, hbw2.trans hb4⟩, ?_⟩
              · rw [htk, hdf, hdv, takeAll, ht]; rfl
              · simp only [World.iterPos, hit4, hit]
                omega
            · have hpn2 : parseOf s = none := by rw [hpn, htk, hdf, hdv, takeAll, ht]; rfl
              have hres4 : W3.heap[w.heap.size]? = some (.cells noCmd.cells 23 (0, 0)) := (hkeep4 _ (by omega)).trans hres1
              clear hpn
              have q0 : W3.cell? ⟨w.heap.size, 0, none⟩ = some (.string ⟨#[]⟩) := (blk_cell hres4 0).trans rfl
              have y0 := blk_frozen hres4 0
              have q1 : W3.cell? ⟨w.heap.size, 1, none⟩ = some (.int .i64 0) := (blk_cell hres4 1).trans rfl
              have y1 := blk_frozen hres4 1
              have q2 : W3.cell? ⟨w.heap.size, 2, none⟩ = some (.int .i64 0) := (blk_cell hres4 2).trans rfl
              have y2 := blk_frozen hres4 2
              have q3 : W3.cell? ⟨w.heap.size, 3, none⟩ = some (.int .i64 0) := (blk_cell hres4 3).trans rfl
              have y3 := blk_frozen hres4 3
              have q4 : W3.cell? ⟨w.heap.size, 4, none⟩ = some (.string ⟨#[]⟩) := (blk_cell hres4 4).trans rfl
              have y4 := blk_frozen hres4 4
              go_wp2
              refine bodyPost_ret (results_ct rfl _ _ w.heap.size 23 noCmd.cells (0, 0) _ rfl (put_all noCmd hres4) Tryd.underlying23 rfl (by kernel_rfl)) rfl ⟨?_, put_below noCmd (hbw2.trans hb4) (Nat.le_refl _)⟩
              first | (rw [hpn2]; rfl) | rfl
          · have hp2 : ¬ pos < F.size := by rw [hFs]; exact hp
            have hnx : ∀ ty, (Instr.next (.pointer (some ⟨wc.heap.size + 1, 0, none⟩)) true ty).run Tryd.prog wr = _ := fun ty => Lib.run_next_end_at wr (wc.heap.size + 1) F pos ty hit hp2
            have hpn2 : parseOf s = some c := by
              rw [hpn, htk, List.drop_of_length_le (by omega)]; rfl
            have hres4 : wr.heap[w.heap.size]? = some (.cells noCmd.cells 23 (0, 0)) := (hkeep _ (by omega)).trans hres1
            have g0 : wr.cell? ⟨wc.heap.size, 0, none⟩ = some (.string c.op) := (blk_cell hbox 0).trans rfl
            have g1 : wr.cell? ⟨wc.heap.size, 1, none⟩ = some (.int .i64 c.id) := (blk_cell hbox 1).trans rfl
            have g2 : wr.cell? ⟨wc.heap.size, 2, none⟩ = some (.int .i64 c.at_) := (blk_cell hbox 2).trans rfl
            have g3 : wr.cell? ⟨wc.heap.size, 3, none⟩ = some (.int .i64 c.n) := (blk_cell hbox 3).trans rfl
            have g4 : wr.cell? ⟨wc.heap.size, 4, none⟩ = some (.string c.data) := (blk_cell hbox 4).trans rfl
            clear hpn
            have q0 : wr.cell? ⟨w.heap.size, 0, none⟩ = some (.string ⟨#[]⟩) := (blk_cell hres4 0).trans rfl
            have y0 := blk_frozen hres4 0
            have q1 : wr.cell? ⟨w.heap.size, 1, none⟩ = some (.int .i64 0) := (blk_cell hres4 1).trans rfl
            have y1 := blk_frozen hres4 1
            have q2 : wr.cell? ⟨w.heap.size, 2, none⟩ = some (.int .i64 0) := (blk_cell hres4 2).trans rfl
            have y2 := blk_frozen hres4 2
            have q3 : wr.cell? ⟨w.heap.size, 3, none⟩ = some (.int .i64 0) := (blk_cell hres4 3).trans rfl
            have y3 := blk_frozen hres4 3
            have q4 : wr.cell? ⟨w.heap.size, 4, none⟩ = some (.string ⟨#[]⟩) := (blk_cell hres4 4).trans rfl
            have y4 := blk_frozen hres4 4
            go_wp2
            refine bodyPost_ret (results_ct rfl _ _ w.heap.size 23 c.cells (0, 0) _ rfl (put_all c hres4) Tryd.underlying23 rfl (by kernel_rfl)) rfl ⟨?_, put_below c hbw (Nat.le_refl _)⟩
            first | (rw [hpn2]; rfl) | rfl
      · have hpn : parseOf s = none := by unfold parseOf; rw [hwords]; simp [hF, hlen]
        have hne : ((n : Int) + 1 != wrap64 (1 + (f.length : Int))) = true := by rw [w64 (by omega) (by omega), bne_iff_ne]; omega
        go_wp2
        refine bodyPost_ret (results_ct rfl _ _ w.heap.size 23 noCmd.cells (0, 0) _ rfl (put_all noCmd hres1) Tryd.underlying23 rfl (by kernel_rfl)) rfl ⟨?_, put_below noCmd hb1 (Nat.le_refl _)⟩
        rw [hpn]; rfl
end Go.Proofs.YtlinnmllbbmnpaaDoor
