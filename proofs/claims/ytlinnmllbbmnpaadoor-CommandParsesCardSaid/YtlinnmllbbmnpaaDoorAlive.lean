/- The live question of the command laws: walked; it is true. -/
import Derived.Test.YtlinnmllbbmnpaaDoorMath
import Derived.Test.YtlinnmllbbmnpaaDoorPrint
namespace Go.Proofs.YtlinnmllbbmnpaaDoor
open Go.RowKit Go.Maps Go.Proofs.YtlinnmllbbmnpaaDoorW.PrintWords Go.Proofs.YtlinnmllbbmnpaaDoorW.PrintLast Go.Proofs.YtlinnmllbbmnpaaDoorW.PrintMore

def aliveT : ByteArray := ⟨#[119, 114, 105, 116, 101, 32, 50, 32, 51, 48, 32, 54, 49, 48, 48]⟩
def aliveS : ByteArray := ⟨#[115, 116, 101, 112, 32, 49]⟩
def aliveC : Cmd := ⟨⟨#[119, 114, 105, 116, 101]⟩, 2, 30, 0, ⟨#[97, 0]⟩⟩
theorem wordsB_T : wordsB aliveT = [⟨#[119, 114, 105, 116, 101]⟩, ⟨#[50]⟩, ⟨#[51, 48]⟩, ⟨#[54, 49, 48, 48]⟩] := by decide +kernel
theorem wordsB_S : wordsB aliveS = [⟨#[115, 116, 101, 112]⟩, ⟨#[49]⟩] := by decide +kernel
theorem parse_T : parseOf aliveT = some aliveC := by
  unfold parseOf
  rw [wordsB_T]
  have hF : formOf (⟨#[119, 114, 105, 116, 101]⟩ : ByteArray).data.toList = some [105, 97, 100] := by decide
  simp only [hF, Option.bind_some]
  rw [if_pos (by decide)]
  have n1 : numL 2147483647 [50] = some 2 := by decide +kernel
  have n2 : numL 2147483647 [51, 48] = some 30 := by decide +kernel
  have n3 : bytesOf [54, 49, 48, 48] = some [97, 0] := by decide +kernel
  have t1 : ∀ c, takeOk (((105 : UInt8).toNat : Nat) : Int) (⟨#[50]⟩ : ByteArray).data.toList c = some (c.put 105 2) := fun c => by
    unfold takeOk; rw [if_neg (by decide), takeNum_eq, show (⟨#[50]⟩ : ByteArray).data.toList = [50] from rfl, n1]; rfl
  have t2 : ∀ c, takeOk (((97 : UInt8).toNat : Nat) : Int) (⟨#[51, 48]⟩ : ByteArray).data.toList c = some (c.put 97 30) := fun c => by
    unfold takeOk; rw [if_neg (by decide), takeNum_eq, show (⟨#[51, 48]⟩ : ByteArray).data.toList = [51, 48] from rfl, n2]; rfl
  have t3 : ∀ c, takeOk (((100 : UInt8).toNat : Nat) : Int) (⟨#[54, 49, 48, 48]⟩ : ByteArray).data.toList c = some { c with data := ⟨#[97, 0]⟩ } := fun c => by
    unfold takeOk; rw [if_pos (by decide), show (⟨#[54, 49, 48, 48]⟩ : ByteArray).data.toList = [54, 49, 48, 48] from rfl, n3]; rfl
  simp only [takeAll, t1, t2, t3, Option.bind_some]
  rfl
theorem parse_S : parseOf aliveS = none := by
  unfold parseOf
  rw [wordsB_S]
  have hF : formOf (⟨#[115, 116, 101, 112]⟩ : ByteArray).data.toList = some [] := by decide
  simp only [hF, Option.bind_some]
  rw [if_neg (by decide)]
theorem print_T : printOf aliveC = some aliveT := by
  have hF : formOf aliveC.op.data.toList = some [105, 97, 100] := by decide
  have h2 : Lib.itoa 2 = [50] := (itoa_nat 2).trans (by rw [Lib.decDigits, dif_pos (by decide)]; rfl)
  have h30 : Lib.itoa 30 = [51, 48] := (itoa_nat 30).trans (by rw [Lib.decDigits, dif_neg (by decide), Lib.decDigits, dif_pos (by decide)]; rfl)
  have hT : textOf aliveC [105, 97, 100] = aliveT := by
    unfold textOf wordOf aliveC
    simp only [List.map_cons, List.map_nil, if_pos, if_neg (by decide : ¬ (105 : UInt8) = 100), if_neg (by decide : ¬ (97 : UInt8) = 100), if_neg (by decide : ¬ (97 : UInt8) = 105), h2, h30]
    decide +kernel
  unfold printOf
  rw [hF]
  simp only [Option.bind_some]
  rw [hT, parse_T, if_pos rfl]

set_option maxHeartbeats 8000000 in
set_option maxRecDepth 1000000 in
theorem alive_calls (w : World) (hv : Vars w) :
    Calls Tryd.prog 5 #[] w fun e w' => e = .returned (.bool true) ∧ Below w.heap.size w w' := by
  have hp := print_calls aliveC (w.alloc (.cells aliveC.cells 23)) (by decide) ⟨by constructor <;> decide, by constructor <;> decide, by constructor <;> decide⟩ (hv.below ((Below.refl _ w).alloc (Nat.le_refl _) _) (Nat.le_refl _))
  rw [print_T] at hp
  unfold printVal Cmd.agg Cmd.cells aliveC aliveT at hp
  have HP := Aside0.mk hp
  clear hp
  go_enter Tryd.func5, Tryd.ntmps5
  have hbox0 : (w.alloc (.cells aliveC.cells 23)).heap[w.heap.size]? = some (.cells aliveC.cells 23 (0, 0)) := blk_new w _
  have hb0 : Below w.heap.size w (w.alloc (.cells aliveC.cells 23)) := (Below.refl _ w).alloc (Nat.le_refl _) _
  have hsz0 : (w.alloc (.cells aliveC.cells 23)).heap.size = w.heap.size + 1 := by simp
  unfold Cmd.cells aliveC at hbox0 hb0 hsz0
  go_wp2_with fail
  refine HP.out.mono ?_
  clear HP
  generalize w.alloc (.cells #[.string ⟨#[119, 114, 105, 116, 101]⟩, .int .i64 2, .int .i64 30, .int .i64 0, .string ⟨#[97, 0]⟩] 23) = W0 at hbox0 hb0 hsz0 ⊢
  rintro e W1 ⟨rfl, hb1⟩
  have hbox1 := blk_below hbox0 hb1
  have hb1w : Below w.heap.size w W1 := hb0.trans (hb1.mono (by omega))
  have hsz1 : W0.heap.size ≤ W1.heap.size := hb1.size
  clear hbox0 hb0 hb1
  go_wp2_with fail
  have hp2 := parse_calls aliveT W1 (by decide) (hv.below hb1w (Nat.le_refl _))
  rw [parse_T] at hp2
  refine hp2.mono ?_
  clear hp2
  rintro e W2 ⟨rfl, hb2⟩
  have hbox2 := blk_below hbox1 hb2
  have hb2w : Below w.heap.size w W2 := hb1w.trans (hb2.mono (by omega))
  have hsz2 : W1.heap.size ≤ W2.heap.size := hb2.size
  clear hbox1 hb1w hb2
  unfold parseVal Cmd.agg Cmd.cells aliveC
  have hx0 : (W2.alloc (.cells #[.string ⟨#[119, 114, 105, 116, 101]⟩, .int .i64 2, .int .i64 30, .int .i64 0, .string ⟨#[97, 0]⟩] 23)).heap[W2.heap.size]? = some (.cells #[.string ⟨#[119, 114, 105, 116, 101]⟩, .int .i64 2, .int .i64 30, .int .i64 0, .string ⟨#[97, 0]⟩] 23 (0, 0)) := blk_new W2 _
  have hbox3 := blk_alloc hbox2 (.cells #[.string ⟨#[119, 114, 105, 116, 101]⟩, .int .i64 2, .int .i64 30, .int .i64 0, .string ⟨#[97, 0]⟩] 23)
  have hb3w : Below w.heap.size w (W2.alloc (.cells #[.string ⟨#[119, 114, 105, 116, 101]⟩, .int .i64 2, .int .i64 30, .int .i64 0, .string ⟨#[97, 0]⟩] 23)) := hb2w.alloc hb2w.size _
  go_wp2_with fail
  have hp3 := parse_calls aliveS _ (by decide) (hv.below hb3w (Nat.le_refl _))
  rw [parse_S] at hp3
  refine hp3.mono ?_
  clear hp3
  generalize W2.alloc (.cells #[.string ⟨#[119, 114, 105, 116, 101]⟩, .int .i64 2, .int .i64 30, .int .i64 0, .string ⟨#[97, 0]⟩] 23) = W3 at hx0 hbox3 hb3w ⊢
  rintro e W4 ⟨rfl, hb4⟩
  have hbox4 := blk_below hbox3 hb4
  have hx4 := blk_below hx0 hb4
  have hb4w : Below w.heap.size w W4 := hb3w.trans (hb4.mono hb3w.size)
  clear hbox2 hbox3 hx0 hb4 hb2w hb3w
  unfold parseVal Cmd.agg Cmd.cells noCmd
  have c0 : (W4.alloc (.cells #[.string ⟨#[]⟩, .int .i64 0, .int .i64 0, .int .i64 0, .string ⟨#[]⟩] 23)).cell? ⟨w.heap.size, 0, none⟩ = some (.string ⟨#[119, 114, 105, 116, 101]⟩) := (blk_cell (blk_alloc hbox4 _) 0).trans rfl
  have c1 : (W4.alloc (.cells #[.string ⟨#[]⟩, .int .i64 0, .int .i64 0, .int .i64 0, .string ⟨#[]⟩] 23)).cell? ⟨w.heap.size, 1, none⟩ = some (.int .i64 2) := (blk_cell (blk_alloc hbox4 _) 1).trans rfl
  have c2 : (W4.alloc (.cells #[.string ⟨#[]⟩, .int .i64 0, .int .i64 0, .int .i64 0, .string ⟨#[]⟩] 23)).cell? ⟨w.heap.size, 2, none⟩ = some (.int .i64 30) := (blk_cell (blk_alloc hbox4 _) 2).trans rfl
  have c3 : (W4.alloc (.cells #[.string ⟨#[]⟩, .int .i64 0, .int .i64 0, .int .i64 0, .string ⟨#[]⟩] 23)).cell? ⟨w.heap.size, 3, none⟩ = some (.int .i64 0) := (blk_cell (blk_alloc hbox4 _) 3).trans rfl
  have c4 : (W4.alloc (.cells #[.string ⟨#[]⟩, .int .i64 0, .int .i64 0, .int .i64 0, .string ⟨#[]⟩] 23)).cell? ⟨w.heap.size, 4, none⟩ = some (.string ⟨#[97, 0]⟩) := (blk_cell (blk_alloc hbox4 _) 4).trans rfl
  have x0 : (W4.alloc (.cells #[.string ⟨#[]⟩, .int .i64 0, .int .i64 0, .int .i64 0, .string ⟨#[]⟩] 23)).cell? ⟨W2.heap.size, 0, none⟩ = some (.string ⟨#[119, 114, 105, 116, 101]⟩) := (blk_cell (blk_alloc hx4 _) 0).trans rfl
  have x1 : (W4.alloc (.cells #[.string ⟨#[]⟩, .int .i64 0, .int .i64 0, .int .i64 0, .string ⟨#[]⟩] 23)).cell? ⟨W2.heap.size, 1, none⟩ = some (.int .i64 2) := (blk_cell (blk_alloc hx4 _) 1).trans rfl
  have x2 : (W4.alloc (.cells #[.string ⟨#[]⟩, .int .i64 0, .int .i64 0, .int .i64 0, .string ⟨#[]⟩] 23)).cell? ⟨W2.heap.size, 2, none⟩ = some (.int .i64 30) := (blk_cell (blk_alloc hx4 _) 2).trans rfl
  have x3 : (W4.alloc (.cells #[.string ⟨#[]⟩, .int .i64 0, .int .i64 0, .int .i64 0, .string ⟨#[]⟩] 23)).cell? ⟨W2.heap.size, 3, none⟩ = some (.int .i64 0) := (blk_cell (blk_alloc hx4 _) 3).trans rfl
  have x4 : (W4.alloc (.cells #[.string ⟨#[]⟩, .int .i64 0, .int .i64 0, .int .i64 0, .string ⟨#[]⟩] 23)).cell? ⟨W2.heap.size, 4, none⟩ = some (.string ⟨#[97, 0]⟩) := (blk_cell (blk_alloc hx4 _) 4).trans rfl
  go_wp2
  go_ret
  exact ⟨rfl, hb4w.alloc hb4w.size _⟩
end Go.Proofs.YtlinnmllbbmnpaaDoor
