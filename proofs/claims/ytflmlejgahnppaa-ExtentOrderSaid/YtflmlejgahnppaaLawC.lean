/- What the law of order comes to, at every input: true. No memory. -/
import Derived.Test.YtflmlejgahnppaaLawB
import Derived.Test.YtflmlejgahnppaaPExtx14
namespace Go.Proofs.Ytflmlejgahnppaa.PExt
open Go.RowKit Go.Sort Go.Proofs.YtflmlejgahnppaaW.PrintWords Go.Proofs.YtflmlejgahnppaaW.PrintLast Go.Proofs.YtflmlejgahnppaaW.PrintMore

/-! ### ExtentOrder -/
theorem goodB_perm {s m : Int} {l l' : List S23} (p : l.Perm l') : goodB s m l' = goodB s m l := by
  by_cases h : Good s m l
  · rw [goodB_true.2 h, goodB_true.2 (h.perm p)]
  · rw [goodB_false h, goodB_false (fun hh => h (hh.perm p.symm))]
theorem gapsA_perm {s m : Int} {l l' : List S23} (p : l.Perm l') : gapsA s m l' = gapsA s m l := by
  by_cases h : Good s m l
  · rw [gapsA_good h, gapsA_good (h.perm p)]
    unfold gapsR; rw [sortX_unique p h]
  · rw [gapsA_bad h, gapsA_bad (fun hh => h (hh.perm p.symm))]
theorem fitA_perm {s m n : Int} {l l' : List S23} (p : l.Perm l') : fitA s m n l' = fitA s m n l := by
  by_cases h : 1 ≤ n ∧ Good s m l
  · rw [fitA_good h.1 h.2, fitA_good h.1 (h.2.perm p)]
    unfold gapsR; rw [sortX_unique p h.2]
  · rw [fitA_bad h, fitA_bad (fun hh => h ⟨hh.1, hh.2.perm p.symm⟩)]

theorem order_loop {l : List S23} {n s m : Int} (hl : l.length ≤ 20) (hend : Ev (fun k => oakumlaw11_ExtentOrder.l0 k l n l.reverse (-1) s m) true) :
    ∀ i : Nat, i ≤ l.length → Ev (fun k => oakumlaw11_ExtentOrder.l0 k l n (l.drop i).reverse ((i : Int) - 1) s m) true := by
  intro i
  induction i with
  | zero => intro _; simpa using hend
  | succ i ih =>
    intro hi
    have hk := ih (by omega)
    have hlt : i < l.length := by omega
    have e : (l.drop i).reverse = (l.drop (i + 1)).reverse ++ [(⟨(rd_T23 l (i : Int)).f0, (rd_T23 l (i : Int)).f1⟩ : S23)] := by
      rw [rd_at hlt, drop_at hlt, List.reverse_cons]
    have hi1 : ((i + 1 : Nat) : Int) - 1 = (i : Int) := by omega
    rw [e] at hk
    rw [hi1]
    have hdl : (l.drop (i + 1)).reverse.length < 8796093022208 := by simp; omega
    exact Ev.step (fun k => by
      simp only [oakumlaw11_ExtentOrder.l0]
      rw [if_pos (by omega), if_pos (by omega), if_pos (by omega), if_pos hdl, w64 (by omega) (by omega)]) hk

theorem order_end {l : List S23} {n s m : Int} (hf : Fine l) (hl : l.length ≤ 20) : Ev (fun k => oakumlaw11_ExtentOrder.l0 k l n l.reverse (-1) s m) true := by
  have p : l.Perm l.reverse := (List.reverse_perm l).symm
  have hf' := hf.perm p
  have hlen : l.length ≤ 8796093021952 := by omega
  have hlen' : l.reverse.length ≤ 8796093021952 := by rw [List.length_reverse]; omega
  have hg : (gapsA s m l).1.length ≤ 1000000 := by
    by_cases h : Good s m l
    · rw [gapsA_good h]; have := gapsR_length (s := s) (m := m) (l := l); show (gapsR s m l).length ≤ _; omega
    · rw [gapsA_bad h]; decide
  refine Ev.step (fun k => by simp only [oakumlaw11_ExtentOrder.l0]; exact if_neg (by decide)) ?_
  refine Ev.bind (Gaps_ev hf hlen) ?_
  refine Ev.bind (Gaps_ev hf' hlen') ?_
  refine Ev.bind (Fit_ev hf hlen) ?_
  refine Ev.bind (Fit_ev hf' hlen') ?_
  rw [gapsA_perm p, fitA_perm p]
  refine Ev.bind (same_ev hg) ?_
  have hlast : Ev (fun k => oakumlaw11_ExtentOrder.j1 k l l.reverse (gapsA s m l).2 (gapsA s m l).2 (fitA s m n l).2.2 (fitA s m n l).2.2 true s m (fitA s m n l).1 (fitA s m n l).2.1 (fitA s m n l).1 (fitA s m n l).2.1) true := by
    refine Ev.step (fun k => by simp only [oakumlaw11_ExtentOrder.j1]; rfl) ?_
    refine Ev.bind alive_ev ?_
    refine Ev.congr (fun k => by rw [if_pos (by trivial), if_pos (by trivial), if_pos (by trivial), if_pos (by simp), if_pos (by trivial)]) ?_
    refine Ev.bind (Right_ev hf hlen) ?_
    refine Ev.bind (Right_ev hf' hlen') ?_
    rw [goodB_perm p]
    simp only [BEq.rfl]
    exact Ev.now _
  by_cases h0 : (l.length : Int) > 0
  · have h0' : 0 < l.length := by omega
    have hx : rd_T23 l 0 = l[0] := rd_at h0'
    have hbad : ¬ Good s m (l ++ [l[0]]) := by
      intro hh
      have h1 := (hh.2.1 l[0] (by simp)).1
      have h2 := (List.pairwise_append.1 hh.2.2).2.2 l[0] (List.getElem_mem h0') l[0] (by simp)
      unfold apartP at h2
      omega
    have hfm : Fine (l ++ [l[0]]) := by
      intro x hx
      rcases List.mem_append.1 hx with hx | hx
      · exact hf x hx
      · simp only [List.mem_singleton] at hx; subst hx; exact hf _ (List.getElem_mem h0')
    refine Ev.congr (fun k => by
      simp only [Option.bind_some, List.nil_append, List.length_nil, Nat.zero_add]
      rw [if_pos h0, if_pos (by omega), if_pos (by omega), if_pos (by omega), hx]) ?_
    refine Ev.bind (Right_ev hfm (by rw [List.length_append]; simp; omega)) ?_
    rw [goodB_false hbad]
    exact Ev.congr (fun k => if_neg (by decide)) hlast
  · exact Ev.congr (fun k => if_neg h0) hlast

theorem order_ev {s m n : Int} {l : List S23} (hf : Fine l) (hlen : l.length ≤ 8796093021952) : Ev (fun k => oakumlaw11_ExtentOrder.f k s m l n) true := by
  unfold oakumlaw11_ExtentOrder.f
  by_cases h20 : (l.length : Int) > 20
  · exact Ev.congr (fun k => if_pos h20) alive_some
  · have h := order_loop (by omega) (order_end (s := s) (m := m) (n := n) hf (by omega)) l.length (Nat.le_refl _)
    rw [List.drop_length] at h
    exact Ev.congr (fun k => by rw [if_neg h20, w64 (by omega) (by omega)]; rfl) h
end Go.Proofs.Ytflmlejgahnppaa.PExt
