import Derived.Test.YtpnfmaphlfobpaaF6
import Derived.Test.YtpnfmaphlfobpaaLogG
namespace Go.Proofs.Ytpnfmaphlfobpaa.Pure
open Go.RowKit Go.Proofs.YtpnfmaphlfobpaaW.PrintWords Go.Proofs.YtpnfmaphlfobpaaW.PrintMore Go.Proofs.Ytpnfmaphlfobpaa.F Go.Proofs.Ytpnfmaphlfobpaa.Pk Go.Proofs.Ytpnfmaphlfobpaa.LogP
set_option linter.unusedSimpArgs false
set_option linter.unusedVariables false
theorem LogJoins : bailiwicklaw20_LogJoins.Pure := by
  intro l0 l1 h0 h1
  refine Ev.rounds (g := fun k => bailiwicklaw20_LogJoins.f k l0 l1) ?_
  have hm0 : 0 ≤ mn (l0.length : Int) 2000 ∧ mn (l0.length : Int) 2000 ≤ l0.length ∧ mn (l0.length : Int) 2000 ≤ 2000 := by rw [mn_eq]; split <;> omega
  have hm1 : 0 ≤ mn (l1.length : Int) 2000 ∧ mn (l1.length : Int) 2000 ≤ l1.length ∧ mn (l1.length : Int) 2000 ≤ 2000 := by rw [mn_eq]; split <;> omega
  simp only [bailiwicklaw20_LogJoins.f, bailiwicklaw20_awake.f, Option.bind_some, if_true, if_pos hm0.1, if_pos hm0.2.1, if_pos hm1.1, if_pos hm1.2.1]
  have hA : Bs (l0.take (mn (l0.length : Int) 2000).toNat) := (Bs.of h0.2.2).take _
  have hB : Bs (l1.take (mn (l1.length : Int) 2000).toNat) := (Bs.of h1.2.2).take _
  have lA : (l0.take (mn (l0.length : Int) 2000).toNat).length ≤ 2000 := by rw [List.length_take]; omega
  have lB : (l1.take (mn (l1.length : Int) 2000).toNat).length ≤ 2000 := by rw [List.length_take]; omega
  generalize l0.take (mn (l0.length : Int) 2000).toNat = a at hA lA ⊢
  generalize l1.take (mn (l1.length : Int) 2000).toNat = b at hB lB ⊢
  obtain ⟨es, n, ra⟩ := Rd.total _ a (Nat.le_refl _)
  obtain ⟨fs, m, rb⟩ := Rd.total _ b (Nat.le_refl _)
  have hle := ra.le
  have rg := ra.good
  have hgl : (a.take n).length = n := by rw [List.length_take]; omega
  have hgB : Bs (a.take n) := hA.take n
  have rj := rg.joins hgl.symm rb
  refine Ev.bind (good_ev hA (by omega) ra) ?_
  refine Ev.bind (read_ev hgB (by omega) rg) ?_
  refine Ev.bind (read_ev hB (by omega) rb) ?_
  have hles := rb.le
  simp only [List.nil_append, List.length_nil, Nat.zero_add, if_pos (show (a.take n).length < 140737488355328 by omega), if_pos (show (a.take n).length + b.length < 140737488355328 by omega), Option.bind_some]
  refine Ev.bind (read_ev (hgB.append hB) (by rw [List.length_append]; omega) rj) ?_
  have q1 : (0 : Int) ≤ (es.length : Int) := by omega
  have q2 : (es.length : Int) ≤ ((es ++ fs).length : Int) := by rw [List.length_append]; omega
  have q3 : es.length < 4000000000000 := by omega
  have q4 : fs.length < 4000000000000 := by omega
  have e1 : wrap64 ((n : Int) + (m : Int)) = ((n + m : Nat) : Int) := by rw [w64 (by omega) (by omega)]; omega
  have e2 : wrap64 ((es.length : Int) + (fs.length : Int)) = ((es ++ fs).length : Int) := by rw [w64 (by omega) (by omega), List.length_append]; omega
  simp only [e1, e2, hgl, if_true, if_pos q1, if_pos q2, Int.toNat_natCast, List.take_left, List.drop_left]
  have bes := ra.bs hA
  have bfs := rb.bs hB
  refine Ev.bind (same_ev bes bes q3) ?_
  simp only [decide_true, if_true]
  refine Ev.bind (same_ev bfs bfs q4) ?_
  simp only [decide_true]
  exact Ev.now _
end Go.Proofs.Ytpnfmaphlfobpaa.Pure
