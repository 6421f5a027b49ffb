/- share: Fade. -/
import Derived.Test.YtnkcenafpigmbaaShD
namespace Go.Proofs.Ytnkcenafpigmbaa.Ab
open Go.RowKit Go.Proofs.Ytnkcenafpigmbaa.Fl
set_option linter.unusedVariables false
set_option linter.unusedSimpArgs false

theorem fGt_zero {x : Nat} (h : x < INF) : fGt .f64 x 0 = decide (0 < x) := by
  refine fG ?_
  rw [order_fin h (show 0 < INF by decide)]
  by_cases q : 0 < x
  · rw [Nat.compare_eq_gt.2 q, decide_eq_true q]; rfl
  · have : x = 0 := by omega
    subst this
    rfl
theorem fadeF_end {x i n : Nat} (h : fadeF x i = 0) (hi : i ≤ n) : fadeF x n = 0 := by
  obtain ⟨k, rfl⟩ := Nat.le.dest hi
  exact fadeF_stay h k
set_option maxHeartbeats 4000000 in
theorem Fade_c (x : Nat) (h : Int) (hx : x < 18446744073709551616) : ACalls Try.prog 70 [fv x, iv h] (· = .one (.sv (fv (fadeF x (halvesN h))))) := by
  refine ACalls.of_bodyS (fun _ _ => Try.call70 _ _) Try.func70 rfl Try.ntmps70 (by simp) ?_
  refine Tr.ex ?_
  have hI : INF = 9218868437227405312 := rfl
  have hcl := cl_lt x
  have hB := b52_pos
  have hm : (if 0 < if (4096 : Int) < h then 4096 else h then if (4096 : Int) < h then 4096 else h else 0) = (halvesN h : Int) := by
    unfold halvesN
    split <;> split at * <;> omega
  have hn : halvesN h ≤ 4096 := by unfold halvesN; omega
  have hqb := q52_lt hcl
  simp [go_sem]
  refine OpW.fn true (Clean_c x hx) rfl rfl (by simp [go_sem]) (by rintro _ r rfl; simp [go_sem]) ?_
  rintro r rfl
  simp [go_sem, hm]
  refine OpW.fn true (Frexp_c (cl x) hcl) rfl rfl (by simp [go_sem]) (by rintro _ r ⟨y, e, _, rfl⟩; simp [go_sem]) ?_
  rintro r ⟨y, e, ⟨e0, e1, e2⟩, rfl⟩
  generalize halvesN h = n at *
  have we : -1100 ≤ e ∧ e ≤ 1100 := by
    by_cases c : cl x = 0
    · have := e0 c; omega
    · by_cases c1 : B52 ≤ cl x
      · have := e1 c1; omega
      · have := e2 (by omega) c; omega
  by_cases c : cl x = 0
  · have hf : fadeF x n = 0 := fadeF_none c
    have he := e0 c
    subst he
    have w1 : IntKind.i64.wrap (0 - (n : Int)) = -(n : Int) := by rw [i64w] <;> omega
    have w2 : IntKind.i64.wrap (-(n : Int)) = -(n : Int) := by rw [i64w] <;> omega
    have fL := Ldexp_c (cl x) n hcl hn (.inl c)
    rw [c, Nat.zero_sub] at fL
    rw [hf, c]
    have hz : fGt .f64 0 0 = false := fGt_zero (by decide)
    by_cases c1 : -(n : Int) > -1000
    · simp [go_sem, w1, w2, c1]
      refine OpW.fn true fL rfl rfl (by simp [go_sem]) (by rintro _ r rfl; simp [go_sem]) ?_
      rintro r rfl
      simp [go_sem]
    · have cn : 0 < n := by omega
      simp [go_sem, w1, w2, c1]
      refine LoopW.of (fun i : Nat => ⟨37, [(0, .sv (fv 0)), (4, .sv (fv 0)), (5, .sv (iv n))], []⟩)
        (fun i => i = 0) (fun i => 0 - i) 0 rfl (Ent.chk (by simp [go_sem])) ?_
      rintro i rfl
      simp [go_sem, hz, cn]
  · have w1 : IntKind.i64.wrap (e - (n : Int)) = e - (n : Int) := by
      rw [i64w]
      · omega
      · omega
    have w2 : IntKind.i64.wrap (-(n : Int)) = -(n : Int) := by rw [i64w] <;> omega
    by_cases c1 : e - (n : Int) > -1000
    · have c2 : B52 ≤ cl x := by
        refine Decidable.byContradiction fun q => ?_
        have := e2 (by omega) c
        omega
      have he := e1 c2
      have hq : n + 22 < q52 (cl x) := by omega
      have fL := Ldexp_c (cl x) n hcl hn (.inr hq)
      rw [fadeF_far hq n (Nat.le_refl _)]
      generalize cl x - n * B52 = z at *
      simp [go_sem, w1, w2, c1]
      refine OpW.fn true fL rfl rfl (by simp [go_sem]) (by rintro _ r rfl; simp [go_sem]) ?_
      rintro r rfl
      simp [go_sem]
    · simp [go_sem, w1, w2, c1]
      refine LoopW.of (fun i : Nat => ⟨37, [(0, .sv (fv (fadeF x i))), (4, .sv (fv 0)), (5, .sv (iv ((n : Int) - i)))], []⟩)
        (fun i => i ≤ n) (fun i => n - i) 0 (by omega) (Ent.chk (by simp [go_sem, fadeF_zero])) ?_
      intro i hi
      have hfl := fadeF_lt x i
      have hb := hv_bits_div hfl
      have hsu := fadeF_succ x i
      have hg := fGt_zero hfl
      have hw : IntKind.i64.wrap ((n : Int) - i - 1) = (n : Int) - ((i + 1 : Nat) : Int) := by rw [i64w] <;> omega
      by_cases d1 : i < n
      · have d1' : 0 < (n : Int) - i := by omega
        by_cases d2 : 0 < fadeF x i
        · rw [decide_eq_true d2] at hg
          generalize fadeF x i = s at *
          generalize hS' : fadeF x (i + 1) = s' at *
          simp [go_sem, d1, d1', hg, hb]
          exact ⟨i + 1, by omega, by omega, Ent.chk (by simp at hw; simp [go_sem, hw, hS', hsu])⟩
        · rw [decide_eq_false d2] at hg
          have hz : fadeF x i = 0 := by omega
          rw [fadeF_end hz hi]
          rw [hz] at hg ⊢
          simp [go_sem, d1, d1', hg]
      · have d0 : i = n := by omega
        subst d0
        generalize fadeF x i = s at *
        simp [go_sem]
end Go.Proofs.Ytnkcenafpigmbaa.Ab
