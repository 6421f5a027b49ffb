/- The law ShareRight. -/
import Derived.Test.YtpjcicbohgcehaaShM
namespace Go.Proofs.Ytpjcicbohgcehaa.Ab
open Go.RowKit Go.Proofs.Ytpjcicbohgcehaa.Fl
set_option linter.unusedVariables false
set_option linter.unusedSimpArgs false
theorem cut_at {α : Type} (g : α → SV) (l : List α) (k : Nat) : List.take (if (k : Int) < l.length then (k : Int) else (l.length : Int)).toNat (l.map g) = (l.take k).map g := by
  rw [List.map_take]
  split
  · rw [Int.toNat_natCast]
  · rename_i h
    rw [Int.toNat_natCast, List.take_of_length_le (by simp), List.take_of_length_le (by simp; omega)]
set_option maxHeartbeats 4000000 in
set_option maxRecDepth 100000 in
theorem ShareRight_c (x : Nat) (h : Int) (l : List Nat) (u : Use) (hx : x < 18446744073709551616) (hlw : ∀ y ∈ l, y < 18446744073709551616) (hl : l.length ≤ 100000000000000) (hu : UseW u) :
    ACalls Try.prog 6 [fv x, iv h, fls l, useSV u] (· = .one (.sv (bv true))) := by
  refine ACalls.of_bodyS (fun _ _ => Try.call6 _ _) Try.func6 rfl Try.ntmps6 (by simp) ?_
  refine Tr.ex ?_
  have hw' : ∀ y ∈ l.take 200, y < 18446744073709551616 := fun y hy => hlw y (List.mem_of_mem_take hy)
  have htl : (l.take 200).length ≤ 200 := by rw [List.length_take]; omega
  have hmt := cut_at fv l 200
  have f1 := Clean_c x hx
  have f2 := rClean_c x hx
  have f3 := same_c (cl x) (cl x)
  rw [decide_eq_true rfl] at f3
  have f4 := Fade_c x h hx
  have f5 := rFade_c x h hx
  have f6 := same_c (fadeF x (halvesN h)) (fadeF x (halvesN h))
  rw [decide_eq_true rfl] at f6
  have f7 := Sum_c (l.take 200) (by omega) hw'
  have f8 := rSum_c (l.take 200) (by omega) hw'
  have f9 := same_c (sumF (l.take 200)) (sumF (l.take 200))
  rw [decide_eq_true rfl] at f9
  have f10 := Share_c u hu
  have f11 := rShare_c u hu
  have f12 := same_c (shr u) (shr u)
  rw [decide_eq_true rfl] at f12
  generalize sumF (l.take 200) = s at *
  generalize l.take 200 = l' at *
  generalize fadeF x (halvesN h) = f at *
  generalize shr u = r at *
  generalize cl x = c at *
  simp only [fv, Int.cast_ofNat_Int] at hmt
  simp [go_sem]
  refine OpW.fn true awake15_c rfl rfl (by simp [go_sem]) (by rintro _ r rfl; simp [go_sem]) ?_
  rintro r rfl
  simp [go_sem]
  refine ⟨⟨by split <;> omega, by split <;> omega⟩, ?_⟩
  rw [hmt]
  refine DrawW.rd rfl ?_
  simp [go_sem]
  refine OpD.call true f1 rfl rfl (by simp [go_sem]) (by intro _; simp [go_sem]) (by simp [go_sem]) (by simp [go_sem]) ?_
  simp [go_sem]
  refine OpD.call true f2 rfl rfl (by simp [go_sem]) (by intro _; simp [go_sem]) (by simp [go_sem]) (by simp [go_sem]) ?_
  simp [go_sem]
  refine OpD.call true f3 rfl rfl (by simp [go_sem]) (by intro _; simp [go_sem]) (by simp [go_sem]) (by simp [go_sem]) ?_
  simp [go_sem]
  refine OpD.call true f4 rfl rfl (by simp [go_sem]) (by intro _; simp [go_sem]) (by simp [go_sem]) (by simp [go_sem]) ?_
  simp [go_sem]
  refine OpD.call true f5 rfl rfl (by simp [go_sem]) (by intro _; simp [go_sem]) (by simp [go_sem]) (by simp [go_sem]) ?_
  simp [go_sem]
  refine OpD.call true f6 rfl rfl (by simp [go_sem]) (by intro _; simp [go_sem]) (by simp [go_sem]) (by simp [go_sem]) ?_
  simp [go_sem]
  refine OpD.call true f7 rfl rfl (by simp [go_sem]) (by intro _; simp [go_sem]) (by simp [go_sem]) (by simp [go_sem]) ?_
  simp [go_sem]
  refine OpD.call true f8 rfl rfl (by simp [go_sem]) (by intro _; simp [go_sem]) (by simp [go_sem]) (by simp [go_sem]) ?_
  simp [go_sem]
  refine OpD.call true f9 rfl rfl (by simp [go_sem]) (by intro _; simp [go_sem]) (by simp [go_sem]) (by simp [go_sem]) ?_
  simp [go_sem]
  refine OpD.call true f10 rfl rfl (by simp [go_sem]) (by intro _; simp [go_sem]) (by simp [go_sem]) (by simp [go_sem]) ?_
  simp [go_sem]
  refine OpD.call true f11 rfl rfl (by simp [go_sem]) (by intro _; simp [go_sem]) (by simp [go_sem]) (by simp [go_sem]) ?_
  simp [go_sem]
  refine OpD.call true f12 rfl rfl (by simp [go_sem]) (by intro _; simp [go_sem]) (by simp [go_sem]) (by simp [go_sem]) ?_
  simp [go_sem]
  show _ = true
  kernel_rfl
theorem floats_lt {l : List Nat} (h : ∀ x ∈ l, (Lit.float .f64 x).wf = true) : ∀ y ∈ l, y < 18446744073709551616 := fun y hy => fl_wf (h y hy)
theorem law_ShareRight (x : Nat) (halves : Int) (l : List Nat) (u : Use) (h0 : (Lit.float .f64 x).wf = true) (h1 : (Lit.int .i64 halves).wf = true) (h2 : l.length * 8 ≤ 140737488351232 ∧ l.length ≤ maxLen ∧ ∀ x ∈ l, (Lit.float .f64 x).wf = true) (h3 : UseOk u) :
    ACalls Try.prog 6 [SV.val (.float .f64 x), iv halves, SV.lst (l.map fun n : Nat => SV.val (.float .f64 n)), useSV u] (· = .one (.sv (bv true))) :=
  ShareRight_c x halves l u (fl_wf h0) (floats_lt h2.2.2) (by omega) h3.w
end Go.Proofs.Ytpjcicbohgcehaa.Ab
