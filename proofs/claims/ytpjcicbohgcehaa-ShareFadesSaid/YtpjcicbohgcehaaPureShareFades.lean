/- The law ShareFades. -/
import Derived.Test.YtpjcicbohgcehaaShM
namespace Go.Proofs.Ytpjcicbohgcehaa.Ab
open Go.RowKit Go.Proofs.Ytpjcicbohgcehaa.Fl
set_option linter.unusedVariables false
set_option linter.unusedSimpArgs false
theorem cut_at {α : Type} (g : α → SV) (l : List α) (k : Nat) : List.take (if (k : Int) < l.length then (k : Int) else (l.length : Int)).toNat (l.map g) = (l.take k).map g := by
  rw [List.map_take]
  split
  · rw [Int.toNat_natCast]
  · rename_i h
    rw [Int.toNat_natCast, List.take_of_length_le (by simp), List.take_of_length_le (by simp; omega)]
theorem fadeF_le (x : Nat) : ∀ n, fadeF x n ≤ cl x
  | 0 => Nat.le_refl _
  | n + 1 => by rw [fadeF_succ]; exact Nat.le_trans (hv_le (fadeF_lt x n)) (fadeF_le x n)
theorem fadeF_fadeF (x a : Nat) : ∀ b, fadeF (fadeF x a) b = fadeF x (a + b)
  | 0 => by rw [fadeF_zero, cl_id (fadeF_lt x a)]; rfl
  | b + 1 => by rw [fadeF_succ, fadeF_fadeF x a b, ← Nat.add_assoc, fadeF_succ]
theorem le_cl {s y : Nat} (h : s ≤ y) (hs : s < INF) (hy : y ≤ INF) : s ≤ cl y := by
  unfold cl
  have hM : MAX + 1 = INF := by decide
  split
  · exact h
  · rw [if_pos (by omega)]; omega
theorem addF_ge {s x : Nat} (hs : s < INF) (hx : x < INF) : s ≤ addF s x ∧ x ≤ addF s x := by
  have h1 := near_vl hs
  have h2 := near_vl hx
  have h3 := near_mono (d := 0) (show vl s ≤ vl s + vl x by omega)
  have h4 := near_mono (d := 0) (show vl x ≤ vl s + vl x by omega)
  unfold addF
  omega
theorem sumF_ge (l : List Nat) : ∀ x ∈ l, cl x ≤ sumF l := by
  rcases List.eq_nil_or_concat l with rfl | ⟨r, y, rfl⟩
  · intro x hx; cases hx
  · intro x hx
    rw [List.concat_eq_append] at *
    rw [sumF_snoc]
    have h1 := sumF_lt r
    have h2 := cl_lt y
    have h3 := addF_ge h1 h2
    have h4 : addF (sumF r) (cl y) ≤ INF := near_le _ _
    rw [List.mem_append, List.mem_singleton] at hx
    rcases hx with hx | rfl
    · have h5 := sumF_ge r x hx
      exact Nat.le_trans h5 (le_cl h3.1 h1 h4)
    · exact le_cl h3.2 h2 h4
termination_by l.length
decreasing_by subst_vars; simp
theorem Signbit_c (x : Nat) (hx : x < INF) : ACalls Try.prog 23 [fv x] (· = .one (.sv (bv false))) := by
  refine ACalls.of_bodyS (fun _ _ => Try.call23 _ _) Try.func23 rfl Try.ntmps23 (by simp) ?_
  refine Tr.ex ?_
  have hI : INF = 9218868437227405312 := rfl
  have hw : IntKind.i64.wrap (x : Int) = x := by rw [i64w] <;> omega
  have h0 : ¬ (x : Int) < 0 := by omega
  simp [go_sem]
  refine OpW.ext (bits_run x) rfl (by simp [go_sem]) (by simp [go_sem]) (by simp [go_sem]) ?_
  simp [go_sem, hw, h0]
theorem fGe0 {x : Nat} (h : x ≤ INF) : (fGt .f64 x 0 || fEq .f64 x 0) = true := by
  rw [fGt_fin h (Nat.zero_le _), fEq_fin h (Nat.zero_le _)]
  rcases Nat.eq_zero_or_pos x with q | q
  · rw [decide_eq_true q, Bool.or_true]
  · rw [decide_eq_true q, Bool.true_or]
theorem fLeM {x : Nat} (h : x < INF) : (fLt .f64 x 9218868437227405311 || fEq .f64 x 9218868437227405311) = true := by
  have hM : MAX + 1 = INF := by decide
  show (fLt .f64 x MAX || fEq .f64 x MAX) = true
  rw [fLt_fin (by omega) (by omega), fEq_fin (by omega) (by omega)]
  rcases Nat.lt_or_ge x MAX with q | q
  · rw [decide_eq_true q, Bool.true_or]
  · rw [decide_eq_true (show x = MAX by omega), Bool.or_true]
set_option maxHeartbeats 4000000 in
set_option maxRecDepth 100000 in
theorem ShareFades_c (x : Nat) (a b : Int) (l : List Nat) (hx : x < 18446744073709551616) (ha : 0 ≤ a ∧ a ≤ 255) (hb : 0 ≤ b ∧ b ≤ 255) (hlw : ∀ y ∈ l, y < 18446744073709551616) (hl : l.length ≤ 100000000000000) :
    ACalls Try.prog 7 [fv x, .val (.int .u8 a), .val (.int .u8 b), fls l] (· = .one (.sv (bv true))) := by
  refine ACalls.of_bodyS (fun _ _ => Try.call7 _ _) Try.func7 rfl Try.ntmps7 (by simp) ?_
  refine Tr.ex ?_
  have hw' : ∀ y ∈ l.take 200, y < 18446744073709551616 := fun y hy => hlw y (List.mem_of_mem_take hy)
  have htl : (l.take 200).length ≤ 200 := by rw [List.length_take]; omega
  have hmt := cut_at fv l 200
  have hM : INF < 18446744073709551616 := by decide
  have hwa : IntKind.i64.wrap a = a := by rw [i64w] <;> omega
  have hwb : IntKind.i64.wrap b = b := by rw [i64w] <;> omega
  have hwab : IntKind.i64.wrap (a + b) = a + b := by rw [i64w] <;> omega
  have f1 := Clean_c x hx
  have g1 := fGe0 (Nat.le_of_lt (cl_lt x))
  have g2 := fLeM (cl_lt x)
  have f2 := Signbit_c (cl x) (cl_lt x)
  have f3 := Clean_c (cl x) (Nat.lt_trans (cl_lt x) hM)
  rw [cl_cl] at f3
  have f4 := same_c (cl x) (cl x)
  rw [decide_eq_true rfl] at f4
  have f5 := Fade_c x 0 hx
  rw [show halvesN 0 = 0 from rfl, fadeF_zero] at f5
  have f6 := Fade_c x (-5) hx
  rw [show halvesN (-5) = 0 from rfl, fadeF_zero] at f6
  have f7 := Fade_c x a hx
  have g3 := fGt_fin (Nat.le_of_lt (fadeF_lt x (halvesN a))) (Nat.le_of_lt (cl_lt x))
  have g4 := fadeF_le x (halvesN a)
  rw [decide_eq_false (by omega)] at g3
  have f8 := Fade_c (fadeF x (halvesN a)) b (Nat.lt_trans (fadeF_lt _ _) hM)
  have e1 : halvesN a + halvesN b = halvesN (a + b) := by unfold halvesN; omega
  rw [fadeF_fadeF, e1] at f8
  have f9 := Fade_c x (a + b) hx
  have f10 := same_c (fadeF x (halvesN (a + b))) (fadeF x (halvesN (a + b)))
  rw [decide_eq_true rfl] at f10
  generalize l.take 200 = L at *
  have f11 := Sum_c L (by omega) hw'
  have g5 := sumF_lt L
  have g6 := fLeM g5
  have g7 := sumF_ge L
  generalize sumF L = s at *
  generalize fadeF x (halvesN a) = fa at *
  generalize fadeF x (halvesN (a + b)) = fab at *
  generalize cl x = c at *
  simp only [fv, Int.cast_ofNat_Int] at hmt
  simp [go_sem]
  refine OpW.fn true awake15_c rfl rfl (by simp [go_sem]) (by rintro _ r rfl; simp [go_sem]) ?_
  rintro r rfl
  simp [go_sem]
  refine ⟨⟨by split <;> omega, by split <;> omega⟩, ?_⟩
  rw [hmt]
  refine OpW.fn true f1 rfl rfl (by simp [go_sem]) (by rintro _ r rfl; simp [go_sem]) ?_
  rintro r rfl
  simp [go_sem, g1, g2]
  refine OpW.fn true f2 rfl rfl (by simp [go_sem]) (by rintro _ r rfl; simp [go_sem]) ?_
  rintro r rfl
  simp [go_sem]
  refine OpW.fn true f3 rfl rfl (by simp [go_sem]) (by rintro _ r rfl; simp [go_sem]) ?_
  rintro r rfl
  simp [go_sem]
  refine OpW.fn true f4 rfl rfl (by simp [go_sem]) (by rintro _ r rfl; simp [go_sem]) ?_
  rintro r rfl
  simp [go_sem]
  refine OpW.fn true f5 rfl rfl (by simp [go_sem]) (by rintro _ r rfl; simp [go_sem]) ?_
  rintro r rfl
  simp [go_sem]
  refine OpW.fn true f4 rfl rfl (by simp [go_sem]) (by rintro _ r rfl; simp [go_sem]) ?_
  rintro r rfl
  simp [go_sem]
  refine OpW.fn true f6 rfl rfl (by simp [go_sem]) (by rintro _ r rfl; simp [go_sem]) ?_
  rintro r rfl
  simp [go_sem]
  refine OpW.fn true f4 rfl rfl (by simp [go_sem]) (by rintro _ r rfl; simp [go_sem]) ?_
  rintro r rfl
  simp [go_sem, hwa]
  refine OpW.fn true f7 rfl rfl (by simp [go_sem]) (by rintro _ r rfl; simp [go_sem]) ?_
  rintro r rfl
  simp [go_sem, g3, hwb]
  refine OpW.fn true f8 rfl rfl (by simp [go_sem]) (by rintro _ r rfl; simp [go_sem]) ?_
  rintro r rfl
  simp [go_sem, hwa, hwb, hwab]
  refine OpW.fn true f9 rfl rfl (by simp [go_sem]) (by rintro _ r rfl; simp [go_sem]) ?_
  rintro r rfl
  simp [go_sem]
  refine OpW.fn true f10 rfl rfl (by simp [go_sem]) (by rintro _ r rfl; simp [go_sem]) ?_
  rintro r rfl
  simp [go_sem]
  refine OpW.fn true f11 rfl rfl (by simp [go_sem]) (by rintro _ r rfl; simp [go_sem]) ?_
  rintro r rfl
  simp [go_sem]
  refine LoopW.of (fun i : Nat => ⟨93, [(3, .sv (fls L)), (8, .sv (bv false)), (11, .sv (fv s)), (12, .sv (iv i))], []⟩)
    (fun i => i ≤ L.length) (fun i => L.length - i) 0 (by omega) (Ent.chk (by simp [go_sem])) ?_
  intro i hi
  by_cases hlt : i < L.length
  case neg =>
    have hil : i = L.length := by omega
    subst hil
    simp [go_sem, g6]
  case pos =>
  have hlt' : (i : Int) < L.length := by omega
  have hwr : IntKind.i64.wrap ((i : Int) + 1) = (i : Int) + 1 := by rw [i64w] <;> omega
  obtain ⟨y, hy⟩ : ∃ y, L[i]? = some y := ⟨_, List.getElem?_eq_getElem hlt⟩
  have hym := List.mem_of_getElem? hy
  have k1 := Clean_c y (hw' y hym)
  have k2 := g7 y hym
  have k3 := fGt_fin (Nat.le_of_lt (cl_lt y)) (Nat.le_of_lt g5)
  rw [decide_eq_false (by omega)] at k3
  generalize cl y = z at *
  simp [go_sem, hlt, hlt', hy, gE hy]
  refine OpW.fn true k1 rfl rfl (by simp [go_sem]) (by rintro _ r rfl; simp [go_sem]) ?_
  rintro r rfl
  simp [go_sem, k3]
  exact ⟨i + 1, by omega, by omega, Ent.chk (by simp [go_sem, hwr])⟩
theorem u8_wf {n : Int} (h : (Lit.int .u8 n).wf = true) : 0 ≤ n ∧ n ≤ 255 := by
  simp [Lit.wf] at h
  have e0 : IntKind.u8.min = 0 := by decide
  have e1 : IntKind.u8.max = 255 := by decide
  omega
theorem floats_lt {l : List Nat} (h : ∀ x ∈ l, (Lit.float .f64 x).wf = true) : ∀ y ∈ l, y < 18446744073709551616 := fun y hy => fl_wf (h y hy)
theorem law_ShareFades (x : Nat) (a b : Int) (l : List Nat) (h0 : (Lit.float .f64 x).wf = true) (h1 : (Lit.int .u8 a).wf = true) (h2 : (Lit.int .u8 b).wf = true) (h3 : l.length * 8 ≤ 140737488351232 ∧ l.length ≤ maxLen ∧ ∀ x ∈ l, (Lit.float .f64 x).wf = true) :
    ACalls Try.prog 7 [SV.val (.float .f64 x), SV.val (.int .u8 a), SV.val (.int .u8 b), SV.lst (l.map fun n : Nat => SV.val (.float .f64 n))] (· = .one (.sv (bv true))) :=
  ShareFades_c x a b l (fl_wf h0) (u8_wf h1) (u8_wf h2) (floats_lt h3.2.2) (by omega)
end Go.Proofs.Ytpjcicbohgcehaa.Ab
