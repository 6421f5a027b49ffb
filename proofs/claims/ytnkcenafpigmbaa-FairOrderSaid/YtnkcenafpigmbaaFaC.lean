/- fair: Charge, Fade. -/
import Derived.Test.YtnkcenafpigmbaaShQ
namespace Go.Proofs.Ytnkcenafpigmbaa.Ab
open Go.RowKit Go.Proofs.Ytnkcenafpigmbaa.Fl
set_option linter.unusedVariables false
set_option linter.unusedSimpArgs false

theorem CloneU_c (l : List Use) (hl : l.length ≤ 10000000) : ACalls Try.prog 64 [uses l] (fun r => (l = [] ∧ r = .one .nil) ∨ r = .one (.own 3 (l.map useSV))) := by
  refine ACalls.of_body (fun _ _ => Try.call64 _ _) Try.func64 rfl Try.ntmps64 (by simp) ?_
  refine Tr.ex ?_
  simp [go_sem]
  refine OpW.isnil (by decide) rfl rfl (by simp [go_sem]; rfl) (by simp [go_sem]; rfl) (by simp [go_sem]; rfl) (by simp [go_sem]) ?_
  rintro b hnil
  cases b with
  | true =>
    have hnil : l = [] := by simpa using hnil
    simp [go_sem, hnil]
  | false =>
    simp [go_sem]
    omega
def maxZ (x : Int) : Int := if 0 < x then x else 0
theorem maxZ_ge (x : Int) : 0 ≤ maxZ x := by unfold maxZ; split <;> omega
/-- So much more. -/
def moreF (cores ticks : Int) : Nat := mulF (FloatKind.nearest .f64 (maxZ cores)) (FloatKind.nearest .f64 (maxZ ticks))
theorem moreF_lt (cores ticks : Int) : moreF cores ticks < 18446744073709551616 := Nat.lt_of_le_of_lt (mulF_le _ _) (by decide)
def had1 (x : Nat) : Nat := sumF [x]
def had2 (h x : Nat) : Nat := sumF [h, x]
def chargeU (l : List Use) (who : Int) (more : Nat) : List Use :=
  if atU l who < l.length then l.set (atU l who) { uz l (atU l who) with had := had2 (uz l (atU l who)).had more } else l ++ [⟨who, had1 more, 4607182418800017408⟩]
theorem charge1_c (u : Use) (who : Int) : ACalls Try.prog 66 [useSV u, .ref (.agg [iv who]) 0] (· = .one (.sv (bv (u.who == who)))) := by
  refine ACalls.of_bodyS (fun _ _ => Try.call66 _ _) Try.func66 rfl Try.ntmps66 (by simp) ?_
  refine Tr.ex ?_
  simp [go_sem]
set_option maxHeartbeats 4000000 in
set_option maxRecDepth 100000 in
theorem ChargeX (l : List Use) (who cores ticks : Int) (fc ft more h1 : Nat) (t : Nat) (hl : l.length ≤ 1000000) (hc : FloatKind.nearest .f64 (if 0 < cores then cores else 0) = fc) (ht : FloatKind.nearest .f64 (if 0 < ticks then ticks else 0) = ft) (hm : floatBits .mul .f64 fc ft = some more)
    (hix : ACalls Try.prog 65 [uses l, .fn 66 [.ref (.agg [iv who]) 0]] (· = .one (.sv (iv (if t < l.length then (t : Int) else -1)))))
    (f1 : ACalls Try.prog 67 [fls [more]] (· = .one (.sv (fv h1)))) (f2 : ∀ u, l[t]? = some u → ∃ h2, ACalls Try.prog 67 [fls [u.had, more]] (· = .one (.sv (fv h2))) ∧ h2 = had2 u.had more) :
    ACalls Try.prog 33 [uses l, iv who, iv cores, iv ticks] (· = .one (.sv (uses (if t < l.length then l.set t { uz l t with had := had2 (uz l t).had more } else l ++ [⟨who, h1, 4607182418800017408⟩])))) := by
  refine ACalls.of_bodyS (fun _ _ => Try.call33 _ _) Try.func33 rfl Try.ntmps33 (by simp) ?_
  refine Tr.ex ?_
  have hcl := CloneU_c l (by omega)
  simp [go_sem]
  refine OpW.fn true hcl rfl rfl (by simp [go_sem]) (by rintro _ r (⟨_, rfl⟩ | rfl) <;> simp [go_sem]) ?_
  rintro r (⟨rfl, rfl⟩ | rfl)
  · simp at hix
    simp [go_sem, hc, ht, hm]
    refine OpW.ent (Ent.thaw 9 13 3 (by simp [go_sem]) (by simp [go_sem]) (by decide) (Ent.refl _)) ?_
    refine OpW.fnD 1 hix rfl (by simp [go_sem]) (by simp [go_sem]) (by rintro r rfl; simp [go_sem]) ?_
    rintro r rfl
    simp [go_sem]
    refine DrawW.rdN [29, 32, 33] (by simp [go_sem]) rfl ?_
    simp [go_sem]
    refine OpD.bslice rfl rfl (by simp [go_sem]) (by simp [go_sem]) (by simp [go_sem]; rfl) (by simp [go_sem]; rfl) (by simp [go_sem]) (by simp [go_sem]) (by decide) (by simp [go_sem]) (by simp [go_sem]; rfl) ?_
    simp [go_sem]
    refine OpD.call true f1 rfl rfl (by simp [go_sem]) (by intro _; simp [go_sem]) (by simp [go_sem]) (by simp [go_sem]) ?_
    simp [go_sem]
    refine OpD.buildS rfl rfl (by simp [go_sem]) (by simp [go_sem]; rfl) (by simp [go_sem]; rfl) (by simp [go_sem]; rfl) (by simp [go_sem]) ?_
    simp [go_sem]
    refine OpD.bslice rfl rfl (by simp [go_sem]) (by simp [go_sem]) (by simp [go_sem]; rfl) (by simp [go_sem]; rfl) (by simp [go_sem]) (by simp [go_sem]) (by decide) (by simp [go_sem]) (by simp [go_sem]; rfl) ?_
    simp [go_sem]
    refine OpD.append (t := 13) (xs := []) (ys := [useSV ⟨who, h1, 4607182418800017408⟩]) rfl rfl (by simp [go_sem]) (by simp [go_sem]) (by simp [go_sem]; rfl) (by simp [go_sem]; rfl) (by simp [go_sem]) (by simp [go_sem]) (by simp [go_sem]) (by simp [go_sem]) (by simp [go_sem]; rfl) (by simp [go_sem]) (by simp [go_sem]) (by simp [go_sem]) ?_
    simp [go_sem]
    show _ = true
    kernel_rfl
  · by_cases hlt : t < l.length
    · rw [if_pos hlt] at hix ⊢
      have hlt' : (t : Int) < l.length := by omega
      have ht0 : ¬ (t : Int) < 0 := by omega
      obtain ⟨u, hu⟩ : ∃ u, l[t]? = some u := ⟨_, List.getElem?_eq_getElem hlt⟩
      obtain ⟨h2, f2, e2⟩ := f2 u hu
      rw [uz_at hu, ← e2]
      have hms : (l.set t { u with had := h2 }).map useSV = (l.map useSV).set t (useSV { u with had := h2 }) := List.map_set
      simp [go_sem, hc, ht, hm]
      refine OpW.fnD 1 hix rfl (by simp [go_sem]) (by simp [go_sem]) (by rintro r rfl; simp [go_sem]) ?_
      rintro r rfl
      simp [go_sem, ht0, hlt, hlt', hu, gE hu]
      refine OpW.fn true f2 rfl rfl (by simp [go_sem]) (by rintro _ r rfl; simp [go_sem]) ?_
      rintro r rfl
      simp [go_sem, ht0, hlt, hlt', hu, gE hu, hms]
    · rw [if_neg hlt] at hix ⊢
      simp [go_sem, hc, ht, hm]
      refine OpW.fnD 1 hix rfl (by simp [go_sem]) (by simp [go_sem]) (by rintro r rfl; simp [go_sem]) ?_
      rintro r rfl
      simp [go_sem]
      refine DrawW.rdN [29, 32, 33] (by simp [go_sem]) rfl ?_
      simp [go_sem]
      refine OpD.bslice rfl rfl (by simp [go_sem]) (by simp [go_sem]) (by simp [go_sem]; rfl) (by simp [go_sem]; rfl) (by simp [go_sem]) (by simp [go_sem]) (by decide) (by simp [go_sem]) (by simp [go_sem]; rfl) ?_
      simp [go_sem]
      refine OpD.call true f1 rfl rfl (by simp [go_sem]) (by intro _; simp [go_sem]) (by simp [go_sem]) (by simp [go_sem]) ?_
      simp [go_sem]
      refine OpD.buildS rfl rfl (by simp [go_sem]) (by simp [go_sem]; rfl) (by simp [go_sem]; rfl) (by simp [go_sem]; rfl) (by simp [go_sem]) ?_
      simp [go_sem]
      refine OpD.bslice rfl rfl (by simp [go_sem]) (by simp [go_sem]) (by simp [go_sem]; rfl) (by simp [go_sem]; rfl) (by simp [go_sem]) (by simp [go_sem]) (by decide) (by simp [go_sem]) (by simp [go_sem]; rfl) ?_
      simp [go_sem]
      refine OpD.append (t := 13) (xs := l.map useSV) (ys := [useSV ⟨who, h1, 4607182418800017408⟩]) rfl rfl (by simp [go_sem]) (by simp [go_sem]) (by simp [go_sem]; rfl) (by simp [go_sem]; rfl) (by simp [go_sem]) (by simp [go_sem]) (by simp [go_sem]) (by simp [go_sem]) (by simp [go_sem]; rfl) (by simp [go_sem]) (by simp [go_sem]) (by simp [go_sem]; omega) ?_
      simp [go_sem]
      show _ = true
      kernel_rfl
theorem Charge_c (l : List Use) (who cores ticks : Int) (hl : l.length ≤ 1000000) (hw : UsesW l) (hc : cores ≤ 9223372036854775807) (ht : ticks ≤ 9223372036854775807) : ACalls Try.prog 33 [uses l, iv who, iv cores, iv ticks] (· = .one (.sv (uses (chargeU l who (moreF cores ticks))))) := by
  have hml := moreF_lt cores ticks
  refine ChargeX l who cores ticks _ _ (moreF cores ticks) _ (atU l who) hl rfl rfl (mulF_bits (cvt_lt (maxZ_ge cores) (by split <;> omega)) (cvt_lt (maxZ_ge ticks) (by split <;> omega))) (IndexU_c l _ _ who (by omega) (fun u => charge1_c u who))
    (Sum_c [moreF cores ticks] (by simp) (fun x hx => by rw [List.mem_singleton] at hx; rw [hx]; exact hml)) (fun u hu => ⟨_, Sum_c [u.had, moreF cores ticks] (by simp) (fun x hx => ?_), rfl⟩)
  simp only [List.mem_cons, List.not_mem_nil, or_false] at hx
  rcases hx with rfl | rfl
  · exact (hw u (List.mem_of_getElem? hu)).1
  · exact hml
/-! ### Fade -/
def fade1 (h : Int) (u : Use) : Use := { u with had := fadeF u.had (halvesN h) }
def fadeTo (l : List Use) (h : Int) (i : Nat) : List Use := (l.take i).map (fade1 h) ++ l.drop i
theorem fadeTo_zero (l : List Use) (h : Int) : fadeTo l h 0 = l := by simp [fadeTo]
theorem fadeTo_len (l : List Use) (h : Int) (i : Nat) (hi : i ≤ l.length) : (fadeTo l h i).length = l.length := by unfold fadeTo; simp; omega
theorem fadeTo_all (l : List Use) (h : Int) : fadeTo l h l.length = l.map (fade1 h) := by simp [fadeTo]
theorem fadeTo_at {l : List Use} {h : Int} {i : Nat} {u : Use} (hu : l[i]? = some u) : (fadeTo l h i)[i]? = some u := by
  have hi := (List.getElem?_eq_some_iff.1 hu).1
  unfold fadeTo
  rw [List.getElem?_append_right (by simp; omega)]
  simp only [List.length_map, List.length_take, List.getElem?_drop]
  rw [show i + (i - min i l.length) = i by omega, hu]
theorem fadeTo_set {l : List Use} {h : Int} {i : Nat} {u : Use} (hu : l[i]? = some u) : (fadeTo l h i).set i (fade1 h u) = fadeTo l h (i + 1) := by
  have hi := (List.getElem?_eq_some_iff.1 hu).1
  unfold fadeTo
  rw [List.set_append_right _ _ (by simp; omega)]
  simp only [List.length_map, List.length_take]
  rw [show i - min i l.length = 0 by omega, List.drop_eq_getElem_cons hi, List.set_cons_zero, List.take_succ_eq_append_getElem hi, gE hu, List.map_append]
  simp
set_option maxHeartbeats 4000000 in
set_option maxRecDepth 100000 in
theorem FadeU_c (l : List Use) (h : Int) (hl : l.length ≤ 1000000) (hw : UsesW l) : ACalls Try.prog 36 [uses l, iv h] (· = .one (.sv (uses (l.map (fade1 h))))) := by
  refine ACalls.of_bodyS (fun _ _ => Try.call36 _ _) Try.func36 rfl Try.ntmps36 (by simp) ?_
  refine Tr.ex ?_
  have hcl := CloneU_c l (by omega)
  simp [go_sem]
  refine OpW.fn true hcl rfl rfl (by simp [go_sem]) (by rintro _ r (⟨_, rfl⟩ | rfl) <;> simp [go_sem]) ?_
  rintro r (⟨rfl, rfl⟩ | rfl)
  · simp [go_sem]
    refine LoopW.of (fun _ : Unit => ⟨27, [(1, .sv (iv h)), (4, .nil), (5, .nil), (10, .sv (iv 0)), (11, .sv (iv 0))], []⟩) (fun _ => True) (fun _ => 0) () trivial (Ent.chk (by simp [go_sem])) ?_
    intro _ _
    simp [go_sem]
  · have hall := fadeTo_all l h
    have hlen := fun i hi => fadeTo_len l h i hi
    simp [go_sem]
    refine LoopW.of (fun i : Nat => ⟨27, [(1, .sv (iv h)), (4, .nil), (5, .own 8), (10, .sv (iv l.length)), (11, .sv (iv i))], [(8, .row 3 ((fadeTo l h i).map useSV))]⟩) (fun i => i ≤ l.length) (fun i => l.length - i) 0 (by omega) (Ent.chk (by simp [go_sem, fadeTo_zero])) ?_
    intro i hi
    by_cases hlt : i < l.length
    · have hlt' : (i : Int) < l.length := by omega
      have hwr : IntKind.i64.wrap ((i : Int) + 1) = (i : Int) + 1 := by rw [i64w] <;> omega
      obtain ⟨u, hu⟩ : ∃ u, l[i]? = some u := ⟨_, List.getElem?_eq_getElem hlt⟩
      have hfa := fadeTo_at (h := h) hu
      have hfs := congrArg (List.map useSV) (fadeTo_set (h := h) hu)
      have hfl := hlen i hi
      have hf := Fade_c u.had h (hw u (List.mem_of_getElem? hu)).1
      have hil : i < (fadeTo l h i).length := by omega
      have hil' : (i : Int) < (fadeTo l h i).length := by omega
      rw [List.map_set] at hfs
      unfold fade1 at hfs
      generalize hnx : fadeTo l h (i + 1) = nx at *
      generalize fadeTo l h i = cu at *
      generalize fadeF u.had (halvesN h) = x at *
      simp only [useSV, iv, fv] at hfs
      simp [go_sem, hlt, hlt', hil, hil', hfa, gE hfa]
      refine OpW.fn true hf rfl rfl (by simp [go_sem]) (by rintro _ r rfl; simp [go_sem]) ?_
      rintro r rfl
      simp [go_sem, hlt, hlt', hil, hil', hfa, gE hfa, hfl]
      exact ⟨i + 1, by omega, by omega, Ent.chk (by simp [go_sem, hwr, hnx, hfs])⟩
    · have hil : i = l.length := by omega
      subst hil
      rw [hall]
      simp [go_sem]
end Go.Proofs.Ytnkcenafpigmbaa.Ab
