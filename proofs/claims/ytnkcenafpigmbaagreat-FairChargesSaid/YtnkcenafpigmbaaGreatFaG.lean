/- fair: the reference's Charge, Fade; Same. -/
import Derived.Test.YtnkcenafpigmbaaGreatFaE
namespace Go.Proofs.YtnkcenafpigmbaaGreat.Ab
open Go.RowKit Go.Proofs.YtnkcenafpigmbaaGreat.Fl
set_option linter.unusedVariables false
set_option linter.unusedSimpArgs false

theorem OpD.ext {P : Program} {Q : Exit → St → Prop} {D : List Nat} {ops : Array Oper} {o : Oper} {l : List Oper} {fs : List Ft} {k : List Fr} {st : St} {d : Nat} {f : FuncId} {x : Operand} {ts : Array TypeId} {u v : Value} (hf : ∀ w, (callFunc f #[u]).run P w = .ok (.value v) w)
    (ho : o.op = .call { callee := .value (.func f), args := #[x], argTypes := ts }) (hd : o.dst = some d) (hg : grd ops st o = some true) (hx : aval st x = some (.sv (.val u))) (hn : d < st.n)
    (h : Ab.rd P Q D ops l (⟨usesT ops o, [], [], some (d, .sv (.val v)), [], none, false, []⟩ :: fs) k { st with t := up st.t d (.sv (.val v)) }) : OpD P Q D ops o l fs k st :=
  OpD.heavy (f := ⟨usesT ops o, [], [], some (d, .sv (.val v)), [], none, false, []⟩) ⟨⟨fun _ t x hw => (by cases hw), fun t cs hw => (by cases hw)⟩, fun s hs hT hM _ _ keep w E a hI N Q hN => by
    have hv := aval_agr (s := s) (st := st) (o := o) hT
    have hg' : grd ops s o = some true := by rw [grd_agr (st := st) hT]; exact hg
    rw [if_pos (grd_run hI hg')]
    have hx' : aval s x = some (.sv (.val u)) := (hv x (by simp [ho, Op.operands, Call.operands])).trans hx
    have := does_ext (P := P) (st := s) ho hx' hf (by rw [hd]; simp [St.fitsDst, hs, hn])
    rw [hd] at this
    exact this.wp hI hN⟩ h
set_option maxRecDepth 100000 in
theorem One_c (u : Use) : ACalls Tryz.prog 14 [useSV u, useSV u] (· = .one (.sv (bv true))) := by
  refine ACalls.of_bodyS (fun _ _ => Tryz.call14 _ _) Tryz.func14 rfl Tryz.ntmps14 (by simp) ?_
  refine Tr.ex ?_
  simp [go_sem]
  refine DrawW.rd rfl ?_
  simp [go_sem]
  refine OpD.ext (bits_run u.had) rfl rfl (by simp [go_sem]) (by simp [go_sem]) (by simp [go_sem]) ?_
  simp [go_sem]
  refine OpD.ext (bits_run u.had) rfl rfl (by simp [go_sem]) (by simp [go_sem]) (by simp [go_sem]) ?_
  simp [go_sem]
  refine OpD.ext (bits_run u.weight) rfl rfl (by simp [go_sem]) (by simp [go_sem]) (by simp [go_sem]) ?_
  simp [go_sem]
  refine OpD.ext (bits_run u.weight) rfl rfl (by simp [go_sem]) (by simp [go_sem]) (by simp [go_sem]) ?_
  simp [go_sem]
  show _ = true
  kernel_rfl
theorem SameU_c (l : List Use) (hl : l.length ≤ 1000000) : ACalls Tryz.prog 5 [uses l, uses l] (· = .one (.sv (bv true))) := by
  refine ACalls.of_bodyS (fun _ _ => Tryz.call5 _ _) Tryz.func5 rfl Tryz.ntmps5 (by simp) ?_
  refine Tr.ex ?_
  simp [go_sem]
  refine LoopW.of (fun i : Nat => ⟨27, [(0, .sv (uses l)), (1, .sv (uses l)), (4, .sv (bv false)), (5, .sv (iv i))], []⟩) (fun i => i ≤ l.length) (fun i => l.length - i) 0 (by omega) (Ent.chk (by simp [go_sem])) ?_
  intro i hi
  by_cases hlt : i < l.length
  · have hlt' : (i : Int) < l.length := by omega
    have hwr : IntKind.i64.wrap ((i : Int) + 1) = (i : Int) + 1 := by rw [i64w] <;> omega
    obtain ⟨u, hu⟩ : ∃ u, l[i]? = some u := ⟨_, List.getElem?_eq_getElem hlt⟩
    simp [go_sem, hlt, hlt']
    refine DrawW.rd rfl ?_
    simp [go_sem, hlt, hlt', hu, gE hu]
    refine OpD.call true (One_c u) rfl rfl (by simp [go_sem]) (by intro _; simp [go_sem]) (by simp [go_sem]) (by simp [go_sem]) ?_
    simp [go_sem]
    refine ⟨by kernel_rfl, ?_⟩
    exact ⟨i + 1, by omega, by omega, Ent.chk (by simp [go_sem, hwr])⟩
  · have hil : i = l.length := by omega
    subst hil
    simp [go_sem]
set_option maxHeartbeats 4000000 in
set_option maxRecDepth 100000 in
theorem rChargeX (l : List Use) (who cores ticks c t : Int) (fc ft more h1 T : Nat) (hl : l.length ≤ 1000000) (hc0 : c = maxZ cores) (ht0 : t = maxZ ticks) (hc : FloatKind.nearest .f64 c = fc) (ht : FloatKind.nearest .f64 t = ft) (hm : floatBits .mul .f64 fc ft = some more)
    (hat : ∀ {i : Nat}, i ≤ l.length → (∀ (j : Nat) (u : Use), j < i → l[j]? = some u → ¬ u.who = who) → (∀ u, l[i]? = some u → u.who = who) → T = i)
    (f1 : ACalls Tryz.prog 19 [fls [more]] (· = .one (.sv (fv h1)))) (f2 : ∀ (i : Nat) u, l[i]? = some u → ACalls Tryz.prog 19 [fls [u.had, more]] (· = .one (.sv (fv (had2 u.had more))))) :
    ACalls Tryz.prog 7 [uses l, iv who, iv cores, iv ticks] (· = .one (.sv (uses (if T < l.length then l.set T { uz l T with had := had2 (uz l T).had more } else l ++ [⟨who, h1, 4607182418800017408⟩])))) := by
  refine ACalls.of_bodyS (fun _ _ => Tryz.call7 _ _) Tryz.func7 rfl Tryz.ntmps7 (by simp) ?_
  refine Tr.ex ?_
  have main : ∀ st : Ab.St, st = (⟨58, [(1, .sv (iv who)), (8, .nil), (9, .sv (fv more)), (10, .own 23), (11, .sv (iv 0))], [(23, .row 3 (l.map useSV))]⟩ : Ab.St) → True := fun _ _ => trivial
  unfold maxZ at hc0 ht0
  have e12 : (if cores < 0 then (0 : Int) else cores) = c := by rw [hc0]; split <;> split <;> omega
  have e34 : (if ticks < 0 then (0 : Int) else ticks) = t := by rw [ht0]; split <;> split <;> omega
  by_cases n1 : cores < 0 <;> by_cases n2 : ticks < 0
  all_goals
    first | rw [if_pos n1] at e12 | rw [if_neg n1] at e12
    first | rw [if_pos n2] at e34 | rw [if_neg n2] at e34
    subst e12 e34
    first | (have hff : ft = fc := ht.symm.trans hc; subst hff) | skip
    simp [go_sem, n1, n2, hc, ht, hm]
    refine ⟨by omega, ?_⟩
    refine LoopW.of (fun i : Nat => ⟨58, [(1, .sv (iv who)), (8, .nil), (9, .sv (fv more)), (10, .own 23), (11, .sv (iv i))], [(23, .row 3 (l.map useSV))]⟩)
      (fun i => i ≤ l.length ∧ ∀ (j : Nat) (u : Use), j < i → l[j]? = some u → ¬ u.who = who) (fun i => l.length - i) 0 ⟨by omega, fun j u h => by omega⟩ (Ent.chk (by simp [go_sem])) ?_
    rintro i ⟨hi, hn⟩
    by_cases hlt : i < l.length
    case neg =>
      have hil : i = l.length := by omega
      subst hil
      have h3 := hat hi hn (fun v hv => by rw [List.getElem?_eq_none (Nat.le_refl _)] at hv; cases hv)
      rw [if_neg (by omega)]
      simp [go_sem]
      refine OpW.fn true f1 rfl rfl (by simp [go_sem]) (by rintro _ r rfl; simp [go_sem]) ?_
      rintro r rfl
      simp [go_sem]
      omega
    case pos =>
    have hlt' : (i : Int) < l.length := by omega
    have hw1 : IntKind.i64.wrap ((i : Int) + 1) = (i : Int) + 1 := by rw [i64w] <;> omega
    obtain ⟨o, ho⟩ : ∃ u, l[i]? = some u := ⟨_, List.getElem?_eq_getElem hlt⟩
    by_cases q : o.who = who
    case neg =>
      have e : (o.who == who) = false := by simpa using q
      simp [go_sem, hlt, hlt', ho, gE ho, e, q]
      exact ⟨i + 1, ⟨by omega, fun j v hj hv => by
        by_cases hji : j = i
        · subst hji; rw [ho] at hv; rw [← Option.some.inj hv]; exact q
        · exact hn j v (by omega) hv⟩, by omega, Ent.chk (by simp [go_sem, hw1])⟩
    case pos =>
    have e : (o.who == who) = true := by simpa using q
    have h3 := hat hi hn (fun v hv => by rw [ho] at hv; rw [← Option.some.inj hv]; exact q)
    subst h3
    have f2' := f2 T o ho
    have hms : (l.set T { o with had := had2 o.had more }).map useSV = (l.map useSV).set T (useSV { o with had := had2 o.had more }) := List.map_set
    rw [if_pos hlt, uz_at ho]
    generalize had2 o.had more = h2 at *
    simp [go_sem, hlt, hlt', ho, gE ho, e]
    refine OpW.fn true f2' rfl rfl (by simp [go_sem]) (by rintro _ r rfl; simp [go_sem]) ?_
    rintro r rfl
    simp [go_sem, hlt, hlt', ho, gE ho, hms]
theorem rCharge_c (l : List Use) (who cores ticks : Int) (hl : l.length ≤ 1000000) (hw : UsesW l) (hc : cores ≤ 9223372036854775807) (ht : ticks ≤ 9223372036854775807) : ACalls Tryz.prog 7 [uses l, iv who, iv cores, iv ticks] (· = .one (.sv (uses (chargeU l who (moreF cores ticks))))) := by
  have hml := moreF_lt cores ticks
  refine rChargeX l who cores ticks _ _ _ _ (moreF cores ticks) _ (atU l who) hl rfl rfl rfl rfl (mulF_bits (cvt_lt (maxZ_ge cores) (by unfold maxZ; split <;> omega)) (cvt_lt (maxZ_ge ticks) (by unfold maxZ; split <;> omega))) (fun {i} h1 h2 h3 => atU_iff h1 h2 h3)
    (rSum_c [moreF cores ticks] (by simp) (fun x hx => by rw [List.mem_singleton] at hx; rw [hx]; exact hml)) (fun i u hu => rSum_c [u.had, moreF cores ticks] (by simp) (fun x hx => ?_))
  simp only [List.mem_cons, List.not_mem_nil, or_false] at hx
  rcases hx with rfl | rfl
  · exact (hw u (List.mem_of_getElem? hu)).1
  · exact hml
set_option maxHeartbeats 4000000 in
set_option maxRecDepth 100000 in
theorem rFadeU_c (l : List Use) (h : Int) (hl : l.length ≤ 1000000) (hw : UsesW l) : ACalls Tryz.prog 9 [uses l, iv h] (· = .one (.sv (uses (l.map (fade1 h))))) := by
  refine ACalls.of_bodyS (fun _ _ => Tryz.call9 _ _) Tryz.func9 rfl Tryz.ntmps9 (by simp) ?_
  refine Tr.ex ?_
  simp [go_sem]
  refine LoopW.of (fun i : Nat => ⟨28, [(0, .sv (uses l)), (1, .sv (iv h)), (4, .nil), (5, .own 5), (6, .sv (iv i))], [(5, .row 3 (((l.take i).map (fade1 h)).map useSV))]⟩) (fun i => i ≤ l.length) (fun i => l.length - i) 0 (by omega) (Ent.thaw 5 5 3 (by simp [go_sem]) (by simp [go_sem]) (by decide) (Ent.chk (by simp [go_sem]))) ?_
  intro i hi
  by_cases hlt : i < l.length
  · have hlt' : (i : Int) < l.length := by omega
    have hwr : IntKind.i64.wrap ((i : Int) + 1) = (i : Int) + 1 := by rw [i64w] <;> omega
    obtain ⟨u, hu⟩ : ∃ u, l[i]? = some u := ⟨_, List.getElem?_eq_getElem hlt⟩
    have hf := rFade_c u.had h (hw u (List.mem_of_getElem? hu)).1
    have htk : (l.take (i + 1)).map (fade1 h) = (l.take i).map (fade1 h) ++ [fade1 h u] := by
      rw [List.take_succ_eq_append_getElem hlt, gE hu, List.map_append]; rfl
    have hm := congrArg (List.map useSV) htk
    rw [List.map_append] at hm
    have hcl : ((l.take i).map (fade1 h)).length = i := by simp; omega
    unfold fade1 at hm
    simp only [List.map_cons, List.map_nil, useSV, iv, fv] at hm
    have hfold : (l.take (i + 1)).map (fade1 h) = (l.take (i + 1)).map fun u => { u with had := fadeF u.had (halvesN h) } := rfl
    have hm2 : ((l.take (i + 1)).map (fade1 h)).map useSV = ((l.take i).map (fade1 h)).map useSV ++ [SV.agg [SV.val (.int .i64 u.who), SV.val (.float .f64 (fadeF u.had (halvesN h))), SV.val (.float .f64 u.weight)]] := by
      rw [htk, List.map_append]; rfl
    generalize hnx : (l.take (i + 1)).map (fade1 h) = nx at *
    generalize hcu : (l.take i).map (fade1 h) = cu at *
    generalize fadeF u.had (halvesN h) = x at *
    simp [go_sem, hlt, hlt', hu, gE hu]
    refine OpW.fn true hf rfl rfl (by simp [go_sem]) (by rintro _ r rfl; simp [go_sem]) ?_
    rintro r rfl
    simp [go_sem]
    have hnx2 : List.take (i + 1) (l.map (useSV ∘ fade1 h)) = cu.map useSV ++ [SV.agg [SV.val (.int .i64 u.who), SV.val (.float .f64 x), SV.val (.float .f64 u.weight)]] := by
      rw [← hm2, ← hnx]; simp [List.map_take]
    exact ⟨by omega, i + 1, by omega, by omega, Ent.rename2 26 5 (by simp [go_sem]) (Ent.chk (by simp [go_sem, hwr, hnx2]))⟩
  · have hil : i = l.length := by omega
    subst hil
    rw [List.take_length]
    simp [go_sem]
end Go.Proofs.YtnkcenafpigmbaaGreat.Ab
