/- The law FairShares. -/
import Derived.Test.YtnkcenafpigmbaaFaF
namespace Go.Proofs.Ytnkcenafpigmbaa.Ab
open Go.RowKit Go.Proofs.Ytnkcenafpigmbaa.Fl
set_option linter.unusedVariables false
set_option linter.unusedSimpArgs false
set_option maxHeartbeats 8000000 in
set_option maxRecDepth 100000 in
theorem FairSharesX (l L n F : List Use) (who cores ticks : Int) (t b1 b2 : Nat) (hc : IntKind.i64.wrap cores = cores) (ht : IntKind.i64.wrap ticks = ticks)
    (hL : List.take (if (30 : Int) < l.length then (30 : Int) else (l.length : Int)).toNat (l.map useSV) = L.map useSV) (hLl : L.length ≤ 30) (hC : Charged L n who t) (hwL : UsesW L) (hwn : UsesW n) (hwF : UsesW F)
    (hF : F = n.map (fade1 0)) (f1 : ACalls Try.prog 33 [uses L, iv who, iv cores, iv ticks] (· = .one (.sv (uses n))))
    (f2 : ACalls Try.prog 34 [uses n, iv who] (· = .one (.sv (iv b1)))) (f3 : ACalls Try.prog 34 [uses L, iv who] (· = .one (.sv (iv b2)))) (hb : t < L.length → b1 ≤ b2)
    (f4 : ACalls Try.prog 36 [uses n, iv 0] (· = .one (.sv (uses F)))) :
    ACalls Try.prog 10 [uses l, iv who, .val (.int .u16 cores), .val (.int .u32 ticks)] (· = .one (.sv (bv true))) := by
  refine ACalls.of_bodyS (fun _ _ => Try.call10 _ _) Try.func10 rfl Try.ntmps10 (by simp) ?_
  refine Tr.ex ?_
  have hnl : n.length ≤ 31 := by rcases hC.len with h | h <;> omega
  have hFl : F.length = n.length := by rw [hF]; simp
  simp [go_sem]
  refine OpW.fn true awake26_c rfl rfl (by simp [go_sem]) (by rintro _ r rfl; simp [go_sem]) ?_
  rintro r rfl
  simp [go_sem]
  refine ⟨⟨by split <;> omega, by split <;> omega⟩, ?_⟩
  rw [hL]
  simp [go_sem, hc, ht]
  refine OpW.fn false f1 rfl rfl (by simp [go_sem]) (fun h => by cases h) ?_
  rintro r rfl
  have g1 : ¬ (n.length : Int) < L.length := by rcases hC.len with h | h <;> omega
  have g2 : ¬ (L.length : Int) + 1 < n.length := by rcases hC.len with h | h <;> omega
  have g2' : ¬ L.length + 1 < n.length := by rcases hC.len with h | h <;> omega
  have g1' : ¬ n.length < L.length := by omega
  have gw : IntKind.i64.wrap ((L.length : Int) + 1) = (L.length : Int) + 1 := by rw [i64w] <;> omega
  have lens := hC.len
  rcases lens with ⟨hA, hB⟩ | ⟨hA, hB⟩
  · have e1 : ((L.length : Int) == n.length) = true := by simp [hA]
    have hb' : ¬ (b2 : Int) < b1 := by have := hb hB; omega
    have hb2 : ¬ b2 < b1 := by omega
    have e2 : ((n.length : Int) == L.length) = true := by simp [hA]
    have e3 : ∀ m : Bool, (m == true) = m := fun m => by cases m <;> rfl
    have e4 : decide (t < L.length) = true := decide_eq_true hB
    simp [go_sem, g1, g1', g2, g2', gw, e1]
    refine OpW.fn true f2 rfl rfl (by simp [go_sem]) (by rintro _ r rfl; simp [go_sem]) ?_
    rintro r rfl
    simp [go_sem]
    refine OpW.fn true f3 rfl rfl (by simp [go_sem]) (by rintro _ r rfl; simp [go_sem]) ?_
    rintro r rfl
    simp [go_sem, hb', hb2]
    refine LoopW.of (fun i : Nat => ⟨118, [(0, .sv (uses L)), (1, .sv (iv who)), (8, .sv (bv false)), (9, .sv (uses n)), (10, .sv (bv (decide (t < i)))), (11, .sv (iv i))], []⟩)
      (fun i => i ≤ L.length) (fun i => L.length - i) 0 (by omega) (Ent.chk (by simp [go_sem])) ?_
    intro i hi
    by_cases hlt : i < L.length
    case neg =>
      have hil : i = L.length := by omega
      subst hil
      rw [e4]
      simp [go_sem]
      refine OpW.fn false f4 rfl rfl (by simp [go_sem]) (fun h => by cases h) ?_
      rintro r rfl
      simp [go_sem]
      refine LoopW.of (fun i : Nat => ⟨118, [(0, .sv (uses L)), (8, .sv (bv false)), (9, .sv (uses n)), (10, .sv (bv (decide (t < L.length)))), (14, .sv (uses F)), (15, .sv (iv i))], []⟩)
        (fun i => i ≤ n.length) (fun i => n.length - i) 0 (by omega) (Ent.chk (by simp [go_sem, e4])) ?_
      intro i hi
      by_cases hlt : i < n.length
      case neg =>
        have hil : i = n.length := by omega
        subst hil
        rw [e4]
        simp [go_sem, e2]
      case pos =>
      have hlt' : (i : Int) < n.length := by omega
      have hltF : i < F.length := by omega
      have hltF' : (i : Int) < F.length := by omega
      have hwr : IntKind.i64.wrap ((i : Int) + 1) = (i : Int) + 1 := by rw [i64w] <;> omega
      obtain ⟨v, hv⟩ : ∃ v, n[i]? = some v := ⟨_, List.getElem?_eq_getElem hlt⟩
      have hFi : F[i]? = some (fade1 0 v) := by rw [hF, List.getElem?_map, hv]; rfl
      have s1 := Share_c (fade1 0 v) (hwF _ (List.mem_of_getElem? hFi))
      have s2 := Share_c v (hwn v (List.mem_of_getElem? hv))
      rw [shr_fade0] at s1
      have hfe := fEq_fin (shr_le v) (shr_le v)
      rw [decide_eq_true rfl] at hfe
      generalize shr v = x at *
      generalize hfv : fade1 0 v = fv' at *
      simp [go_sem, hlt, hlt']
      refine DrawW.rd rfl ?_
      simp [go_sem, hltF, hltF', hFi, gE hFi]
      refine OpD.call true s1 rfl rfl (by simp [go_sem]) (by intro _; simp [go_sem]) (by simp [go_sem]) (by simp [go_sem]) ?_
      simp [go_sem, hlt, hlt', hv, gE hv]
      refine OpD.call true s2 rfl rfl (by simp [go_sem]) (by intro _; simp [go_sem]) (by simp [go_sem]) (by simp [go_sem]) ?_
      simp [go_sem, hfe]
      refine ⟨by kernel_rfl, ?_⟩
      exact ⟨i + 1, by omega, by omega, Ent.chk (by simp [go_sem, hwr])⟩
    case pos =>
    have hlt' : (i : Int) < L.length := by omega
    have hltn : i < n.length := by omega
    have hltn' : (i : Int) < n.length := by omega
    have hwr : IntKind.i64.wrap ((i : Int) + 1) = (i : Int) + 1 := by rw [i64w] <;> omega
    obtain ⟨u, hu⟩ : ∃ u, L[i]? = some u := ⟨_, List.getElem?_eq_getElem hlt⟩
    obtain ⟨v, hv⟩ : ∃ v, n[i]? = some v := ⟨_, List.getElem?_eq_getElem hltn⟩
    have s1 := Share_c u (hwL u (List.mem_of_getElem? hu))
    have s2 := Share_c v (hwn v (List.mem_of_getElem? hv))
    have hlu := shr_le u
    have hlv := shr_le v
    by_cases hit : i = t
    · subst hit
      have hw1 := hC.whose u hu
      have hri := hC.rise u v hu hv
      have hfl := fLt_fin hlv hlu
      rw [decide_eq_false (by omega)] at hfl
      have ew : (u.who == who) = true := by simpa using hw1
      have d0 : decide (i < i) = false := by simp
      have d1 : decide (i < i + 1) = true := by simp
      generalize shr u = x at *
      generalize shr v = y at *
      rw [d0]
      simp [go_sem, hlt, hlt']
      refine DrawW.rd rfl ?_
      simp [go_sem, hlt, hlt', hu, gE hu]
      refine OpD.call true s1 rfl rfl (by simp [go_sem]) (by intro _; simp [go_sem]) (by simp [go_sem]) (by simp [go_sem]) ?_
      simp [go_sem, hltn, hltn', hv, gE hv]
      refine OpD.call true s2 rfl rfl (by simp [go_sem]) (by intro _; simp [go_sem]) (by simp [go_sem]) (by simp [go_sem]) ?_
      simp [go_sem]
      refine ⟨by kernel_rfl, ?_⟩
      simp [go_sem, hlt, hlt', hu, gE hu, ew, hfl]
      exact ⟨i + 1, by omega, by omega, Ent.chk (by simp [go_sem, hwr])⟩
    · have hsv := hC.same i u hit hu
      rw [hv] at hsv
      have huv := Option.some.inj hsv
      subst huv
      have hfe := fEq_fin hlv hlv
      rw [decide_eq_true rfl] at hfe
      have hfirst := hC.first i v hu
      generalize shr v = x at *
      have hd : decide (t < i) = decide (t < i + 1) := by rw [decide_eq_decide]; omega
      by_cases hw1 : v.who = who
      · have := hfirst hw1
        have ew : (v.who == who) = true := by simpa using hw1
        have d0 : decide (t < i) = true := decide_eq_true (by omega)
        have d1 : decide (t < i + 1) = true := decide_eq_true (by omega)
        rw [d0]
        simp [go_sem, hlt, hlt']
        refine DrawW.rd rfl ?_
        simp [go_sem, hlt, hlt', hu, gE hu]
        refine OpD.call true s1 rfl rfl (by simp [go_sem]) (by intro _; simp [go_sem]) (by simp [go_sem]) (by simp [go_sem]) ?_
        simp [go_sem, hltn, hltn', hv, gE hv]
        refine OpD.call true s2 rfl rfl (by simp [go_sem]) (by intro _; simp [go_sem]) (by simp [go_sem]) (by simp [go_sem]) ?_
        simp [go_sem]
        refine ⟨by kernel_rfl, ?_⟩
        simp [go_sem, hlt, hlt', hu, gE hu, ew, hfe]
        exact ⟨i + 1, by omega, by omega, Ent.chk (by simp [go_sem, hwr]; omega)⟩
      · have ew : (v.who == who) = false := by simpa using hw1
        generalize hD : decide (t < i) = D at *
        simp [go_sem, hlt, hlt']
        refine DrawW.rd rfl ?_
        simp [go_sem, hlt, hlt', hu, gE hu]
        refine OpD.call true s1 rfl rfl (by simp [go_sem]) (by intro _; simp [go_sem]) (by simp [go_sem]) (by simp [go_sem]) ?_
        simp [go_sem, hltn, hltn', hv, gE hv]
        refine OpD.call true s2 rfl rfl (by simp [go_sem]) (by intro _; simp [go_sem]) (by simp [go_sem]) (by simp [go_sem]) ?_
        simp [go_sem]
        refine ⟨by kernel_rfl, ?_⟩
        simp [go_sem, hlt, hlt', hu, gE hu, ew, hfe]
        exact ⟨i + 1, by omega, by omega, Ent.chk (by simp [go_sem, hwr, ← hd])⟩
  · have e1 : ((L.length : Int) == n.length) = false := by simp; omega
    have e2 : ((n.length : Int) == L.length) = false := by simp; omega
    have e4 : decide (t < L.length) = false := decide_eq_false (by omega)
    simp [go_sem, g1, g1', g2, g2', gw, e1]
    refine LoopW.of (fun i : Nat => ⟨118, [(0, .sv (uses L)), (1, .sv (iv who)), (8, .sv (bv false)), (9, .sv (uses n)), (10, .sv (bv (decide (t < i)))), (11, .sv (iv i))], []⟩)
      (fun i => i ≤ L.length) (fun i => L.length - i) 0 (by omega) (Ent.chk (by simp [go_sem])) ?_
    intro i hi
    by_cases hlt : i < L.length
    case neg =>
      have hil : i = L.length := by omega
      subst hil
      rw [e4]
      simp [go_sem]
      refine OpW.fn false f4 rfl rfl (by simp [go_sem]) (fun h => by cases h) ?_
      rintro r rfl
      simp [go_sem]
      refine LoopW.of (fun i : Nat => ⟨118, [(0, .sv (uses L)), (8, .sv (bv false)), (9, .sv (uses n)), (10, .sv (bv (decide (t < L.length)))), (14, .sv (uses F)), (15, .sv (iv i))], []⟩)
        (fun i => i ≤ n.length) (fun i => n.length - i) 0 (by omega) (Ent.chk (by simp [go_sem, e4])) ?_
      intro i hi
      by_cases hlt : i < n.length
      case neg =>
        have hil : i = n.length := by omega
        subst hil
        rw [e4]
        simp [go_sem, e2]
      case pos =>
      have hlt' : (i : Int) < n.length := by omega
      have hltF : i < F.length := by omega
      have hltF' : (i : Int) < F.length := by omega
      have hwr : IntKind.i64.wrap ((i : Int) + 1) = (i : Int) + 1 := by rw [i64w] <;> omega
      obtain ⟨v, hv⟩ : ∃ v, n[i]? = some v := ⟨_, List.getElem?_eq_getElem hlt⟩
      have hFi : F[i]? = some (fade1 0 v) := by rw [hF, List.getElem?_map, hv]; rfl
      have s1 := Share_c (fade1 0 v) (hwF _ (List.mem_of_getElem? hFi))
      have s2 := Share_c v (hwn v (List.mem_of_getElem? hv))
      rw [shr_fade0] at s1
      have hfe := fEq_fin (shr_le v) (shr_le v)
      rw [decide_eq_true rfl] at hfe
      generalize shr v = x at *
      generalize hfv : fade1 0 v = fv' at *
      simp [go_sem, hlt, hlt']
      refine DrawW.rd rfl ?_
      simp [go_sem, hltF, hltF', hFi, gE hFi]
      refine OpD.call true s1 rfl rfl (by simp [go_sem]) (by intro _; simp [go_sem]) (by simp [go_sem]) (by simp [go_sem]) ?_
      simp [go_sem, hlt, hlt', hv, gE hv]
      refine OpD.call true s2 rfl rfl (by simp [go_sem]) (by intro _; simp [go_sem]) (by simp [go_sem]) (by simp [go_sem]) ?_
      simp [go_sem, hfe]
      refine ⟨by kernel_rfl, ?_⟩
      exact ⟨i + 1, by omega, by omega, Ent.chk (by simp [go_sem, hwr])⟩
    case pos =>
    have hlt' : (i : Int) < L.length := by omega
    have hltn : i < n.length := by omega
    have hltn' : (i : Int) < n.length := by omega
    have hwr : IntKind.i64.wrap ((i : Int) + 1) = (i : Int) + 1 := by rw [i64w] <;> omega
    obtain ⟨u, hu⟩ : ∃ u, L[i]? = some u := ⟨_, List.getElem?_eq_getElem hlt⟩
    obtain ⟨v, hv⟩ : ∃ v, n[i]? = some v := ⟨_, List.getElem?_eq_getElem hltn⟩
    have s1 := Share_c u (hwL u (List.mem_of_getElem? hu))
    have s2 := Share_c v (hwn v (List.mem_of_getElem? hv))
    have hlu := shr_le u
    have hlv := shr_le v
    by_cases hit : i = t
    · subst hit
      have hw1 := hC.whose u hu
      have hri := hC.rise u v hu hv
      have hfl := fLt_fin hlv hlu
      rw [decide_eq_false (by omega)] at hfl
      have ew : (u.who == who) = true := by simpa using hw1
      have d0 : decide (i < i) = false := by simp
      have d1 : decide (i < i + 1) = true := by simp
      generalize shr u = x at *
      generalize shr v = y at *
      rw [d0]
      simp [go_sem, hlt, hlt']
      refine DrawW.rd rfl ?_
      simp [go_sem, hlt, hlt', hu, gE hu]
      refine OpD.call true s1 rfl rfl (by simp [go_sem]) (by intro _; simp [go_sem]) (by simp [go_sem]) (by simp [go_sem]) ?_
      simp [go_sem, hltn, hltn', hv, gE hv]
      refine OpD.call true s2 rfl rfl (by simp [go_sem]) (by intro _; simp [go_sem]) (by simp [go_sem]) (by simp [go_sem]) ?_
      simp [go_sem]
      refine ⟨by kernel_rfl, ?_⟩
      simp [go_sem, hlt, hlt', hu, gE hu, ew, hfl]
      exact ⟨i + 1, by omega, by omega, Ent.chk (by simp [go_sem, hwr])⟩
    · have hsv := hC.same i u hit hu
      rw [hv] at hsv
      have huv := Option.some.inj hsv
      subst huv
      have hfe := fEq_fin hlv hlv
      rw [decide_eq_true rfl] at hfe
      have hfirst := hC.first i v hu
      generalize shr v = x at *
      have hd : decide (t < i) = decide (t < i + 1) := by rw [decide_eq_decide]; omega
      by_cases hw1 : v.who = who
      · have := hfirst hw1
        have ew : (v.who == who) = true := by simpa using hw1
        have d0 : decide (t < i) = true := decide_eq_true (by omega)
        have d1 : decide (t < i + 1) = true := decide_eq_true (by omega)
        rw [d0]
        simp [go_sem, hlt, hlt']
        refine DrawW.rd rfl ?_
        simp [go_sem, hlt, hlt', hu, gE hu]
        refine OpD.call true s1 rfl rfl (by simp [go_sem]) (by intro _; simp [go_sem]) (by simp [go_sem]) (by simp [go_sem]) ?_
        simp [go_sem, hltn, hltn', hv, gE hv]
        refine OpD.call true s2 rfl rfl (by simp [go_sem]) (by intro _; simp [go_sem]) (by simp [go_sem]) (by simp [go_sem]) ?_
        simp [go_sem]
        refine ⟨by kernel_rfl, ?_⟩
        simp [go_sem, hlt, hlt', hu, gE hu, ew, hfe]
        exact ⟨i + 1, by omega, by omega, Ent.chk (by simp [go_sem, hwr]; omega)⟩
      · have ew : (v.who == who) = false := by simpa using hw1
        generalize hD : decide (t < i) = D at *
        simp [go_sem, hlt, hlt']
        refine DrawW.rd rfl ?_
        simp [go_sem, hlt, hlt', hu, gE hu]
        refine OpD.call true s1 rfl rfl (by simp [go_sem]) (by intro _; simp [go_sem]) (by simp [go_sem]) (by simp [go_sem]) ?_
        simp [go_sem, hltn, hltn', hv, gE hv]
        refine OpD.call true s2 rfl rfl (by simp [go_sem]) (by intro _; simp [go_sem]) (by simp [go_sem]) (by simp [go_sem]) ?_
        simp [go_sem]
        refine ⟨by kernel_rfl, ?_⟩
        simp [go_sem, hlt, hlt', hu, gE hu, ew, hfe]
        exact ⟨i + 1, by omega, by omega, Ent.chk (by simp [go_sem, hwr, ← hd])⟩
theorem u16_wf {n : Int} (h : (Lit.int .u16 n).wf = true) : 0 ≤ n ∧ n ≤ 65535 := by
  simp [Lit.wf] at h
  have e0 : IntKind.u16.min = 0 := by decide
  have e1 : IntKind.u16.max = 65535 := by decide
  omega
theorem u32_wf {n : Int} (h : (Lit.int .u32 n).wf = true) : 0 ≤ n ∧ n ≤ 4294967295 := by
  simp [Lit.wf] at h
  have e0 : IntKind.u32.min = 0 := by decide
  have e1 : IntKind.u32.max = 4294967295 := by decide
  omega
theorem law_FairShares (l : List Use) (who cores ticks : Int) (h0 : l.length * 24 ≤ 140737488351232 ∧ l.length ≤ maxLen ∧ ∀ x ∈ l, UseOk x) (h1 : (Lit.int .i64 who).wf = true) (h2 : (Lit.int .u16 cores).wf = true) (h3 : (Lit.int .u32 ticks).wf = true) :
    ACalls Try.prog 10 [SV.lst (l.map useSV), iv who, SV.val (.int .u16 cores), SV.val (.int .u32 ticks)] (· = .one (.sv (bv true))) := by
  have k2 := u16_wf h2
  have k3 := u32_wf h3
  have hlw : UsesW l := fun u hu => (h0.2.2 u hu).w
  have hw' : UsesW (l.take 30) := fun y hy => hlw y (List.mem_of_mem_take hy)
  have htl : (l.take 30).length ≤ 30 := by rw [List.length_take]; omega
  have hC := charged (l.take 30) who (moreF cores ticks)
  have hnw : UsesW (chargeU (l.take 30) who (moreF cores ticks)) := chargeU_w hw'
  have hnl : (chargeU (l.take 30) who (moreF cores ticks)).length ≤ 31 := by rcases hC.len with h | h <;> omega
  exact FairSharesX l (l.take 30) _ _ who cores ticks _ _ _ (by rw [i64w] <;> omega) (by rw [i64w] <;> omega) (cut_at useSV l 30) htl hC hw' hnw (fade_w 0 hnw) rfl (Charge_c _ who cores ticks (by omega) hw' (by omega) (by omega))
    (Bonus_c _ who (by omega) hnw) (Bonus_c _ who (by omega) hw') hC.bonus (FadeU_c _ 0 (by omega) hnw)
end Go.Proofs.Ytnkcenafpigmbaa.Ab
