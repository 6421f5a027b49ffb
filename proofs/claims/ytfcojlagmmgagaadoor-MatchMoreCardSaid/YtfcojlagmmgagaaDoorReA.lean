/- The reference of chapter 5: Tag, Right. -/
import Derived.Test.YtfcojlagmmgagaaDoorGrH
namespace Go.Proofs.YtfcojlagmmgagaaDoor.Ab
open Go.RowKit
set_option linter.unusedVariables false
set_option linter.unusedSimpArgs false

def tagTo (s : ByteArray) (i : Nat) : Prop := ∀ j, j < i → ∀ b, s.data.toList[j]? = some b → isLet b.toNat = true
theorem rTag_c (s : ByteArray) (hs : s.size ≤ 9223372036854775807) : ACalls Tryd.prog 112 [.val (.string s)] (· = .one (.sv (bv (isTag s)))) := by
  refine ACalls.of_bodyS (fun _ _ => Tryd.call112 _ _) Tryd.func112 rfl Tryd.ntmps112 (by simp) ?_
  refine Tr.ex ?_
  simp [go_sem]
  refine LoopW.of (fun i : Nat => ⟨37, [(0, .sv (.val (.string s))), (2, .sv (bv false)), (3, .sv (iv i))], []⟩)
    (fun i => i ≤ s.size ∧ tagTo s i) (fun i => s.size - i) 0 ⟨by omega, fun j hj => by omega⟩ (Ent.chk (by simp [go_sem])) ?_
  rintro i ⟨hi, hl⟩
  by_cases hlt : i < s.size
  · have hlt' : (i : Int) < s.size := by omega
    have hw : IntKind.i64.wrap ((i : Int) + 1) = (i : Int) + 1 := by rw [i64w] <;> omega
    have hbyte : s.data.toList[i]? = some s[i] := by simp [hlt]; rfl
    have hbt : bt s i = (s[i].toNat : Int) := by
      unfold bt
      have : s.data.getD (i : Int).toNat 0 = s[i] := by
        rw [Int.toNat_natCast, Array.getD_eq_getD_getElem?, ← Array.getElem?_toList, hbyte]; rfl
      rw [this]
    have hgood : isLet s[i].toNat = true → tagTo s (i + 1) := fun h j hj b hb => by
      by_cases hji : j = i
      · subst hji; rw [hbyte] at hb; simp only [Option.some.injEq] at hb; subst hb; exact h
      · exact hl j (by omega) b hb
    have hbad : isLet s[i].toNat = false → isTag s = false := fun h => by unfold isTag; rw [tag_not hbyte h]; simp
    generalize s[i].toNat = n at hbt hgood hbad
    have il : isLet n = ((decide (97 ≤ n) && decide (n ≤ 122)) || (decide (48 ≤ n) && decide (n ≤ 57))) := rfl
    by_cases c1 : 97 ≤ n
    · have c1' : (97 : Int) ≤ n := by omega
      by_cases c2 : n ≤ 122
      · have c2' : (n : Int) ≤ 122 := by omega
        simp [go_sem, hlt, hlt', hbt, c1', c2']
        exact ⟨i + 1, ⟨by omega, hgood (by rw [il]; simp [c1, c2])⟩, by omega, Ent.chk (by simp [go_sem, hw])⟩
      · have c2' : ¬ (n : Int) ≤ 122 := by omega
        have c3' : ¬ (n : Int) ≤ 57 := by omega
        have c4' : (48 : Int) ≤ n := by omega
        simp [go_sem, hlt, hlt', hbt, c1', c2', c3', c4']
        exact hbad (by rw [il]; simp [c1, c2]; omega)
    · have c1' : ¬ (97 : Int) ≤ n := by omega
      by_cases c3 : 48 ≤ n
      · have c3' : (48 : Int) ≤ n := by omega
        by_cases c4 : n ≤ 57
        · have c4' : (n : Int) ≤ 57 := by omega
          simp [go_sem, hlt, hlt', hbt, c1', c3', c4']
          exact ⟨i + 1, ⟨by omega, hgood (by rw [il]; simp [c3, c4])⟩, by omega, Ent.chk (by simp [go_sem, hw])⟩
        · have c4' : ¬ (n : Int) ≤ 57 := by omega
          simp [go_sem, hlt, hlt', hbt, c1', c3', c4']
          exact hbad (by rw [il]; simp [c1, c4])
      · have c3' : ¬ (48 : Int) ≤ n := by omega
        simp [go_sem, hlt, hlt', hbt, c1', c3']
        exact hbad (by rw [il]; simp [c1, c3])
  · have hil : i = s.size := by omega
    subst hil
    have : tagBytes s = true := tag_upto (by omega) hl
    simp [go_sem, isTag, this]
    by_cases h : s.size ≤ 16
    · have : (s.size : Int) ≤ 16 := by omega
      simp [h, this]
    · have : ¬ (s.size : Int) ≤ 16 := by omega
      simp [h, this]

set_option maxRecDepth 100000 in
set_option maxHeartbeats 4000000 in
theorem rRight_c (g : List Thing) (hg : g.length ≤ 140737488355328) (ht : Things g) : ACalls Tryd.prog 92 [things g] (· = .one (.sv (bv (isGraph g)))) := by
  refine ACalls.of_bodyS (fun _ _ => Tryd.call92 _ _) Tryd.func92 rfl Tryd.ntmps92 (by simp) ?_
  refine Tr.ex ?_
  by_cases h1 : g.length = 0
  · have e : isGraph g = false := by unfold isGraph; rw [h1]; simp
    have h1' : ((g.length : Int) == 0) = true := by rw [h1]; rfl
    simp [go_sem, h1', e]
  · have h1' : ((g.length : Int) == 0) = false := by simp; intro h; exact h1 (by rw [h]; rfl)
    by_cases h2 : 256 < g.length
    · have e : isGraph g = false := by unfold isGraph; have : ¬ g.length ≤ 256 := by omega
                                       simp [this]
      have h2' : 256 < (g.length : Int) := by omega
      simp [go_sem, h1', h2', e]
    · have h2' : ¬ 256 < (g.length : Int) := by omega
      have h0 : 0 < g.length := by omega
      simp [go_sem, h1', h2']
      have hfit : ∀ a : Thing, a ∈ g → SV.fits 3 (thingSV a) = true := fun a _ => rfl
      refine LoopW.of (fun i : Nat => ⟨101, [(0, .sv (things g)), (2, .sv (bv false)), (3, .sv (iv i))], []⟩)
        (fun i => i ≤ g.length ∧ (0 < i → rootB (th g 0) = true) ∧ (∀ j, 0 < j → j < i → goodB g j = true) ∧ ∀ j, j < i → 0 ≤ (th g j).kind ∧ (th g j).kind ≤ 4) (fun i => g.length - i) 0 ⟨by omega, by omega, fun j hj => by omega, fun j hj => by omega⟩ (Ent.chk (by simp [go_sem])) ?_
      rintro i ⟨hi, hroot, hgood, hkinds⟩
      by_cases hlt : i < g.length
      · have hlt' : (i : Int) < g.length := by omega
        have hw : IntKind.i64.wrap ((i : Int) + 1) = (i : Int) + 1 := by rw [i64w] <;> omega
        have hth : th g i = g[i] := by unfold th; simp [hlt]
        by_cases hi0 : i = 0
        · subst hi0
          have hge : g[0]? = some g[0] := List.getElem?_eq_getElem hlt
          have hbad : rootB (th g 0) = false → isGraph g = false := fun h => by unfold isGraph; simp [h]
          have hk : (!(g[0].kind == 0) || (!(g[0].up == -1) || !g[0].tag.toList.isEmpty)) = !rootB (th g 0) := by
            unfold rootB; rw [hth]; simp [Bool.or_assoc]
          cases a1 : (g[0].kind == 0) with
          | false =>
            rw [a1] at hk
            simp [go_sem, hlt, hlt', hge, bne, a1]
            exact hbad (by simpa using hk)
          | true =>
            cases a2 : (g[0].up == -1) with
            | false =>
              rw [a1, a2] at hk
              simp [go_sem, hlt, hlt', hge, bne, a1, a2]
              exact hbad (by simpa using hk)
            | true =>
              cases a3 : g[0].tag.toList.isEmpty with
              | false =>
                rw [a1, a2, a3] at hk
                simp [go_sem, hlt, hlt', hge, bne, a1, a2, a3]
                exact hbad (by simpa using hk)
              | true =>
                rw [a1, a2, a3] at hk
                simp [go_sem, hlt, hlt', hge, bne, a1, a2, a3]
                have hr : rootB (th g 0) = true := by simpa using hk
                refine ⟨1, ⟨by omega, fun _ => hr, fun j h3 h4 => by omega, fun j hj => ?_⟩, by omega, Ent.chk (by simp [go_sem])⟩
                have : j = 0 := by omega
                subst this; rw [hth]; simp at a1; omega
        · have hi0' : ((i : Int) == 0) = false := by simp; omega
          have hbad : goodB g i = false → isGraph g = false := fun h => by
            unfold isGraph
            have : ((List.range (g.length - 1)).all fun i => goodB g (i + 1)) = false := by
              rw [List.all_eq_false]
              exact ⟨i - 1, by simp; omega, by rw [show i - 1 + 1 = i by omega]; simp [h]⟩
            rw [this]; simp
          have hsz : (g[i]).tag.size ≤ 9223372036854775807 := ht _ (List.getElem_mem _)
          have hnext : goodB g i = true → 0 ≤ (th g i).kind ∧ (th g i).kind ≤ 4 := fun h => by
            unfold goodB kindOk at h
            simp only [Bool.and_eq_true, Bool.or_eq_true, beq_iff_eq] at h
            omega
          have hstep : goodB g i = true → (i + 1 ≤ g.length ∧ (0 < i + 1 → rootB (th g 0) = true) ∧ (∀ j, 0 < j → j < i + 1 → goodB g j = true) ∧ ∀ j, j < i + 1 → 0 ≤ (th g j).kind ∧ (th g j).kind ≤ 4) := fun h =>
            ⟨by omega, fun _ => hroot (by omega), fun j h3 h4 => by
              by_cases hji : j = i
              · subst hji; exact h
              · exact hgood j h3 (by omega), fun j hj => by
              by_cases hji : j = i
              · subst hji; exact hnext h
              · exact hkinds j (by omega)⟩
          have hgb : goodB g i = goodB g i := rfl
          unfold goodB at hgb
          conv at hgb => lhs; rw [hth]
          generalize hgo : goodB g i = good at hbad hstep hgb hnext
          have hgb' : good = (decide (0 ≤ g[i].up) && decide (g[i].up < i) && kindOk g[i].kind (th g g[i].up.toNat).kind && isTag g[i].tag && (g[i].tag.toList == [] || g[i].kind == 2)) := by
            rw [← hgo]; unfold goodB; rw [hth]
          clear hgb hgo
          generalize hk : g[i].kind = k at hgb' hsz hnext
          generalize hu : g[i].up = u at hgb' hsz
          generalize hs : g[i].tag = s at hgb' hsz
          have hge : g[i]? = some ⟨k, u, s⟩ := by rw [List.getElem?_eq_getElem hlt, ← hk, ← hu, ← hs]
          by_cases c1 : u < 0
          · have : ¬ 0 ≤ u := by omega
            have e := hbad (by rw [hgb']; simp [this])
            simp [go_sem, hlt', hge, hi0', bne, c1]
            exact e
          · have c1' : 0 ≤ u := by omega
            by_cases c2 : (i : Int) ≤ u
            · have : ¬ u < i := by omega
              have e := hbad (by rw [hgb']; simp [this])
              simp [go_sem, hlt', hge, hi0', bne, c1, c2]
              exact e
            · have c2' : u < i := by omega
              have hun : u.toNat < g.length := by omega
              have hul : u < (g.length : Int) := by omega
              have hgu : g[u.toNat]? = some g[u.toNat] := List.getElem?_eq_getElem hun
              have hthu : th g u.toNat = g[u.toNat] := by unfold th; simp [hun]
              have hkr := hkinds u.toNat (by omega)
              rw [hthu] at hgb' hkr
              simp only [c1', c2', decide_true, Bool.true_and] at hgb'
              -- the tag that only a node bears
              have key : (s.toList.isEmpty || k == 2) = true → ACalls Tryd.prog 112 [.val (.string s)] (· = .one (.sv (bv (isTag s)))) := fun _ => rTag_c s hsz
              have hq : (s.toList == []) = s.toList.isEmpty := by cases s.toList <;> rfl
              rw [hq] at hgb'
              cases c3 : (s.toList.isEmpty || k == 2) with
              | false =>
                have e := hbad (by rw [hgb', c3]; simp)
                simp only [Bool.or_eq_false_iff] at c3
                simp [go_sem, hlt', hge, hi0', bne, c1, c2, c3.1, c3.2]
                exact e
              | true =>
                rw [c3, Bool.and_true] at hgb'
                have fin : ∀ b : Bool, kindOk k g[u.toNat].kind = b → isTag s = true → good = b := fun b h1 h2 => by rw [hgb', h1, h2, Bool.and_true]
                cases c4 : s.toList.isEmpty with
                | false =>
                  rw [c4, Bool.false_or] at c3
                  have hk2 : k = 2 := by simpa using c3
                  subst hk2
                  simp [go_sem, hlt', hge, hi0', bne, c1, c2, c4]
                  refine OpW.fn true (rTag_c s hsz) rfl rfl (by simp [go_sem]) (by rintro _ r rfl; simp [go_sem]) ?_
                  rintro r rfl
                  cases c5 : isTag s with
                  | false =>
                    have e := hbad (by rw [hgb', c5]; simp)
                    simp [go_sem]
                    exact e
                  | true =>
                    simp [go_sem, hgu, c1', hul, hun]
                    generalize g[u.toNat].kind = q at fin hkr
                    by_cases e : q < 2
                    · have := fin true (by unfold kindOk; simp; omega) c5
                      simp [go_sem, e]
                      exact ⟨i + 1, hstep this, by omega, Ent.chk (by simp [go_sem, hw])⟩
                    · have := fin false (by unfold kindOk; simp; omega) c5
                      simp [go_sem, e]
                      exact hbad this
                | true =>
                  simp [go_sem, hlt', hge, hi0', bne, c1, c2, c4]
                  refine OpW.fn true (rTag_c s hsz) rfl rfl (by simp [go_sem]) (by rintro _ r rfl; simp [go_sem]) ?_
                  rintro r rfl
                  cases c5 : isTag s with
                  | false =>
                    have e := hbad (by rw [hgb', c5]; simp)
                    simp [go_sem]
                    exact e
                  | true =>
                    simp [go_sem, hgu, c1', hul, hun]
                    generalize g[u.toNat].kind = q at fin hkr
                    by_cases k1 : k = 1
                    · subst k1
                      cases e : (q == 0) with
                      | true =>
                        have := fin true (by unfold kindOk; simp at e; simp [e]) c5
                        simp [go_sem, e]
                        exact ⟨i + 1, hstep this, by omega, Ent.chk (by simp [go_sem, hw])⟩
                      | false =>
                        have := fin false (by unfold kindOk; simp at e; simp [e]) c5
                        simp [go_sem, e]
                        exact hbad this
                    · have k1' : (k == 1) = false := by simpa using k1
                      by_cases k2 : k = 2
                      · subst k2
                        by_cases e : q < 2
                        · have := fin true (by unfold kindOk; simp; omega) c5
                          simp [go_sem, e]
                          exact ⟨i + 1, hstep this, by omega, Ent.chk (by simp [go_sem, hw])⟩
                        · have := fin false (by unfold kindOk; simp; omega) c5
                          simp [go_sem, e]
                          exact hbad this
                      · have k2' : (k == 2) = false := by simpa using k2
                        by_cases k3 : k = 3 ∨ k = 4
                        · cases e : (q == 2) with
                          | true =>
                            have := fin true (by unfold kindOk; simp at e; simp [e, k3]) c5
                            rcases k3 with rfl | rfl
                            all_goals
                              simp [go_sem, e]
                              exact ⟨i + 1, hstep this, by omega, Ent.chk (by simp [go_sem, hw])⟩
                          | false =>
                            have := fin false (by unfold kindOk; simp at e; simp [e, k1, k2]) c5
                            rcases k3 with rfl | rfl
                            all_goals
                              simp [go_sem, e]
                              exact hbad this
                        · have k3' : (k == 3) = false := by simp; omega
                          have k4' : (k == 4) = false := by simp; omega
                          have e := hbad (fin false (by unfold kindOk; simp [k1', k2', k3', k4']) c5)
                          simp [go_sem, k1', k2', k3', k4']
                          exact e
      · have hil : i = g.length := by omega
        subst hil
        have e : isGraph g = true := by
          unfold isGraph
          have : ((List.range (g.length - 1)).all fun i => goodB g (i + 1)) = true := by
            rw [List.all_eq_true]
            intro j hj
            exact hgood (j + 1) (by omega) (by simp at hj; omega)
          rw [this, hroot h0]; simp; omega
        simp [go_sem, e]
end Go.Proofs.YtfcojlagmmgagaaDoor.Ab
