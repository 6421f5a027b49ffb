/- The reference of chapter 5: Tag, Right. The references 1 and 5: in, Has, Right; Over, Under, Above, Node, Kinds, Whole. Sets: TrailingZeros64, words.list, put, Join, Meet, Less. (Seats with the table of math/bits.) Sets: Join, Meet, Less; graph.Whole, and the reference's. -/
import Derived.Test.YtinhfnbmgmociaaGreatDoorGr1
import Derived.Test.YtinhfnbmgmociaaGreatDoorAb3
import Derived.Lib.TrailingZeros
import Derived.Laws.Bits64b
namespace Go.Proofs.YtinhfnbmgmociaaGreatDoor.Ab
open Go.RowKit
set_option linter.unusedVariables false
set_option linter.unusedSimpArgs false

def tagTo (s : ByteArray) (i : Nat) : Prop := ∀ j, j < i → ∀ b, s.data.toList[j]? = some b → isLet b.toNat = true
theorem rTag_c (s : ByteArray) (hs : s.size ≤ 9223372036854775807) : ACalls Tryz.prog 74 [.val (.string s)] (· = .one (.sv (bv (isTag s)))) := by
  refine ACalls.of_bodyS (fun _ _ => Tryz.call74 _ _) Tryz.func74 rfl Tryz.ntmps74 (by simp) ?_
  refine Tr.ex ?_
  simp [go_sem]
  refine LoopW.of (fun i : Nat => ⟨37, [(0, .sv (.val (.string s))), (2, .sv (bv false)), (3, .sv (iv i))], []⟩)
    (fun i => i ≤ s.size ∧ tagTo s i) (fun i => s.size - i) 0 ⟨by omega, fun j hj => by omega⟩ (Ent.chk (by simp [go_sem])) ?_
  rintro i ⟨hi, hl⟩
  by_cases hlt : i < s.size
  · have hlt' : (i : Int) < s.size := by omega
    have hw : IntKind.i64.wrap ((i : Int) + 1) = (i : Int) + 1 := by rw [i64w] <;> omega
    have hbyte : s.data.toList[i]? = some s[i] := by simp [hlt]; rfl
    have hbt : bt s i = (s[i].toNat : Int) := by
      unfold bt
      have : s.data.getD (i : Int).toNat 0 = s[i] := by
        rw [Int.toNat_natCast, Array.getD_eq_getD_getElem?, ← Array.getElem?_toList, hbyte]; rfl
      rw [this]
    have hgood : isLet s[i].toNat = true → tagTo s (i + 1) := fun h j hj b hb => by
      by_cases hji : j = i
      · subst hji; rw [hbyte] at hb; simp only [Option.some.injEq] at hb; subst hb; exact h
      · exact hl j (by omega) b hb
    have hbad : isLet s[i].toNat = false → isTag s = false := fun h => by unfold isTag; rw [tag_not hbyte h]; simp
    generalize s[i].toNat = n at hbt hgood hbad
    have il : isLet n = ((decide (97 ≤ n) && decide (n ≤ 122)) || (decide (48 ≤ n) && decide (n ≤ 57))) := rfl
    by_cases c1 : 97 ≤ n
    · have c1' : (97 : Int) ≤ n := by omega
      by_cases c2 : n ≤ 122
      · have c2' : (n : Int) ≤ 122 := by omega
        simp [go_sem, hlt, hlt', hbt, c1', c2']
        exact ⟨i + 1, ⟨by omega, hgood (by rw [il]; simp [c1, c2])⟩, by omega, Ent.chk (by simp [go_sem, hw])⟩
      · have c2' : ¬ (n : Int) ≤ 122 := by omega
        have c3' : ¬ (n : Int) ≤ 57 := by omega
        have c4' : (48 : Int) ≤ n := by omega
        simp [go_sem, hlt, hlt', hbt, c1', c2', c3', c4']
        exact hbad (by rw [il]; simp [c1, c2]; omega)
    · have c1' : ¬ (97 : Int) ≤ n := by omega
      by_cases c3 : 48 ≤ n
      · have c3' : (48 : Int) ≤ n := by omega
        by_cases c4 : n ≤ 57
        · have c4' : (n : Int) ≤ 57 := by omega
          simp [go_sem, hlt, hlt', hbt, c1', c3', c4']
          exact ⟨i + 1, ⟨by omega, hgood (by rw [il]; simp [c3, c4])⟩, by omega, Ent.chk (by simp [go_sem, hw])⟩
        · have c4' : ¬ (n : Int) ≤ 57 := by omega
          simp [go_sem, hlt, hlt', hbt, c1', c3', c4']
          exact hbad (by rw [il]; simp [c1, c4])
      · have c3' : ¬ (48 : Int) ≤ n := by omega
        simp [go_sem, hlt, hlt', hbt, c1', c3']
        exact hbad (by rw [il]; simp [c1, c3])
  · have hil : i = s.size := by omega
    subst hil
    have : tagBytes s = true := tag_upto (by omega) hl
    simp [go_sem, isTag, this]
    by_cases h : s.size ≤ 16
    · have : (s.size : Int) ≤ 16 := by omega
      simp [h, this]
    · have : ¬ (s.size : Int) ≤ 16 := by omega
      simp [h, this]

set_option maxRecDepth 100000 in
set_option maxHeartbeats 4000000 in
theorem rRight_c (g : List Thing) (hg : g.length ≤ 140737488355328) (ht : Things g) : ACalls Tryz.prog 113 [things g] (· = .one (.sv (bv (isGraph g)))) := by
  refine ACalls.of_bodyS (fun _ _ => Tryz.call113 _ _) Tryz.func113 rfl Tryz.ntmps113 (by simp) ?_
  refine Tr.ex ?_
  by_cases h1 : g.length = 0
  · have e : isGraph g = false := by unfold isGraph; rw [h1]; simp
    have h1' : ((g.length : Int) == 0) = true := by rw [h1]; rfl
    simp [go_sem, h1', e]
  · have h1' : ((g.length : Int) == 0) = false := by simp; intro h; exact h1 (by rw [h]; rfl)
    by_cases h2 : 256 < g.length
    · have e : isGraph g = false := by unfold isGraph; have : ¬ g.length ≤ 256 := by omega
                                       simp [this]
      have h2' : 256 < (g.length : Int) := by omega
      simp [go_sem, h1', h2', e]
    · have h2' : ¬ 256 < (g.length : Int) := by omega
      have h0 : 0 < g.length := by omega
      simp [go_sem, h1', h2']
      have hfit : ∀ a : Thing, a ∈ g → SV.fits 3 (thingSV a) = true := fun a _ => rfl
      refine LoopW.of (fun i : Nat => ⟨101, [(0, .sv (things g)), (2, .sv (bv false)), (3, .sv (iv i))], []⟩)
        (fun i => i ≤ g.length ∧ (0 < i → rootB (th g 0) = true) ∧ (∀ j, 0 < j → j < i → goodB g j = true) ∧ ∀ j, j < i → 0 ≤ (th g j).kind ∧ (th g j).kind ≤ 4) (fun i => g.length - i) 0 ⟨by omega, by omega, fun j hj => by omega, fun j hj => by omega⟩ (Ent.chk (by simp [go_sem])) ?_
      rintro i ⟨hi, hroot, hgood, hkinds⟩
      by_cases hlt : i < g.length
      · have hlt' : (i : Int) < g.length := by omega
        have hw : IntKind.i64.wrap ((i : Int) + 1) = (i : Int) + 1 := by rw [i64w] <;> omega
        have hth : th g i = g[i] := by unfold th; simp [hlt]
        by_cases hi0 : i = 0
        · subst hi0
          have hge : g[0]? = some g[0] := List.getElem?_eq_getElem hlt
          have hbad : rootB (th g 0) = false → isGraph g = false := fun h => by unfold isGraph; simp [h]
          have hk : (!(g[0].kind == 0) || (!(g[0].up == -1) || !g[0].tag.toList.isEmpty)) = !rootB (th g 0) := by
            unfold rootB; rw [hth]; simp [Bool.or_assoc]
          cases a1 : (g[0].kind == 0) with
          | false =>
            rw [a1] at hk
            simp [go_sem, hlt, hlt', hge, bne, a1]
            exact hbad (by simpa using hk)
          | true =>
            cases a2 : (g[0].up == -1) with
            | false =>
              rw [a1, a2] at hk
              simp [go_sem, hlt, hlt', hge, bne, a1, a2]
              exact hbad (by simpa using hk)
            | true =>
              cases a3 : g[0].tag.toList.isEmpty with
              | false =>
                rw [a1, a2, a3] at hk
                simp [go_sem, hlt, hlt', hge, bne, a1, a2, a3]
                exact hbad (by simpa using hk)
              | true =>
                rw [a1, a2, a3] at hk
                simp [go_sem, hlt, hlt', hge, bne, a1, a2, a3]
                have hr : rootB (th g 0) = true := by simpa using hk
                refine ⟨1, ⟨by omega, fun _ => hr, fun j h3 h4 => by omega, fun j hj => ?_⟩, by omega, Ent.chk (by simp [go_sem])⟩
                have : j = 0 := by omega
                subst this; rw [hth]; simp at a1; omega
        · have hi0' : ((i : Int) == 0) = false := by simp; omega
          have hbad : goodB g i = false → isGraph g = false := fun h => by
            unfold isGraph
            have : ((List.range (g.length - 1)).all fun i => goodB g (i + 1)) = false := by
              rw [List.all_eq_false]
              exact ⟨i - 1, by simp; omega, by rw [show i - 1 + 1 = i by omega]; simp [h]⟩
            rw [this]; simp
          have hsz : (g[i]).tag.size ≤ 9223372036854775807 := ht _ (List.getElem_mem _)
          have hnext : goodB g i = true → 0 ≤ (th g i).kind ∧ (th g i).kind ≤ 4 := fun h => by
            unfold goodB kindOk at h
            simp only [Bool.and_eq_true, Bool.or_eq_true, beq_iff_eq] at h
            omega
          have hstep : goodB g i = true → (i + 1 ≤ g.length ∧ (0 < i + 1 → rootB (th g 0) = true) ∧ (∀ j, 0 < j → j < i + 1 → goodB g j = true) ∧ ∀ j, j < i + 1 → 0 ≤ (th g j).kind ∧ (th g j).kind ≤ 4) := fun h =>
            ⟨by omega, fun _ => hroot (by omega), fun j h3 h4 => by
              by_cases hji : j = i
              · subst hji; exact h
              · exact hgood j h3 (by omega), fun j hj => by
              by_cases hji : j = i
              · subst hji; exact hnext h
              · exact hkinds j (by omega)⟩
          have hgb : goodB g i = goodB g i := rfl
          unfold goodB at hgb
          conv at hgb => lhs; rw [hth]
          generalize hgo : goodB g i = good at hbad hstep hgb hnext
          have hgb' : good = (decide (0 ≤ g[i].up) && decide (g[i].up < i) && kindOk g[i].kind (th g g[i].up.toNat).kind && isTag g[i].tag && (g[i].tag.toList == [] || g[i].kind == 2)) := by
            rw [← hgo]; unfold goodB; rw [hth]
          clear hgb hgo
          generalize hk : g[i].kind = k at hgb' hsz hnext
          generalize hu : g[i].up = u at hgb' hsz
          generalize hs : g[i].tag = s at hgb' hsz
          have hge : g[i]? = some ⟨k, u, s⟩ := by rw [List.getElem?_eq_getElem hlt, ← hk, ← hu, ← hs]
          by_cases c1 : u < 0
          · have : ¬ 0 ≤ u := by omega
            have e := hbad (by rw [hgb']; simp [this])
            simp [go_sem, hlt', hge, hi0', bne, c1]
            exact e
          · have c1' : 0 ≤ u := by omega
            by_cases c2 : (i : Int) ≤ u
            · have : ¬ u < i := by omega
              have e := hbad (by rw [hgb']; simp [this])
              simp [go_sem, hlt', hge, hi0', bne, c1, c2]
              exact e
            · have c2' : u < i := by omega
              have hun : u.toNat < g.length := by omega
              have hul : u < (g.length : Int) := by omega
              have hgu : g[u.toNat]? = some g[u.toNat] := List.getElem?_eq_getElem hun
              have hthu : th g u.toNat = g[u.toNat] := by unfold th; simp [hun]
              have hkr := hkinds u.toNat (by omega)
              rw [hthu] at hgb' hkr
              simp only [c1', c2', decide_true, Bool.true_and] at hgb'
              -- the tag that only a node bears
              have key : (s.toList.isEmpty || k == 2) = true → ACalls Tryz.prog 74 [.val (.string s)] (· = .one (.sv (bv (isTag s)))) := fun _ => rTag_c s hsz
              have hq : (s.toList == []) = s.toList.isEmpty := by cases s.toList <;> rfl
              rw [hq] at hgb'
              cases c3 : (s.toList.isEmpty || k == 2) with
              | false =>
                have e := hbad (by rw [hgb', c3]; simp)
                simp only [Bool.or_eq_false_iff] at c3
                simp [go_sem, hlt', hge, hi0', bne, c1, c2, c3.1, c3.2]
                exact e
              | true =>
                rw [c3, Bool.and_true] at hgb'
                have fin : ∀ b : Bool, kindOk k g[u.toNat].kind = b → isTag s = true → good = b := fun b h1 h2 => by rw [hgb', h1, h2, Bool.and_true]
                cases c4 : s.toList.isEmpty with
                | false =>
                  rw [c4, Bool.false_or] at c3
                  have hk2 : k = 2 := by simpa using c3
                  subst hk2
                  simp [go_sem, hlt', hge, hi0', bne, c1, c2, c4]
                  refine OpW.fn true (rTag_c s hsz) rfl rfl (by simp [go_sem]) (by rintro _ r rfl; simp [go_sem]) ?_
                  rintro r rfl
                  cases c5 : isTag s with
                  | false =>
                    have e := hbad (by rw [hgb', c5]; simp)
                    simp [go_sem]
                    exact e
                  | true =>
                    simp [go_sem, hgu, c1', hul, hun]
                    generalize g[u.toNat].kind = q at fin hkr
                    by_cases e : q < 2
                    · have := fin true (by unfold kindOk; simp; omega) c5
                      simp [go_sem, e]
                      exact ⟨i + 1, hstep this, by omega, Ent.chk (by simp [go_sem, hw])⟩
                    · have := fin false (by unfold kindOk; simp; omega) c5
                      simp [go_sem, e]
                      exact hbad this
                | true =>
                  simp [go_sem, hlt', hge, hi0', bne, c1, c2, c4]
                  refine OpW.fn true (rTag_c s hsz) rfl rfl (by simp [go_sem]) (by rintro _ r rfl; simp [go_sem]) ?_
                  rintro r rfl
                  cases c5 : isTag s with
                  | false =>
                    have e := hbad (by rw [hgb', c5]; simp)
                    simp [go_sem]
                    exact e
                  | true =>
                    simp [go_sem, hgu, c1', hul, hun]
                    generalize g[u.toNat].kind = q at fin hkr
                    by_cases k1 : k = 1
                    · subst k1
                      cases e : (q == 0) with
                      | true =>
                        have := fin true (by unfold kindOk; simp at e; simp [e]) c5
                        simp [go_sem, e]
                        exact ⟨i + 1, hstep this, by omega, Ent.chk (by simp [go_sem, hw])⟩
                      | false =>
                        have := fin false (by unfold kindOk; simp at e; simp [e]) c5
                        simp [go_sem, e]
                        exact hbad this
                    · have k1' : (k == 1) = false := by simpa using k1
                      by_cases k2 : k = 2
                      · subst k2
                        by_cases e : q < 2
                        · have := fin true (by unfold kindOk; simp; omega) c5
                          simp [go_sem, e]
                          exact ⟨i + 1, hstep this, by omega, Ent.chk (by simp [go_sem, hw])⟩
                        · have := fin false (by unfold kindOk; simp; omega) c5
                          simp [go_sem, e]
                          exact hbad this
                      · have k2' : (k == 2) = false := by simpa using k2
                        by_cases k3 : k = 3 ∨ k = 4
                        · cases e : (q == 2) with
                          | true =>
                            have := fin true (by unfold kindOk; simp at e; simp [e, k3]) c5
                            rcases k3 with rfl | rfl
                            all_goals
                              simp [go_sem, e]
                              exact ⟨i + 1, hstep this, by omega, Ent.chk (by simp [go_sem, hw])⟩
                          | false =>
                            have := fin false (by unfold kindOk; simp at e; simp [e, k1, k2]) c5
                            rcases k3 with rfl | rfl
                            all_goals
                              simp [go_sem, e]
                              exact hbad this
                        · have k3' : (k == 3) = false := by simp; omega
                          have k4' : (k == 4) = false := by simp; omega
                          have e := hbad (fin false (by unfold kindOk; simp [k1', k2', k3', k4']) c5)
                          simp [go_sem, k1', k2', k3', k4']
                          exact e
      · have hil : i = g.length := by omega
        subst hil
        have e : isGraph g = true := by
          unfold isGraph
          have : ((List.range (g.length - 1)).all fun i => goodB g (i + 1)) = true := by
            rw [List.all_eq_true]
            intro j hj
            exact hgood (j + 1) (by omega) (by simp at hj; omega)
          rw [this, hroot h0]; simp; omega
        simp [go_sem, e]
end Go.Proofs.YtinhfnbmgmociaaGreatDoor.Ab

namespace Go.Proofs.YtinhfnbmgmociaaGreatDoor.Ab
open Go.RowKit
set_option linter.unusedVariables false
set_option linter.unusedSimpArgs false

theorem rIn_c (a : List Int) (n : Int) (ha : a.length ≤ 140737488355328) : ACalls Tryz.prog 91 [ints a, iv n] (· = .one (.sv (bv (decide (n ∈ a))))) := by
  refine ACalls.of_bodyS (fun _ _ => Tryz.call91 _ _) Tryz.func91 rfl Tryz.ntmps91 (by simp) ?_
  refine Tr.ex ?_
  simp [go_sem]
  refine LoopW.of (fun i : Nat => ⟨18, [(0, .sv (ints a)), (1, .sv (iv n)), (4, .sv (bv false)), (5, .sv (iv i))], []⟩)
    (fun i => i ≤ a.length ∧ n ∉ a.take i) (fun i => a.length - i) 0 ⟨by omega, by simp⟩ (Ent.chk (by simp [go_sem])) ?_
  rintro i ⟨hi, hn⟩
  by_cases hlt : i < a.length
  · have hlt' : (i : Int) < a.length := by omega
    have hx : a[i]? = some a[i] := List.getElem?_eq_getElem hlt
    have hm : a[i] ∈ a := List.getElem_mem hlt
    have htk : a.take (i + 1) = a.take i ++ [a[i]] := by rw [List.take_add_one, hx]; rfl
    have hw : IntKind.i64.wrap ((i : Int) + 1) = (i : Int) + 1 := by rw [i64w] <;> omega
    generalize a[i] = v at hx hm htk
    by_cases hv : v = n
    · subst hv
      simp [go_sem, hlt', hx, hm]
    · have hv' : (v == n) = false := by simpa using hv
      simp [go_sem, hlt', hx, hv']
      exact ⟨i + 1, ⟨by omega, by rw [htk]; simp [hn, Ne.symm hv]⟩, by omega, Ent.chk (by simp [go_sem, hw])⟩
  · have hil : i = a.length := by omega
    subst hil
    rw [List.take_length] at hn
    simp [go_sem, hn]
theorem r1Right_c (l : List Int) (hl : l.length ≤ 140737488355328) : ACalls Tryz.prog 69 [ints l] (· = .one (.sv (bv (isSet l)))) := by
  refine ACalls.of_bodyS (fun _ _ => Tryz.call69 _ _) Tryz.func69 rfl Tryz.ntmps69 (by simp) ?_
  refine Tr.ex ?_
  simp [go_sem]
  refine LoopW.of (fun i : Nat => ⟨38, [(0, .sv (ints l)), (2, .sv (bv false)), (3, .sv (iv i))], []⟩)
    (fun i => i ≤ l.length ∧ isSet (l.take i) = true) (fun i => l.length - i) 0 ⟨by omega, rfl⟩ (Ent.chk (by simp [go_sem])) ?_
  rintro i ⟨hi, hs⟩
  by_cases hlt : i < l.length
  · have hlt' : (i : Int) < l.length := by omega
    have hx : l[i]? = some l[i] := List.getElem?_eq_getElem hlt
    have htk : l.take (i + 1) = l.take i ++ [l[i]] := by rw [List.take_add_one, hx]; rfl
    have hsn := isSet_snoc (l.take i) l[i]
    rw [← htk, hs, Bool.true_and] at hsn
    have hw : IntKind.i64.wrap ((i : Int) + 1) = (i : Int) + 1 := by rw [i64w] <;> omega
    have hbad : isSet (l.take (i + 1)) = false → isSet l = false := fun h => by
      cases hh : isSet l with
      | false => rfl
      | true => rw [isSet_take hh] at h; cases h
    have hge := lastOf_ge hs
    have hlast : 0 < i → lastOf (l.take i) = l.getD (i - 1) 0 := fun h0 => by
      unfold lastOf
      rw [List.getLast?_eq_getElem?, List.length_take, List.getElem?_take, if_pos (by omega), Nat.min_eq_left hi, List.getD_eq_getElem?_getD, List.getElem?_eq_getElem (by omega)]; rfl
    generalize l[i] = v at hx hsn
    by_cases c1 : v < 0
    · have e := hbad (by rw [hsn]; simp; omega)
      simp [go_sem, hlt']
      refine DrawW.rd rfl ?_
      simp [go_sem, hlt', hx, c1, e]
      kernel_rfl
    · by_cases c2 : 255 < v
      · have e := hbad (by rw [hsn]; simp; omega)
        simp [go_sem, hlt']
        refine DrawW.rd rfl ?_
        simp [go_sem, hlt', hx, c1, c2, e]
        kernel_rfl
      · by_cases h0 : i = 0
        · subst h0
          have hg : isSet (l.take (0 + 1)) = true := by rw [hsn, show lastOf (l.take 0) = -1 from rfl]; simp; omega
          simp [go_sem, hlt]
          refine DrawW.rd rfl ?_
          simp [go_sem, hlt, hx, gE hx, c1, c2]
          exact ⟨by kernel_rfl, 1, ⟨by omega, hg⟩, by omega, Ent.chk (by simp [go_sem])⟩
        · have h0' : 0 < i := by omega
          have hl1 := hlast h0'
          have hp : l[i - 1]? = some (l.getD (i - 1) 0) := by rw [List.getD_eq_getElem?_getD, List.getElem?_eq_getElem (by omega)]; rfl
          have hw1 : IntKind.i64.wrap ((i : Int) - 1) = ((i - 1 : Nat) : Int) := by rw [i64w] <;> omega
          have hb1 : ((i - 1 : Nat) : Int) < l.length := by omega
          rw [hl1] at hsn
          generalize l.getD (i - 1) 0 = q at hsn hp
          by_cases c3 : v ≤ q
          · have e := hbad (by rw [hsn]; simp; omega)
            simp [go_sem, hlt']
            refine DrawW.rd rfl ?_
            simp [go_sem, hlt', hx, c1, c2, h0', hw1, hp, hb1, c3, e]
            kernel_rfl
          · have hg : isSet (l.take (i + 1)) = true := by rw [hsn]; simp; omega
            simp [go_sem, hlt']
            refine DrawW.rd rfl ?_
            simp [go_sem, hlt', hx, c1, c2, h0', hw1, hp, hb1, c3]
            exact ⟨by kernel_rfl, i + 1, ⟨by omega, hg⟩, by omega, Ent.chk (by simp [go_sem, hw])⟩
  · have hil : i = l.length := by omega
    subst hil
    rw [List.take_length] at hs
    simp [go_sem, hs]
theorem r1Has_c (a : List Int) (n : Int) (ha : a.length ≤ 140737488355328) : ACalls Tryz.prog 72 [ints a, iv n] (· = .one (.sv (bv (hasB a n)))) := by
  refine ACalls.of_bodyS (fun _ _ => Tryz.call72 _ _) Tryz.func72 rfl Tryz.ntmps72 (by simp) ?_
  refine Tr.ex ?_
  simp [go_sem]
  refine OpW.fn true (r1Right_c a ha) rfl rfl (by simp [go_sem]) (by rintro _ r rfl; simp [go_sem]) ?_
  rintro r rfl
  unfold hasB
  cases isSet a with
  | false => simp [go_sem]
  | true =>
    simp [go_sem]
    refine OpW.fn true (rIn_c a n ha) rfl rfl (by simp [go_sem]) (by rintro _ r rfl; simp [go_sem]) ?_
    rintro r rfl
    simp [go_sem]
theorem Over_c (g : List Thing) (n k : Nat) (hg : isGraph g = true) (hk : k < g.length) : ACalls Tryz.prog 128 [things g, iv n, iv k] (· = .one (.sv (bv (inU g n k)))) := by
  have hgl := isGraph_len hg
  refine ACalls.of_bodyS (fun _ _ => Tryz.call128 _ _) Tryz.func128 rfl Tryz.ntmps128 (by simp) ?_
  refine Tr.ex ?_
  simp [go_sem]
  let cur : Option Nat → Int := fun c => match c with | some i => (i : Int) | none => -1
  let rest : Option Nat → Bool := fun c => match c with | some i => inU g n i | none => false
  refine LoopW.of (fun s : Option Nat => ⟨18, [(0, .sv (things g)), (1, .sv (iv n)), (2, .sv (iv (cur s))), (6, .sv (bv false))], []⟩)
    (fun s => rest s = inU g n k ∧ ∀ i, s = some i → i < g.length) (fun s => match s with | some i => i + 1 | none => 0) (some k) ⟨rfl, fun i hi => by cases hi; omega⟩ (Ent.chk (by simp [go_sem, cur])) ?_
  rintro c ⟨hacc, hi⟩
  cases c with
  | none =>
    simp only [rest] at hacc
    have e1 : ¬ (n : Int) < -1 := by omega
    have e2 : ((-1 : Int) == n) = false := by simp
    simp [go_sem, cur, e1, e2, ← hacc]
  | some i =>
    have hil := hi i rfl
    simp only [rest] at hacc
    by_cases hni : n < i
    · have hni' : (n : Int) < i := by omega
      have hgi : g[i]? = some g[i] := List.getElem?_eq_getElem hil
      have hthi : th g i = g[i] := by unfold th; simp [hil]
      have hil' : (i : Int) < g.length := by omega
      have hup := isGraph_up hg (by omega) hil
      rw [inU.eq_1, dif_pos ⟨hup.1, hup.2.1⟩] at hacc
      have e : (i == n) = false := by simp; omega
      rw [e, Bool.false_or] at hacc
      rw [hthi] at hup hacc
      simp [go_sem, cur, hni', hni, hgi, hil, hil']
      exact ⟨some g[i].up.toNat, ⟨hacc, fun j hj => by cases hj; omega⟩, by simp; omega, Ent.chk (by simp [go_sem, cur] <;> omega)⟩
    · have hni' : ¬ (n : Int) < i := by omega
      have e : ((i : Int) == n) = inU g n k := by
        rw [← hacc]
        by_cases he : i = n
        · subst he; rw [inU_refl]; simp
        · have : inU g n i = false := by
            cases h : inU g n i with
            | false => rfl
            | true => have := inU_le h; omega
          rw [this]; simp; omega
      simp [go_sem, cur, hni', hni, e]
theorem rUnder_c (g : List Thing) (n : Int) (hg : g.length ≤ 140737488355328) (ht : Things g) : ACalls Tryz.prog 114 [things g, iv n] (· = .one (.sv (ints (underL g n)))) := by
  refine ACalls.of_bodyS (fun _ _ => Tryz.call114 _ _) Tryz.func114 rfl Tryz.ntmps114 (by simp) ?_
  refine Tr.ex ?_
  have hno : thereB g n = false → underL g n = [] := fun h => by unfold underL; rw [h]; rfl
  by_cases c1 : n < 0
  · have e := hno (by unfold thereB; simp; omega)
    simp [go_sem, c1, e]
  · by_cases c2 : (g.length : Int) ≤ n
    · have e := hno (by unfold thereB; simp; omega)
      simp [go_sem, c1, c2, e]
    · simp [go_sem, c1, c2]
      refine OpW.fn true (rRight_c g hg ht) rfl rfl (by simp [go_sem]) (by rintro _ r rfl; simp [go_sem]) ?_
      rintro r rfl
      cases hgr : isGraph g with
      | false =>
        have e := hno (by unfold thereB; simp [hgr])
        simp [go_sem, e]
      | true =>
        have hgl := isGraph_len hgr
        have hth : thereB g n = true := thereB_iff.2 ⟨by omega, by omega, hgr⟩
        rw [underL_eq hth]
        obtain ⟨m, rfl⟩ : ∃ m : Nat, n = m := ⟨n.toNat, by omega⟩
        simp only [Int.toNat_natCast]
        simp [go_sem]
        refine LoopW.of (fun i : Nat => ⟨35, [(0, .sv (things g)), (1, .sv (iv m)), (4, .nil), (5, .own 5), (6, .sv (iv i))], [(5, .row 1 ((rangeF (inU g m) i).map iv))]⟩)
          (fun i => i ≤ g.length) (fun i => g.length - i) 0 (by omega) (Ent.thaw 5 5 1 (by simp [go_sem]) (by simp [go_sem]) (by decide) (Ent.chk (by simp [go_sem, rangeF_zero]))) ?_
        rintro i hi
        by_cases hlt : i < g.length
        · have hlt' : (i : Int) < g.length := by omega
          have hw : IntKind.i64.wrap ((i : Int) + 1) = (i : Int) + 1 := by rw [i64w] <;> omega
          have hs := rangeF_succ (inU g m) i
          have hbl := rangeF_len (inU g m) i
          simp [go_sem, hlt']
          refine OpW.fn true (Over_c g m i hgr hlt) rfl rfl (by simp [go_sem]) (by rintro _ r rfl; simp [go_sem]) ?_
          rintro r rfl
          cases hm : inU g m i with
          | true =>
            rw [hm, if_pos rfl] at hs
            simp [go_sem]
            exact ⟨by omega, i + 1, by omega, by omega, Ent.rename2 33 5 (by simp [go_sem]) (Ent.chk (by simp [go_sem, hw, hs]))⟩
          | false =>
            rw [hm, if_neg (by simp)] at hs
            simp [go_sem]
            exact ⟨i + 1, by omega, by omega, Ent.chk (by simp [go_sem, hw, hs])⟩
        · have hil : i = g.length := by omega
          subst hil
          simp [go_sem]
theorem aboveL_eq {g : List Thing} {n : Int} (h : thereB g n = true) : aboveL g n = rangeF (fun k => inU g k n.toNat) (n.toNat + 1) := by
  have h1 := thereB_iff.1 h
  have h2 := isGraph_len h1.2.2
  refine set_ext (aboveL_set _ _) (rangeF_set _ (by omega)) fun k => ?_
  rw [aboveL_mem_iff, mem_rangeF]
  constructor
  · rintro ⟨_, k0, k1⟩; have := inU_le k1; exact ⟨k0, by omega, k1⟩
  · rintro ⟨k0, _, k1⟩; exact ⟨h, k0, k1⟩
theorem nodeOf_leaf {g : List Thing} {n : Int} (ht : thereB g n = true) (h3 : (th g n.toNat).kind = 3 ∨ (th g n.toNat).kind = 4) : nodeOf g n = (th g n.toNat).up := by
  have h1 := thereB_iff.1 ht
  have hu := leaf_up h1.2.2 (by omega) h3
  have hin : inU g (th g n.toNat).up.toNat n.toNat = true := (leaf_node h1.2.2 (by omega) h3 hu.2.2).2 (by omega)
  unfold nodeOf
  cases hf : (aboveL g n).find? fun k => (th g k.toNat).kind == 2 with
  | none =>
    rw [List.find?_eq_none] at hf
    have := hf (th g n.toNat).up (aboveL_mem_iff.2 ⟨ht, hu.1, hin⟩)
    simp [hu.2.2] at this
  | some k =>
    have hk := List.find?_some hf
    have hm := aboveL_mem_iff.1 (List.mem_of_find?_eq_some hf)
    have := (leaf_node h1.2.2 (by omega) h3 (by simpa using hk)).1 hm.2.2
    simp; omega
theorem nodeOf_none {g : List Thing} {n : Int} (ht : thereB g n = true) (h3 : (th g n.toNat).kind = 0 ∨ (th g n.toNat).kind = 1) : nodeOf g n = -1 := by
  have h1 := thereB_iff.1 ht
  unfold nodeOf
  have : (aboveL g n).find? (fun k => (th g k.toNat).kind == 2) = none := by
    rw [List.find?_eq_none]
    intro k hk
    have hm := aboveL_mem_iff.1 hk
    simp only [beq_iff_eq]
    intro h2
    by_cases he : k.toNat = n.toNat
    · rw [he] at h2; omega
    · have := inU_level h1.2.2 (by omega) hm.2.2 he
      rw [h2] at this
      unfold level at this
      rcases h3 with h3 | h3 <;> rw [h3] at this <;> simp at this
  rw [this]; rfl
theorem cnt_cntN {g : List Thing} {l : List Int} (hl : isSet l = true) (k : Int) : cnt g l k = cntN g (fun i => decide ((i : Int) ∈ l)) k := by
  have hl' := isSet_iff.1 hl
  have : (l.filter fun n : Int => decide (n < g.length) && (th g n.toNat).kind == k) = rangeF (fun i => decide ((i : Int) ∈ l) && (th g i).kind == k) g.length := by
    refine sorted_ext (hl'.1.filter _) (rangeF_sorted _ _) fun n => ?_
    rw [List.mem_filter, mem_rangeF]
    simp only [Bool.and_eq_true, decide_eq_true_eq]
    constructor
    · rintro ⟨h1, h2, h3⟩
      have := hl'.2 n h1
      exact ⟨this.1, h2, by rw [Int.toNat_of_nonneg this.1]; exact h1, h3⟩
    · rintro ⟨h1, h2, h3, h4⟩
      rw [Int.toNat_of_nonneg h1] at h3
      exact ⟨h3, h2, h4⟩
  unfold cnt cntN
  rw [this]; unfold rangeF; rw [List.length_map]
def cntTo (g : List Thing) (l : List Int) (i : Nat) (k : Int) : Nat := ((List.range i).filter fun i : Nat => hasB l i && (th g i).kind == k).length
theorem cntTo_succ (g : List Thing) (l : List Int) (i : Nat) (k : Int) : cntTo g l (i + 1) k = cntTo g l i k + if (hasB l i && (th g i).kind == k) = true then 1 else 0 := by
  unfold cntTo
  rw [List.range_succ, List.filter_append, List.length_append]
  congr 1
  cases h : (hasB l i && (th g i).kind == k) <;> simp [h]
theorem cntTo_le (g : List Thing) (l : List Int) (i : Nat) (k : Int) : cntTo g l i k ≤ i := by
  unfold cntTo; exact Nat.le_trans (List.length_filter_le _ _) (by simp)
theorem cntTo_all (g : List Thing) (l : List Int) (k : Int) : cntTo g l g.length k = if isSet l = true then cnt g l k else 0 := by
  cases hl : isSet l with
  | true =>
    rw [if_pos rfl, cnt_cntN hl]
    unfold cntTo cntN
    congr 1
    refine List.filter_congr fun i _ => ?_
    rw [hasB_iff hl]
  | false =>
    rw [if_neg (by simp)]
    unfold cntTo
    rw [List.length_eq_zero_iff, List.filter_eq_nil_iff]
    intro i _
    unfold hasB; rw [hl]; simp
end Go.Proofs.YtinhfnbmgmociaaGreatDoor.Ab

namespace Go.Proofs.YtinhfnbmgmociaaGreatDoor.Ab
open Go.RowKit
set_option linter.unusedVariables false
set_option linter.unusedSimpArgs false

/-! ### The lowest bit -/
def tz (y : BitVec 64) : Nat := Lib.ctz 64 y.toNat
def wSub (y : BitVec 64) : BitVec 64 := y - 1#64
theorem tz_form {y : BitVec 64} (h : y ≠ 0#64) : ∃ m, y.toNat = 2 ^ tz y * (2 * m + 1) ∧ tz y < 64 := by
  have h0 : y.toNat ≠ 0 := fun e => h (BitVec.eq_of_toNat_eq (by simpa using e))
  obtain ⟨m, hm, hk⟩ := Lib.ctzFrom_spec 64 y.toNat (by omega) y.isLt
  have e : tz y = Lib.ctzFrom 64 y.toNat := by simp [tz, Lib.ctz, h0]
  rw [e]
  exact ⟨m, hm, hk⟩
theorem bit_mul (k a j : Nat) : (2 ^ k * a).testBit j = if j < k then false else a.testBit (j - k) := by
  have := Nat.testBit_two_pow_mul_add a (show 0 < 2 ^ k from Nat.two_pow_pos k) j
  simpa using this
theorem tz_bits {y : BitVec 64} (h : y ≠ 0#64) : (∀ j, j < tz y → y.getLsbD j = false) ∧ y.getLsbD (tz y) = true ∧ ∀ j, (wAnd y (wSub y)).getLsbD j = (y.getLsbD j && !decide (j = tz y)) := by
  obtain ⟨m, hm, hk⟩ := tz_form h
  generalize tz y = k at hm hk
  have hy : ∀ j, y.getLsbD j = if j < k then false else (2 * m + 1).testBit (j - k) := fun j => by
    rw [← bit_mul, ← hm]; rfl
  have hpos : 0 < 2 ^ k := Nat.two_pow_pos k
  have hs : (wSub y).toNat = 2 ^ k * (2 * m) + (2 ^ k - 1) := by
    have h1 : (wSub y).toNat = y.toNat - 1 := by
      unfold wSub
      rw [BitVec.toNat_sub]
      have := y.isLt
      have h0 : y.toNat ≠ 0 := fun e => h (BitVec.eq_of_toNat_eq (by simpa using e))
      simp
      omega
    rw [h1, hm, Nat.mul_add, Nat.mul_one]
    omega
  have hz : ∀ j, (wSub y).getLsbD j = if j < k then (2 ^ k - 1).testBit j else (2 * m).testBit (j - k) := fun j => by
    have := Nat.testBit_two_pow_mul_add (2 * m) (show 2 ^ k - 1 < 2 ^ k by omega) j
    rw [← hs] at this
    exact this
  refine ⟨fun j hj => by rw [hy, if_pos hj], ?_, fun j => ?_⟩
  · rw [hy, if_neg (by omega), Nat.sub_self, Nat.testBit_zero]; simp
  · unfold wAnd
    rw [BitVec.getLsbD_and, hy, hz]
    by_cases h1 : j < k
    · rw [if_pos h1]; simp
    · rw [if_neg h1, if_neg h1]
      by_cases h2 : j = k
      · subst h2; simp [Nat.testBit_zero]
      · obtain ⟨d, hd⟩ : ∃ d, j - k = d + 1 := ⟨j - k - 1, by omega⟩
        rw [hd, Nat.testBit_succ, Nat.testBit_succ, show (2 * m + 1) / 2 = m by omega, show 2 * m / 2 = m by omega]
        simp [h2]
/-- The bits of a word, as numbers. -/
def bitsI (y : BitVec 64) : List Int := rangeF (fun j => y.getLsbD j) 64
theorem bits_zero : bitsI 0#64 = [] := by
  unfold bitsI rangeF
  rw [List.filter_eq_nil_iff.2 (fun i _ => by simp)]; rfl
theorem bits_cons {y : BitVec 64} (h : y ≠ 0#64) : bitsI y = (tz y : Int) :: bitsI (wAnd y (wSub y)) := by
  obtain ⟨h1, h2, h3⟩ := tz_bits h
  obtain ⟨m, _, hk⟩ := tz_form h
  unfold bitsI
  refine sorted_ext (rangeF_sorted _ _) ?_ fun n => ?_
  · rw [List.pairwise_cons]
    refine ⟨fun a ha => ?_, rangeF_sorted _ _⟩
    obtain ⟨a0, a1, a2⟩ := mem_rangeF.1 ha
    rw [h3] at a2
    simp only [Bool.and_eq_true, Bool.not_eq_true', decide_eq_false_iff_not] at a2
    have : ¬ a.toNat < tz y := fun hlt => by rw [h1 _ hlt] at a2; exact absurd a2.1 (by simp)
    omega
  · rw [List.mem_cons, mem_rangeF, mem_rangeF]
    simp only [h3, Bool.and_eq_true, Bool.not_eq_true', decide_eq_false_iff_not]
    constructor
    · rintro ⟨a0, a1, a2⟩
      by_cases he : n.toNat = tz y
      · left; omega
      · exact .inr ⟨a0, a1, a2, he⟩
    · rintro (rfl | ⟨a0, a1, a2, _⟩)
      · exact ⟨by omega, by omega, by simpa using h2⟩
      · exact ⟨a0, a1, a2⟩
/-- The numbers that words hold. -/
def listW (x : Nat → BitVec 64) (n : Nat) : List Int := rangeF (fun i => (x (i / 64)).getLsbD (i % 64)) n
theorem listW_succ (x : Nat → BitVec 64) (i : Nat) : listW x (64 * (i + 1)) = listW x (64 * i) ++ (bitsI (x i)).map fun j => 64 * (i : Int) + j := by
  unfold listW
  refine sorted_ext (rangeF_sorted _ _) ?_ fun n => ?_
  · rw [List.pairwise_append]
    refine ⟨rangeF_sorted _ _, ?_, fun a ha b hb => ?_⟩
    · rw [List.pairwise_map]
      exact (rangeF_sorted _ _).imp fun h => by omega
    · obtain ⟨a0, a1, _⟩ := mem_rangeF.1 ha
      obtain ⟨c, hc, rfl⟩ := List.mem_map.1 hb
      obtain ⟨c0, _, _⟩ := mem_rangeF.1 hc
      omega
  · rw [List.mem_append, mem_rangeF, mem_rangeF, List.mem_map]
    constructor
    · rintro ⟨a0, a1, a2⟩
      by_cases hlt : n < ((64 * i : Nat) : Int)
      · exact .inl ⟨a0, hlt, a2⟩
      · right
        refine ⟨n - 64 * (i : Int), mem_rangeF.2 ⟨by omega, by omega, ?_⟩, by omega⟩
        have e1 : n.toNat / 64 = i := by omega
        have e2 : n.toNat % 64 = (n - 64 * (i : Int)).toNat := by omega
        rw [e1, e2] at a2
        exact a2
    · rintro (⟨a0, a1, a2⟩ | ⟨c, hc, rfl⟩)
      · exact ⟨a0, by omega, a2⟩
      · obtain ⟨c0, c1, c2⟩ := mem_rangeF.1 hc
        refine ⟨by omega, by omega, ?_⟩
        have e1 : (64 * (i : Int) + c).toNat / 64 = i := by omega
        have e2 : (64 * (i : Int) + c).toNat % 64 = c.toNat := by omega
        rw [e1, e2]
        exact c2
theorem listW_len (x : Nat → BitVec 64) (n : Nat) : (listW x n).length ≤ n := rangeF_len _ _

/-! ### math/bits.TrailingZeros64 -/
def dbL : List SV := Lib.deBruijn64tab.map fun n : Nat => .val (.int .u8 (n : Int))
theorem gtab1 : lk Gtab 0 = some (.agg dbL) := Eq.trans rfl rfl
theorem db_at {i : Nat} (hi : i < 64) : dbL[i]? = some (.val (.int .u8 (Lib.deBruijn64tab.getD i 0 : Int))) := by
  have : i < Lib.deBruijn64tab.length := hi
  unfold dbL
  rw [List.getElem?_map, List.getElem?_eq_getElem this, List.getD_eq_getElem?_getD, List.getElem?_eq_getElem this]; rfl
theorem neg_w (y : BitVec 64) : IntKind.u64.wrap (-(y.toNat : Int)) = ((-y).toNat : Int) := by
  have := y.isLt
  rw [IntKind.wrap_u64, BitVec.toNat_neg]
  omega
theorem low_w {y : BitVec 64} (h : y ≠ 0#64) : (wAnd y (-y)).toNat = 2 ^ tz y ∧ tz y < 64 := by
  have h0 : y.toNat ≠ 0 := fun e => h (BitVec.eq_of_toNat_eq (by simpa using e))
  have := Lib.lowest_bit 64 y.toNat h0 y.isLt
  refine ⟨?_, this.2⟩
  unfold wAnd
  rw [BitVec.toNat_and, BitVec.toNat_neg, Nat.mod_eq_of_lt (by have := y.isLt; omega)]
  exact this.1
theorem tz_key (x a : Nat) (hx : x < 18446744073709551616) (hx0 : x ≠ 0) (hlow : x &&& (18446744073709551616 - x) = a) :
    IntKind.u64.wrap (bits BinOp.and IntKind.u64 (x : Int) (IntKind.u64.wrap (-(x : Int))) * 285870213051353865) / 288230376151711744 = ((a * 285870213051353865 % 18446744073709551616 / 288230376151711744 : Nat) : Int) := by
  have e1 : IntKind.u64.wrap (-(x : Int)) = ((18446744073709551616 - x : Nat) : Int) := by rw [IntKind.wrap_u64]; omega
  rw [e1, bits_and_u64_nat x _ hx (by omega), hlow, IntKind.wrap_u64]
  omega
set_option maxHeartbeats 1000000 in
theorem tz_core (x k idx : Nat) (w : World) (hx0 : ((x : Int) == 0) = false)
    (key : IntKind.u64.wrap (bits BinOp.and IntKind.u64 (x : Int) (IntKind.u64.wrap (-(x : Int))) * 285870213051353865) / 288230376151711744 = (idx : Int))
    (hi : idx < 64) (hk : k < 64) (hcell : w.cell? ⟨0, idx, none⟩ = some (.int .u8 k)) :
    Calls Tryz.prog 122 #[.int .u64 x] w fun e w' => e = .returned (.int .i64 k) ∧ w' = w := by
  go_enter Tryz.func122, Tryz.ntmps122
  go_wp2_with (simp only [key])
  go_ret
  exact ⟨rfl, rfl⟩
theorem tab_cell {w : World} (hw : GWx w) {i : Nat} (hi : i < 64) : w.cell? ⟨0, i, none⟩ = some (.int .u8 (Lib.deBruijn64tab.getD i 0 : Int)) := by
  have h := hw _ _ gtab1
  simp only [RepS] at h
  obtain ⟨a, u, he, _, ⟨cs, rfl, hr⟩, hat⟩ := h
  obtain ⟨v, hv, hrv⟩ := hr.at (db_at hi)
  have hc := hat i v (by simpa [Value.cells] using hv)
  simp only [RepS] at hrv
  subst hrv
  have ha : a = ⟨0, 0, none⟩ := by
    have : a.add 0 = a := by simp [Addr.add]
    rw [this] at he
    simpa using he.symm
  rw [ha, add_lit, Nat.zero_add] at hc
  exact hc
theorem tz_c (y : BitVec 64) (h : y ≠ 0#64) : ACalls Tryz.prog 122 [u64 y] (· = .one (.sv (iv (tz y)))) := by
  have hy : y.toNat ≠ 0 := fun e => h (BitVec.eq_of_toNat_eq (by simpa using e))
  have h0 : ((y.toNat : Int) == 0) = false := by simpa using hy
  obtain ⟨hlow, hk⟩ := Lib.lowest_bit 64 y.toNat hy y.isLt
  obtain ⟨hi, htab⟩ := Lib.deBruijn64_at _ hk
  refine ACalls.ofArgs (us := [.int .u64 y.toNat]) (fun _ _ => Tryz.call122 _ _) (fun w ok vs hr => ?_) fun w hw => (tz_core y.toNat (tz y) _ w h0 (tz_key _ _ y.isLt hy hlow) hi hk ?_).mono ?_
  · simp only [u64, RepL, RepS] at hr
    obtain ⟨v, vs', rfl, rfl, rfl⟩ := hr
    rfl
  · have := tab_cell hw hi
    rw [htab] at this
    exact this
  · rintro e w' ⟨rfl, rfl⟩
    exact ⟨_, rfl, rfl, Below.refl _ _⟩
theorem sub_w {y : BitVec 64} (h : y ≠ 0#64) : IntKind.u64.wrap ((y.toNat : Int) - 1) = ((wSub y).toNat : Int) := by
  have h0 : y.toNat ≠ 0 := fun e => h (BitVec.eq_of_toNat_eq (by simpa using e))
  have := y.isLt
  unfold wSub
  rw [IntKind.wrap_u64, BitVec.toNat_sub]
  simp
  omega
theorem list_c (x : Nat → BitVec 64) : ACalls Tryz.prog 109 [.agg (words x)] (· = .one (.sv (ints (listW x 256)))) := by
  refine ACalls.of_bodyS (fun _ _ => Tryz.call109 _ _) Tryz.func109 rfl Tryz.ntmps109 (by simp) ?_
  refine Tr.ex ?_
  simp [go_sem]
  refine LoopW.of (fun i : Nat => ⟨27, [(2, .nil), (3, .own 3), (6, .sv (.agg (words x))), (7, .sv (iv i))], [(3, .row 1 ((listW x (64 * i)).map iv))]⟩)
    (fun i => i ≤ 4) (fun i => 4 - i) 0 (by omega) (Ent.thaw 3 3 1 (by simp [go_sem]) (by simp [go_sem]) (by decide) (Ent.chk (by simp [go_sem, listW, rangeF]))) ?_
  rintro i hi
  by_cases hlt : i < 4
  · have hlt' : (i : Int) < 4 := by omega
    have hwi : ∀ h, ([.val (.int .u64 ((x 0).toNat : Int)), .val (.int .u64 ((x 1).toNat : Int)), .val (.int .u64 ((x 2).toNat : Int)), .val (.int .u64 ((x 3).toNat : Int))] : List SV)[i]'h = .val (.int .u64 ((x i).toNat : Int)) := by
      have hi4 : i = 0 ∨ i = 1 ∨ i = 2 ∨ i = 3 := by omega
      rcases hi4 with rfl | rfl | rfl | rfl <;> intro h <;> rfl
    have hw : IntKind.i64.wrap ((i : Int) + 1) = (i : Int) + 1 := by rw [i64w] <;> omega
    have hll := listW_len x (64 * (i + 1))
    simp [go_sem, hwi, hlt, hlt']
    refine LoopW.of (fun s : List Int × BitVec 64 => ⟨27, [(2, .nil), (3, .own 3), (4, .sv (iv i)), (5, .sv (u64 s.2)), (6, .sv (.agg (words x))), (7, .sv (iv i))], [(3, .row 1 (s.1.map iv))]⟩)
      (fun s => s.1 ++ (bitsI s.2).map (fun j => 64 * (i : Int) + j) = listW x (64 * (i + 1))) (fun s => (bitsI s.2).length) (listW x (64 * i), x i) (listW_succ x i).symm (Ent.chk (by simp [go_sem])) ?_
    rintro ⟨acc, y⟩ hacc
    simp only at hacc
    by_cases hy : y = 0#64
    · subst hy
      rw [bits_zero, List.map_nil, List.append_nil] at hacc
      simp [go_sem, bne]
      exact ⟨i + 1, by omega, by omega, Ent.chk (by simp [go_sem, hw, hacc])⟩
    · have h0 : ((y.toNat : Int) == 0) = false := by
        have : y.toNat ≠ 0 := fun e => hy (BitVec.eq_of_toNat_eq (by simpa using e))
        simp; omega
      obtain ⟨m, _, hk⟩ := tz_form hy
      have hb := bits_cons hy
      rw [hb, List.map_cons] at hacc
      have hal : acc.length ≤ 256 := by
        have := congrArg List.length hacc
        simp at this; omega
      have w1 : IntKind.i64.wrap (64 * (i : Int)) = 64 * (i : Int) := by rw [i64w] <;> omega
      have w2 : IntKind.i64.wrap (64 * (i : Int) + tz y) = 64 * (i : Int) + tz y := by rw [i64w] <;> omega
      simp [go_sem, bne, h0]
      refine OpW.fn true (tz_c y hy) rfl rfl (by simp [go_sem]) (by rintro _ r rfl; simp [go_sem]) ?_
      rintro r rfl
      simp [go_sem, w1, w2, sub_w hy]
      exact ⟨by omega, acc ++ [64 * (i : Int) + tz y], wAnd y (wSub y), by simpa using hacc, by rw [hb]; simp, Ent.rename2 24 3 (by simp [go_sem]) (Ent.chk (by simp [go_sem]))⟩
  · have hil : i = 4 := by omega
    subst hil
    simp [go_sem]

/-! ### put, Join, Meet, Less -/
def putX (F : BitVec 64 → BitVec 64 → BitVec 64) (x y : Nat → BitVec 64) (i : Nat) : Nat → BitVec 64 := fun j => if j < i then F (x j) (y j) else x j
theorem put_c (a b : List Int) (f : FuncId) (F : BitVec 64 → BitVec 64 → BitVec 64) (ha : a.length ≤ 140737488355328) (hb : b.length ≤ 140737488355328) (hF : ∀ x y, ACalls Tryz.prog f [u64 x, u64 y] (· = .one (.sv (u64 (F x y))))) :
    ACalls Tryz.prog 82 [ints a, ints b, .fn f []] (· = .one (.sv (ints (if isSet a = true ∧ isSet b = true then listW (fun j => F (wd a j) (wd b j)) 256 else [])))) := by
  refine ACalls.of_bodyS (fun _ _ => Tryz.call82 _ _) Tryz.func82 rfl Tryz.ntmps82 (by simp) ?_
  refine Tr.ex ?_
  simp [go_sem]
  refine OpW.fn true (both_c a b ha hb) rfl rfl (by simp [go_sem]) (by rintro _ r ⟨x, y, rfl, hx, hy⟩; simp [go_sem]) ?_
  rintro r ⟨x, y, rfl, hx, hy⟩
  cases hsa : isSet a with
  | false => simp [go_sem]
  | true =>
    cases hsb : isSet b with
    | false => simp [go_sem]
    | true =>
      have hx := hx hsa
      have hy := hy hsb
      have hFk : ∀ k, ACalls Tryz.prog f ([u64 (wd a k), u64 (wd b k)] ++ []) (· = .one (.sv (u64 (F (wd a k) (wd b k))))) := fun k => by simpa using hF (wd a k) (wd b k)
      subst hx
      subst hy
      simp [go_sem]
      refine LoopW.of (fun i : Nat => ⟨36, [(2, .sv (.fn f [])), (6, .nil), (7, .box 7 0), (8, .box 8 0), (20, .sv (iv i))],
          [(7, .box [.sv (u64 (putX F (wd a) (wd b) i 0)), .sv (u64 (putX F (wd a) (wd b) i 1)), .sv (u64 (putX F (wd a) (wd b) i 2)), .sv (u64 (putX F (wd a) (wd b) i 3))]), (8, .box [.sv (u64 (wd b 0)), .sv (u64 (wd b 1)), .sv (u64 (wd b 2)), .sv (u64 (wd b 3))])]⟩)
        (fun i => i ≤ 4) (fun i => 4 - i) 0 (by omega) (Ent.chk (by simp [go_sem, putX])) ?_
      rintro i hi
      by_cases hlt : i < 4
      · have hlt' : (i : Int) < 4 := by omega
        have hi4 : i = 0 ∨ i = 1 ∨ i = 2 ∨ i = 3 := by omega
        rcases hi4 with rfl | rfl | rfl | rfl
        · simp [go_sem, putX]
          refine DrawW.rd rfl ?_
          simp [go_sem, putX]
          refine OpD.callF true (hFk 0) rfl rfl (by simp [go_sem]) (by simp [go_sem]) (by intro _; simp [go_sem]) (by simp [go_sem]) (by simp [go_sem]) ?_
          simp [go_sem]
          exact ⟨by kernel_rfl, 1, by decide, by decide, Ent.chk (by simp [go_sem, putX])⟩
        · simp [go_sem, putX]
          refine DrawW.rd rfl ?_
          simp [go_sem, putX]
          refine OpD.callF true (hFk 1) rfl rfl (by simp [go_sem]) (by simp [go_sem]) (by intro _; simp [go_sem]) (by simp [go_sem]) (by simp [go_sem]) ?_
          simp [go_sem]
          exact ⟨by kernel_rfl, 2, by decide, by decide, Ent.chk (by simp [go_sem, putX])⟩
        · simp [go_sem, putX]
          refine DrawW.rd rfl ?_
          simp [go_sem, putX]
          refine OpD.callF true (hFk 2) rfl rfl (by simp [go_sem]) (by simp [go_sem]) (by intro _; simp [go_sem]) (by simp [go_sem]) (by simp [go_sem]) ?_
          simp [go_sem]
          exact ⟨by kernel_rfl, 3, by decide, by decide, Ent.chk (by simp [go_sem, putX])⟩
        · simp [go_sem, putX]
          refine DrawW.rd rfl ?_
          simp [go_sem, putX]
          refine OpD.callF true (hFk 3) rfl rfl (by simp [go_sem]) (by simp [go_sem]) (by intro _; simp [go_sem]) (by simp [go_sem]) (by simp [go_sem]) ?_
          simp [go_sem]
          exact ⟨by kernel_rfl, 4, by decide, by decide, Ent.chk (by simp [go_sem, putX])⟩
      · have hil : i = 4 := by omega
        subst hil
        have hp : (putX F (wd a) (wd b) 4) = fun j => if j < 4 then F (wd a j) (wd b j) else wd a j := rfl
        have hli : listW (fun j => F (wd a j) (wd b j)) 256 = listW (putX F (wd a) (wd b) 4) 256 := by
          unfold listW
          refine rangeF_congr fun i hi => ?_
          simp only [putX]
          rw [if_pos (by omega)]
        rw [hli]
        generalize putX F (wd a) (wd b) 4 = z
        simp [go_sem]
        refine OpW.fn false (list_c z) rfl rfl (by simp [go_sem]) (fun h => by cases h) ?_
        rintro r rfl
        simp [go_sem]
end Go.Proofs.YtinhfnbmgmociaaGreatDoor.Ab

namespace Go.Proofs.YtinhfnbmgmociaaGreatDoor.Ab
open Go.RowKit
set_option linter.unusedVariables false
set_option linter.unusedSimpArgs false

def opL (F : Bool → Bool → Bool) (a b : List Int) : List Int := if isSet a = true ∧ isSet b = true then rangeF (fun i => F (decide ((i : Int) ∈ a)) (decide ((i : Int) ∈ b))) 256 else []
def joinL (a b : List Int) : List Int := opL (fun x y => x || y) a b
def meetL (a b : List Int) : List Int := opL (fun x y => x && y) a b
def lessL (a b : List Int) : List Int := opL (fun x y => x && !y) a b
theorem opL_set (F : Bool → Bool → Bool) (a b : List Int) : isSet (opL F a b) = true := by
  unfold opL; split
  · exact rangeF_set _ (Nat.le_refl _)
  · rfl
theorem opL_mem {F : Bool → Bool → Bool} (hF : F false false = false) {a b : List Int} (ha : isSet a = true) (hb : isSet b = true) {n : Int} : n ∈ opL F a b ↔ F (decide (n ∈ a)) (decide (n ∈ b)) = true := by
  unfold opL
  rw [if_pos ⟨ha, hb⟩, mem_rangeF]
  constructor
  · rintro ⟨h0, h1, h2⟩; rwa [Int.toNat_of_nonneg h0] at h2
  · intro h
    have h1 := (isSet_iff.1 ha).2 n
    have h2 := (isSet_iff.1 hb).2 n
    by_cases h3 : n ∈ a
    · have := h1 h3; exact ⟨this.1, this.2, by rw [Int.toNat_of_nonneg this.1]; exact h⟩
    · by_cases h4 : n ∈ b
      · have := h2 h4; exact ⟨this.1, this.2, by rw [Int.toNat_of_nonneg this.1]; exact h⟩
      · simp [h3, h4, hF] at h
theorem joinL_set (a b : List Int) : isSet (joinL a b) = true := opL_set _ _ _
theorem meetL_set (a b : List Int) : isSet (meetL a b) = true := opL_set _ _ _
theorem lessL_set (a b : List Int) : isSet (lessL a b) = true := opL_set _ _ _
theorem joinL_mem {a b : List Int} (ha : isSet a = true) (hb : isSet b = true) {n : Int} : n ∈ joinL a b ↔ n ∈ a ∨ n ∈ b := by unfold joinL; rw [opL_mem rfl ha hb]; simp
theorem meetL_mem {a b : List Int} (ha : isSet a = true) (hb : isSet b = true) {n : Int} : n ∈ meetL a b ↔ n ∈ a ∧ n ∈ b := by unfold meetL; rw [opL_mem rfl ha hb]; simp
theorem lessL_mem {a b : List Int} (ha : isSet a = true) (hb : isSet b = true) {n : Int} : n ∈ lessL a b ↔ n ∈ a ∧ n ∉ b := by unfold lessL; rw [opL_mem rfl ha hb]; simp
theorem opL_bad {F : Bool → Bool → Bool} {a b : List Int} (h : isSet a = false ∨ isSet b = false) : opL F a b = [] := by
  unfold opL; rw [if_neg]; rintro ⟨h1, h2⟩; rcases h with h | h <;> simp [h] at h1 h2
theorem listW_op {F : BitVec 64 → BitVec 64 → BitVec 64} {f : Bool → Bool → Bool} (hF : ∀ x y i, i < 64 → (F x y).getLsbD i = f (x.getLsbD i) (y.getLsbD i)) (a b : List Int) :
    (if isSet a = true ∧ isSet b = true then listW (fun j => F (wd a j) (wd b j)) 256 else []) = opL f a b := by
  unfold opL
  split
  · rename_i h
    unfold listW
    refine rangeF_congr fun i hi => ?_
    have h1 := wd_has h.1 (n := (i : Int)) (by omega) (by omega)
    have h2 := wd_has h.2 (n := (i : Int)) (by omega) (by omega)
    simp only [Int.toNat_natCast] at h1 h2
    rw [hF _ _ _ (by omega), h1, h2]
  · rfl
theorem or1_c (x y : BitVec 64) : ACalls Tryz.prog 108 [u64 x, u64 y] (· = .one (.sv (u64 (wOr x y)))) := by
  refine ACalls.of_bodyS (fun _ _ => Tryz.call108 _ _) Tryz.func108 rfl Tryz.ntmps108 (by simp) ?_
  refine Tr.ex ?_
  simp [go_sem]
theorem not1_c (x y : BitVec 64) : ACalls Tryz.prog 83 [u64 x, u64 y] (· = .one (.sv (u64 (wNot x y)))) := by
  refine ACalls.of_bodyS (fun _ _ => Tryz.call83 _ _) Tryz.func83 rfl Tryz.ntmps83 (by simp) ?_
  refine Tr.ex ?_
  simp [go_sem]
theorem Join_c (a b : List Int) (ha : a.length ≤ 140737488355328) (hb : b.length ≤ 140737488355328) : ACalls Tryz.prog 81 [ints a, ints b] (· = .one (.sv (ints (joinL a b)))) := by
  refine ACalls.of_bodyS (fun _ _ => Tryz.call81 _ _) Tryz.func81 rfl Tryz.ntmps81 (by simp) ?_
  refine Tr.ex ?_
  have h := put_c a b _ wOr ha hb or1_c
  rw [listW_op (f := fun x y => x || y) (fun x y i _ => by unfold wOr; simp)] at h
  simp [go_sem]
  refine OpW.fn false h rfl rfl (by simp [go_sem]) (fun h => by cases h) ?_
  rintro r rfl
  simp [go_sem, joinL]
theorem Less_c (a b : List Int) (ha : a.length ≤ 140737488355328) (hb : b.length ≤ 140737488355328) : ACalls Tryz.prog 54 [ints a, ints b] (· = .one (.sv (ints (lessL a b)))) := by
  refine ACalls.of_bodyS (fun _ _ => Tryz.call54 _ _) Tryz.func54 rfl Tryz.ntmps54 (by simp) ?_
  refine Tr.ex ?_
  have h := put_c a b _ wNot ha hb not1_c
  rw [listW_op (f := fun x y => x && !y) (fun x y i hi => by unfold wNot; simp [hi])] at h
  simp [go_sem]
  refine OpW.fn false h rfl rfl (by simp [go_sem]) (fun h => by cases h) ?_
  rintro r rfl
  simp [go_sem, lessL]

/-! ### Whole -/
def wholeP (g : List Thing) (l : List Int) (n : Nat) : Bool := l.any fun k => inU g n k.toNat
def wholeL (g : List Thing) (l : List Int) : List Int := if isGraph g = true ∧ isSet l = true ∧ (∀ n ∈ l, n < (g.length : Int)) then rangeF (wholeP g l) g.length else []
theorem whole_snoc {g : List Thing} (hg : isGraph g = true) {l : List Int} {k : Int} (h0 : 0 ≤ k) (hk : k < g.length) : joinL (rangeF (wholeP g l) g.length) (aboveL g k) = rangeF (wholeP g (l ++ [k])) g.length := by
  have hgl := isGraph_len hg
  refine set_ext (joinL_set _ _) (rangeF_set _ hgl.2) fun n => ?_
  rw [joinL_mem (rangeF_set _ hgl.2) (aboveL_set _ _), mem_rangeF, mem_rangeF, aboveL_mem_iff]
  unfold wholeP
  simp only [List.any_append, List.any_cons, List.any_nil, Bool.or_false, Bool.or_eq_true]
  constructor
  · rintro (⟨h1, h2, h3⟩ | ⟨_, h1, h2⟩)
    · exact ⟨h1, h2, .inl h3⟩
    · have := inU_le h2
      exact ⟨h1, by omega, .inr h2⟩
  · rintro ⟨h1, h2, h3 | h3⟩
    · exact .inl ⟨h1, h2, h3⟩
    · exact .inr ⟨thereB_iff.2 ⟨h0, hk, hg⟩, h1, h3⟩
theorem lastOf_max {l : List Int} (hs : isSet l = true) {n : Int} (hn : n ∈ l) : n ≤ l.getD (l.length - 1) 0 := by
  have h := (isSet_iff.1 hs).1
  obtain ⟨i, hi, rfl⟩ := List.getElem_of_mem hn
  rw [List.getD_eq_getElem?_getD, List.getElem?_eq_getElem (by omega)]
  by_cases he : i = l.length - 1
  · simp [← he]
  · have := List.pairwise_iff_getElem.1 h i (l.length - 1) hi (by omega) (by omega)
    simp; omega
end Go.Proofs.YtinhfnbmgmociaaGreatDoor.Ab
