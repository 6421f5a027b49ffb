/- The abstract layer, part Q: results that are shared. -/
import Derived.Test.YtfcojlagmmgagaaDoorAbP
namespace Go.Proofs.YtfcojlagmmgagaaDoor.Ab
open Go.RowKit
set_option linter.unusedVariables false
set_option linter.unusedSimpArgs false

def R1.shr : R1 → R1
  | .sv x => .sv x
  | .nil => .sv (.lst [])
  | .own _ xs => .sv (.lst xs)
def RV.shr : RV → RV
  | .one r => .one r.shr
  | .many rs => .many (rs.map R1.shr)
theorem Ent.nilS {st : St} {d : Nat} (hd : lk st.t d = some .nil) : Ent st { st with t := up st.t d (.sv (.lst [])) } := fun keep w E a hI => by
  refine ⟨E, ⟨hI.df, hI.sz, fun e x hx => ?_, hI.mm, hI.inj, hI.own, hI.okl, hI.kpl⟩, Evo.refl _ _ _⟩
  simp only [lk_up] at hx
  split at hx
  · rename_i e'; subst e'
    simp only [Option.some.injEq] at hx; subst hx
    obtain ⟨v, h1, h2⟩ := hI.tm d _ hd
    refine ⟨v, h1, ?_⟩
    simp only [RepV] at h2; subst h2
    simp only [RepV, RepS]
    exact ⟨none, 0, rfl, by simp, by simp⟩
  · exact hI.tm e x hx
theorem cst_lkt (rs : List R1) (j : Nat) : lk (cst rs).t j = (rs[j]?).map (R1.av j) := by
  have := ent1_get (f := id) rs 0 j
  simpa [cst] using this
theorem cst_lkm (rs : List R1) (t : Nat) : lk (cst rs).m t = match rs[t]? with | some (.own sz xs) => some (.row sz xs) | _ => none := by
  rcases impM_lk (f := id) (fun i j h => h) rs 0 [] t with ⟨j, sz, xs, h1, h2, h3⟩ | ⟨h1, h2⟩
  · have : t = j := by simpa using h2
    subst this
    rw [h1]; exact h3
  · show lk (impM id 0 rs []) t = _
    rw [h2]
    cases hr : rs[t]? with
    | none => rfl
    | some r => cases r with
      | own sz xs => exact (h1 t sz xs hr (by simp)).elim
      | _ => rfl
theorem Ent.shr1 (rs1 rs2 : List R1) (r : R1) : Ent (cst (rs1 ++ r :: rs2)) (cst (rs1 ++ r.shr :: rs2)) := by
  have hget : ∀ (q : R1) (j : Nat), (rs1 ++ q :: rs2)[j]? = if j = rs1.length then some q else (rs1 ++ r :: rs2)[j]? := fun q j => by
    by_cases h : j < rs1.length
    · rw [List.getElem?_append_left h, if_neg (by omega), List.getElem?_append_left h]
    · rw [List.getElem?_append_right (by omega)]
      by_cases h2 : j = rs1.length
      · subst h2; simp
      · rw [if_neg h2, List.getElem?_append_right (by omega)]
        obtain ⟨k, hk⟩ : ∃ k, j - rs1.length = k + 1 := ⟨j - rs1.length - 1, by omega⟩
        rw [hk]; rfl
  have hlen : ∀ q : R1, (rs1 ++ q :: rs2).length = (rs1 ++ r :: rs2).length := fun q => by simp
  cases r with
  | sv x => exact Ent.refl _
  | nil =>
    refine (Ent.nilS (d := rs1.length) (by rw [cst_lkt]; simp [R1.av])).trans (Ent.le ⟨(hlen _).symm, fun d x hx => ?_, fun t o ho => ?_⟩)
    · rw [cst_lkt, hget] at hx
      rw [lk_up]
      split at hx
      · rename_i e; subst e; simpa [R1.shr, R1.av] using hx
      · rename_i e; rw [if_neg (Ne.symm e), cst_lkt]; exact hx
    · rw [cst_lkm, hget] at ho
      rw [cst_lkm]
      split at ho
      · rename_i h1
        split at h1
        · simp [R1.shr] at h1
        · rw [h1]; exact ho
      · cases ho
  | own sz xs =>
    have hm : lk (cst (rs1 ++ .own sz xs :: rs2)).m rs1.length = some (.row sz xs) := by rw [cst_lkm]; simp
    refine Ent.freeze rs1.length (Ent.le ⟨?_, fun d x hx => ?_, fun t o ho => ?_⟩)
    · unfold St.freeze; rw [hm]; exact (hlen _).symm
    · unfold St.freeze; rw [hm]
      simp only [lk_mapv]
      rw [cst_lkt, hget] at hx
      rw [cst_lkt]
      split at hx
      · rename_i e; subst e
        simp only [Option.map_some, R1.shr, R1.av, Option.some.injEq] at hx; subst hx
        simp [R1.av, AV.frz]
      · rename_i e
        cases hj : (rs1 ++ R1.own sz xs :: rs2)[d]? with
        | none => rw [hj] at hx; cases hx
        | some q =>
          rw [hj] at hx
          simp only [Option.map_some, Option.some.injEq] at hx ⊢; subst hx
          cases q with
          | own sz' xs' => simp [R1.av, AV.frz, e]
          | _ => simp [R1.av, AV.frz]
    · unfold St.freeze; rw [hm]
      simp only [lk_mapv, lk_rm]
      rw [cst_lkm, hget] at ho
      split at ho
      · rename_i h1
        split at h1
        · simp [R1.shr] at h1
        · rename_i e
          rw [if_neg (Ne.symm e), cst_lkm, h1]
          simpa [Obj'.frz] using ho
      · cases ho
theorem Ent.shr (rs1 : List R1) : ∀ rs2 : List R1, Ent (cst (rs1 ++ rs2)) (cst (rs1 ++ rs2.map R1.shr))
  | [] => Ent.refl _
  | r :: rs2 => by
    refine (Ent.shr1 rs1 rs2 r).trans ?_
    have := Ent.shr (rs1 ++ [r.shr]) rs2
    simpa using this
theorem RV.shr_comps (r : RV) : r.shr.comps = r.comps.map R1.shr := by cases r <;> rfl
theorem RV.shr_val (r : RV) (vs : List Value) : r.shr.val vs = r.val vs := by cases r <;> rfl
/-- What is returned may be taken as shared. -/
theorem ACalls.shr {P : Program} {g : FuncId} {args : List SV} {R : RV → Prop} (h : ACalls P g args R) : ACalls P g args (fun r' => ∃ r, R r ∧ r' = r.shr) := by
  obtain ⟨g', h1, h2⟩ := h
  refine ⟨g', h1, fun w ok cargs k1 k2 => (h2 w ok cargs k1 k2).mono ?_⟩
  rintro e w' ⟨r, vs, E1, q1, q2, q3, q4⟩
  obtain ⟨E2, p1, p2⟩ := Ent.shr [] r.comps _ _ _ _ q3
  refine ⟨r.shr, vs, E2, ⟨r, q1, rfl⟩, by rw [RV.shr_val]; exact q2, ?_, ⟨(q4.trans p2).os, (q4.trans p2).tape, (q4.trans p2).output, (q4.trans p2).size, (q4.trans p2).kp, (q4.trans p2).oks, (q4.trans p2).new, fun _ _ => rfl⟩⟩
  rw [RV.shr_comps]; exact p1
/-- A contract, by the function's body; the results shared. -/
theorem ACalls.of_bodyS {P : Program} {g : FuncId} {fn : Func} {c : Code} {args : List SV} {R : RV → Prop} (hcall : ∀ (cargs : Array Value) (w : World), (callFunc g cargs).run P w = .ok (.enter g cargs) w) (hf : P.funcs[g]? = some fn) (hb : fn.body = some c) {n : Nat} (hn : fn.ntmps = n) (hle : args.length ≤ n)
    (h : Tr P c (bodyQ P fn fun r => R r.shr) { n := n, t := params 0 args, m := [] }) : ACalls P g args R :=
  (ACalls.of_body hcall hf hb hn hle h).shr.mono fun r' ⟨r, h1, h2⟩ => h2 ▸ h1
theorem shr_one (r : R1) : (RV.one r).shr = .one r.shr := rfl
theorem shr_many (rs : List R1) : (RV.many rs).shr = .many (rs.map R1.shr) := rfl
theorem shr_sv (x : SV) : (R1.sv x).shr = .sv x := rfl
theorem shr_nil : R1.nil.shr = .sv (.lst []) := rfl
theorem shr_own (k : Nat) (xs : List SV) : (R1.own k xs).shr = .sv (.lst xs) := rfl
attribute [go_sem] shr_one shr_many shr_sv shr_nil shr_own
/-- What held a tag is forgotten. -/
def St.dropT (st : St) (t : Nat) : St := { st with t := mapv (fun x => if AV.holds t x = true then .sv .any else x) st.t }
theorem Ent.dropT (st : St) (t : Nat) : Ent st (st.dropT t) := fun keep w E a hI => by
  refine ⟨E, ⟨hI.df, hI.sz, fun e x hx => ?_, hI.mm, hI.inj, hI.own, hI.okl, hI.kpl⟩, Evo.refl _ _ _⟩
  simp only [St.dropT, lk_mapv] at hx
  cases hl : lk st.t e with
  | none => rw [hl] at hx; cases hx
  | some y =>
    rw [hl] at hx
    simp only [Option.map_some, Option.some.injEq] at hx; subst hx
    obtain ⟨v, h1, h2⟩ := hI.tm e _ hl
    refine ⟨v, h1, ?_⟩
    split
    · simp only [RepV, RepS]
    · exact h2
theorem Ent.rename2 {a b : St} (t t' : Nat) (hf : (a.dropT t').fresh t' = true) (h : Ent ((a.dropT t').rename t t') b) : Ent a b := (Ent.dropT a t').trans (Ent.rename t t' hf h)
attribute [go_sem] St.dropT AV.holds AV.holdsL
theorem gE {α : Type} {l : List α} {k : Nat} {x : α} (h : l[k]? = some x) : ∀ hk, l[k]'hk = x := fun hk => by
  rw [List.getElem?_eq_getElem hk] at h
  exact Option.some.inj h
end Go.Proofs.YtfcojlagmmgagaaDoor.Ab
