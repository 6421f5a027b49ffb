/- What is owned is lent deep: boxes that hold boxes, rows and closures are lent as what they hold now. -/
import Derived.Test.YtnkcenafpigmbaaAb3
namespace Go.Proofs.Ytnkcenafpigmbaa.Ab
open Go.RowKit
set_option linter.unusedVariables false
set_option linter.unusedSimpArgs false

def omap {α β : Type} (f : α → Option β) : List α → Option (List β)
  | [] => some []
  | x :: xs => match f x, omap f xs with
    | some y, some ys => some (y :: ys)
    | _, _ => none
/-- A frame value as an argument: what is owned is lent, to a depth. -/
def argD (m : Mem) : Nat → AV → Option SV
  | 0, X => AV.arg m X
  | n + 1, X => match X with
    | .box t off => match m t with
      | some (.box cs) => (omap (argD m n) cs).map fun xs => .ref (.agg xs) off
      | _ => none
    | .fnv f caps => (omap (argD m n) caps).map fun xs => .fn f xs
    | X => AV.arg m X
section
variable {kp : Nat → Prop} {w w' : World} {E E1 : Env} {st : St} {a : Act}
theorem argD_rep (hI : Inv kp w E st a) : ∀ {n : Nat} {X : AV} {y : SV} {v : Value}, argD (lk st.m) n X = some y → RepV w E (lk st.m) X v → RepS w (· < w.heap.size) y v
  | 0, X, y, v, h, hr => arg_rep hI h hr
  | n + 1, X, y, v, h, hr => by
    have hL : ∀ (cs : List AV) (ys : List SV) (vs : List Value), omap (argD (lk st.m) n) cs = some ys → RepVL w E (lk st.m) cs vs → RepL w (· < w.heap.size) ys vs := by
      intro cs
      induction cs with
      | nil => intro ys vs h hr; simp only [omap, Option.some.injEq] at h; subst h; simp only [RepVL] at hr; subst hr; exact RepL.nil
      | cons x xs ih =>
        intro ys vs h hr
        simp only [RepVL] at hr
        obtain ⟨v, vs', rfl, hx, hs⟩ := hr
        simp only [omap] at h
        split at h
        · rename_i y ys' h1 h2
          simp only [Option.some.injEq] at h; subst h
          exact RepL.cons (argD_rep hI h1 hx) (ih _ _ h2 hs)
        · cases h
    unfold argD at h
    split at h
    · rename_i t off
      split at h
      case h_2 => cases h
      rename_i cs hm
      obtain ⟨xs, hxs, rfl⟩ := Option.map_eq_some_iff.1 h
      simp only [RepV, hm] at hr
      obtain ⟨g, c, sz, hg, rfl⟩ := hr
      obtain ⟨g', c', sz', e, cur, hg', hh, hr⟩ := hI.mm t _ hm
      rw [hg] at hg'
      simp only [Option.some.injEq, Prod.mk.injEq] at hg'
      obtain ⟨rfl, rfl, rfl⟩ := hg'
      simp only [RepS]
      refine ⟨⟨g, 0, none⟩, .agg cur, by rw [add_lit, Nat.zero_add], (hI.own t _ g c sz hm hg).1, ⟨cur, rfl, hL _ _ _ hxs hr⟩, fun j y hy => ?_⟩
      rw [add_lit, cell_of_row w g _ cur e (0, 0) hh, Nat.zero_add]
      exact hy
    · rename_i f caps
      obtain ⟨xs, hxs, rfl⟩ := Option.map_eq_some_iff.1 h
      simp only [RepV, RepS] at hr ⊢
      obtain ⟨cs, rfl, hr⟩ := hr
      exact ⟨cs, rfl, hL _ _ _ hxs hr⟩
    · exact arg_rep hI h hr
def argvD (n : Nat) (st : St) : List Operand → Option (List SV)
  | [] => some []
  | x :: xs => match (aval st x).bind (argD (lk st.m) n), argvD n st xs with
    | some y, some ys => some (y :: ys)
    | _, _ => none
theorem argvD_rep (hI : Inv kp w E st a) {n : Nat} : ∀ {l : List Operand} {ys : List SV}, argvD n st l = some ys → RepL w (· < w.heap.size) ys (l.map a.eval)
  | [], ys, h => by simp only [argvD, Option.some.injEq] at h; subst h; exact RepL.nil
  | x :: xs, ys, h => by
    simp only [argvD] at h
    split at h
    · rename_i y ys' h1 h2
      simp only [Option.some.injEq] at h; subst h
      obtain ⟨X, hX, h1⟩ := Option.bind_eq_some_iff.1 h1
      exact RepL.cons (argD_rep hI h1 (aval_rep hI hX)) (argvD_rep hI h2)
    · cases h
variable {P : Program} {ops : Array Oper} {l : List Oper} {K : St → Prop} {o : Oper}
theorem Rn.callD {f : FuncId} {xs : Array Operand} {ts : Array TypeId} {ys : List SV} {R : RV → Prop} (n : Nat) (hg : grd ops st o = some true) (ho : o.op = .call { callee := .value (.func f), args := xs, argTypes := ts })
    (ha : argvD n st xs.toList = some ys) (hc : ACalls P f ys R) (hl : ∀ r, R r → r.flat) (h : ∀ r, R r → st.impFresh o.dst r = true ∧ Rn P ops l K (st.imp o.dst r)) : Rn P ops (o :: l) K st := fun keep w E a hI => by
  unfold wpList
  rw [if_pos (grd_run hI hg)]
  refine .inl ?_
  obtain ⟨g', hc1, hc2⟩ := hc
  have hE : ∀ b, E.ok b → (b < w.heap.size) ∧ w.heap[b]? = w.heap[b]? := fun b hb => ⟨hI.okl b hb, rfl⟩
  have hcall := hc2 w (· < w.heap.size) ((xs.map a.eval) ++ #[]) ⟨fun b h => h, hI.okl.gw.keep hE⟩ (by simpa using argvD_rep hI ha)
  have hrun : (execOp a.eval o).run P w = .ok (.enter g' (xs.map a.eval ++ #[])) w := by
    have := hc1 (xs.map a.eval ++ #[]) w
    unfold execOp
    rw [ho]
    simp [resolve, Deferred.ofValue, invoke, Act.eval, hc1]
  unfold Oper.wp
  rw [hrun, Oper.upon_enter]
  refine hcall.mono ?_
  rintro e w' ⟨r, vs, E1, hR, rfl, h1, h2⟩
  obtain ⟨hF, hk⟩ := h r hR
  obtain ⟨E2, q1, q2⟩ := hI.import h1 h2 hF (.inr (hl r hR))
  refine Rn.freeze.wpList_mono' ?_ (hk keep w' E2 _ q1)
  rintro e a2 w2 ⟨st2, E3, k1, k2, k3⟩
  exact ⟨st2, E3, k1, q2.trans k2, k3⟩
end
theorem OpW.fnD {P : Program} {Q : Exit → St → Prop} {ops : Array Oper} {o : Oper} {l : List Oper} {k : List Fr} {st : St} {f : FuncId} {xs : Array Operand} {ts : Array TypeId} {ys : List SV} {R : RV → Prop} (n : Nat)
    (hc : ACalls P f ys R) (ho : o.op = .call { callee := .value (.func f), args := xs, argTypes := ts }) (hg : grd ops st o = some true)
    (ha : argvD n st xs.toList = some ys) (hl : ∀ r, R r → r.flat) (h : ∀ r, R r → st.impFresh o.dst r = true ∧ Ab.rn P Q ops l k (st.imp o.dst r)) : OpW P Q ops o l k st :=
  Rn.callD n hg ho ha hc hl fun r hr => ⟨(h r hr).1, RnK.rn (h r hr).2⟩
attribute [go_sem] omap argD argvD
end Go.Proofs.Ytnkcenafpigmbaa.Ab
