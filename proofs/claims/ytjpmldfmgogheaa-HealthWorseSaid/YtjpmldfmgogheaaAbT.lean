/- The abstract layer, part T: a slice held against nil. -/
import Derived.Test.YtjpmldfmgogheaaAbR
import Derived.Laws.Cover3
namespace Go.Proofs.Ytjpmldfmgogheaa.Ab
open Go.RowKit
set_option linter.unusedVariables false
set_option linter.unusedSimpArgs false

/-- A slice held against nil: where it has no elements, either way. -/
theorem Rn.isnil {P : Program} {ops : Array Oper} {l : List Oper} {K : St → Prop} {o : Oper} {st : St} {t rt : TypeId} {x : Operand} {op : BinOp} {X : AV} {xs : List SV} {e : TypeId} (hop : op = .eql ∨ op = .neq) (hg : grd ops st o = some true) (ho : o.op = .binOp op t x (.const (.slice none 0 0)) rt)
    (hx : aval st x = some X) (hr : rowOf st X = some xs) (he : selem P t = some e) (hd : st.fitsDst o.dst = true) (h : ∀ b : Bool, (b = true → xs = []) → Rn P ops l K (st.put o.dst (.sv (.val (.bool (if op = .eql then b else !b)))))) : Rn P ops (o :: l) K st := fun keep w E a hI => by
  unfold wpList
  rw [if_pos (grd_run hI hg)]
  refine .inl ?_
  obtain ⟨b, c, hv, hc, hor⟩ := src_rep hI hr (aval_rep hI hx)
  have hb : b.isNone = true → xs = [] := fun hn => by
    rcases hor with h | ⟨ad, sz, vs, rfl, _⟩
    · exact h
    · simp at hn
  have hrun : (execOp a.eval o).run P w = .ok (.value (.bool (if op = .eql then b.isNone else !b.isNone))) w := by
    have hq := run_equal_slice_nil w t e b xs.length c (selem_eq he).1
    unfold execOp
    rw [ho]
    have hc2 : a.eval (.const (.slice none 0 0)) = .slice none 0 0 := rfl
    rcases hop with rfl | rfl <;> simp [hv, hc2, eqGuard, binOp, hq]
  unfold Oper.wp
  rw [hrun]
  refine Rn.freeze.wpList_mono' ?_ (h b.isNone hb keep w E _ (hI.put hd (RepV.val_mk _)))
  rintro e a2 w2 ⟨st2, E2, k1, k2, k3⟩
  exact ⟨st2, E2, k1, k2, k3⟩
theorem OpW.isnil {P : Program} {Q : Exit → St → Prop} {ops : Array Oper} {l : List Oper} {k : List Fr} {o : Oper} {st : St} {t rt : TypeId} {x : Operand} {op : BinOp} {X : AV} {xs : List SV} {e : TypeId} (hop : op = .eql ∨ op = .neq) (ho : o.op = .binOp op t x (.const (.slice none 0 0)) rt) (hg : grd ops st o = some true)
    (hx : aval st x = some X) (hr : rowOf st X = some xs) (he : selem P t = some e) (hd : st.fitsDst o.dst = true) (h : ∀ b : Bool, (b = true → xs = []) → Ab.rn P Q ops l k (st.put o.dst (.sv (.val (.bool (if op = .eql then b else !b)))))) : OpW P Q ops o l k st :=
  Rn.isnil hop hg ho hx hr he hd fun b hb => RnK.rn (h b hb)
/-- What is owned is shared from here on. -/
theorem OpW.frz {P : Program} {Q : Exit → St → Prop} {ops : Array Oper} {l : List Oper} {k : List Fr} {o : Oper} {st : St} (t : Nat) (h : OpW P Q ops o l k (st.freeze t)) : OpW P Q ops o l k st := Rn.freeze t h
theorem OpW.ent {P : Program} {Q : Exit → St → Prop} {ops : Array Oper} {l : List Oper} {k : List Fr} {o : Oper} {st st' : St} (h : Ent st st') (hk : OpW P Q ops o l k st') : OpW P Q ops o l k st := Rn.ent h hk
theorem DrawW.ent {P : Program} {Q : Exit → St → Prop} {id : Nat} {ops : Array Oper} {k : List Fr} {st st' : St} (h : Ent st st') (hk : DrawW P Q id ops k st') : DrawW P Q id ops k st := Tr.ent h hk
theorem LoopW.ent {P : Program} {Q : Exit → St → Prop} {c : Code} {k : List Fr} {st st' : St} (h : Ent st st') (hk : LoopW P Q c k st') : LoopW P Q c k st := Tr.ent h hk
end Go.Proofs.Ytjpmldfmgogheaa.Ab
