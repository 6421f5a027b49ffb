/- The abstract layer, part U: a halt behind a region; a slice whose length alone is known. -/
import Derived.Test.YtfcojlagmmgagaaDoorAbT
namespace Go.Proofs.YtfcojlagmmgagaaDoor.Ab
open Go.RowKit
set_option linter.unusedVariables false
set_option linter.unusedSimpArgs false

/-- What is to be done behind a region, not looked into. -/
def HaltW (P : Program) (Q : Exit → St → Prop) (y : Code) (k : List Fr) (st : St) : Prop := TrK P Q y k st
def haltQ (P : Program) (Q : Exit → St → Prop) (y : Code) (k : List Fr) : Exit → St → Prop
  | .normal, st => HaltW P Q y k st
  | _, _ => False
theorem haltQ_normal (P : Program) (Q : Exit → St → Prop) (y : Code) (k : List Fr) (st : St) : haltQ P Q y k .normal st = HaltW P Q y k st := rfl
attribute [go_sem] haltQ_normal
theorem RnK.halt {P : Program} {Q : Exit → St → Prop} {ops : Array Oper} {l : List Oper} {y : Code} {k : List Fr} {st : St} (h : Ab.rn P (haltQ P Q y k) ops l [] st) : RnK P Q ops l (.seq y :: k) st := Rn.mono (RnK.rn h) fun st' hst => hst
theorem OpW.fnH {P : Program} {Q : Exit → St → Prop} {ops : Array Oper} {o : Oper} {l : List Oper} {y : Code} {k : List Fr} {st : St} {f : FuncId} {xs : Array Operand} {ts : Array TypeId} {ys : List SV} {R : RV → Prop} (lent : Bool)
    (hc : ACalls P f ys R) (ho : o.op = .call { callee := .value (.func f), args := xs, argTypes := ts }) (hg : grd ops st o = some true)
    (ha : (if lent = true then argv st xs.toList else argS st xs.toList) = some ys) (hl : lent = true → ∀ r, R r → r.flat) (h : ∀ r, R r → st.impFresh o.dst r = true ∧ Ab.rn P (haltQ P Q y k) ops l [] (st.imp o.dst r)) : OpW P Q ops o l (.seq y :: k) st :=
  Rn.call (caps := []) lent hg ho rfl ha (by simpa using hc) hl fun r hr => ⟨(h r hr).1, RnK.halt (h r hr).2⟩
theorem HaltW.go {P : Program} {Q : Exit → St → Prop} {y : Code} {k : List Fr} {st : St} (h : Ab.ex P Q y k st) : HaltW P Q y k st := (run_sound _).1 y k st (Nat.lt_succ_self _) h
theorem HaltW.ent {P : Program} {Q : Exit → St → Prop} {y : Code} {k : List Fr} {st st' : St} (h : Ent st st') (hk : HaltW P Q y k st') : HaltW P Q y k st := Tr.ent h hk
/-- A loop, what is behind it not looked into. -/
theorem LoopW.halt {P : Program} {Q : Exit → St → Prop} {c : Code} {id : Nat} {y : Code} {k : List Fr} {st : St} (h : LoopW P (haltQ P Q y k) c [.blk id] st) : LoopW P Q c (.blk id :: .seq y :: k) st := by
  refine Tr.mono h fun e s hs => ?_
  cases e with
  | exit i =>
    simp only [kq, blockQ] at hs ⊢
    split at hs
    · rename_i hi; rw [if_pos hi]; exact hs
    · exact hs.elim
  | normal => exact hs
  | _ => exact hs.elim
/-- A slice that is owned, told by its value alone. -/
theorem HaltW.fix {P : Program} {Q : Exit → St → Prop} {y : Code} {k : List Fr} {st : St} {d t sz : Nat} {xs : List SV} (hd : lk st.t d = some (.own t)) (hm : lk st.m t = some (.row sz xs)) (h : ∀ a c, HaltW P Q y k { st with t := up st.t d (.sv (.val (.slice a xs.length c))) }) : HaltW P Q y k st := fun keep w E a hI => by
  obtain ⟨v, e1, e2⟩ := hI.tm d _ hd
  have hv : ∃ b c, v = .slice b xs.length c := by
    simp only [RepV, hm] at e2
    cases hE : E.at_ t with
    | none =>
      rw [hE] at e2
      obtain ⟨b, rfl⟩ := e2
      obtain ⟨_, hmm⟩ := hI.mm t _ hm
      rcases hmm with ⟨_, rfl⟩ | ⟨g, c, e, cur, vs, h1, _⟩
      · exact ⟨b, 0, rfl⟩
      · rw [hE] at h1; cases h1
    | some p => rw [hE] at e2; exact ⟨_, _, e2⟩
  obtain ⟨b, c, rfl⟩ := hv
  refine h b c keep w E a ⟨hI.df, hI.sz, fun e x hx => ?_, hI.mm, hI.inj, hI.own, hI.okl, hI.kpl⟩
  simp only [lk_up] at hx
  split at hx
  · rename_i e'; subst e'
    simp only [Option.some.injEq] at hx; subst hx
    exact ⟨_, e1, RepV.val_mk _⟩
  · exact hI.tm e x hx
theorem RnK.fix {P : Program} {Q : Exit → St → Prop} {ops : Array Oper} {l : List Oper} {k : List Fr} {st : St} {d t sz : Nat} {xs : List SV} (hd : lk st.t d = some (.own t)) (hm : lk st.m t = some (.row sz xs)) (h : ∀ a c, Ab.rn P Q ops l k { st with t := up st.t d (.sv (.val (.slice a xs.length c))) }) : RnK P Q ops l k st := fun keep w E a hI => by
  obtain ⟨v, e1, e2⟩ := hI.tm d _ hd
  have hv : ∃ b c, v = .slice b xs.length c := by
    simp only [RepV, hm] at e2
    cases hE : E.at_ t with
    | none =>
      rw [hE] at e2
      obtain ⟨b, rfl⟩ := e2
      obtain ⟨_, hmm⟩ := hI.mm t _ hm
      rcases hmm with ⟨_, rfl⟩ | ⟨g, c, e, cur, vs, h1, _⟩
      · exact ⟨b, 0, rfl⟩
      · rw [hE] at h1; cases h1
    | some p => rw [hE] at e2; exact ⟨_, _, e2⟩
  obtain ⟨b, c, rfl⟩ := hv
  refine RnK.rn (h b c) keep w E a ⟨hI.df, hI.sz, fun e x hx => ?_, hI.mm, hI.inj, hI.own, hI.okl, hI.kpl⟩
  simp only [lk_up] at hx
  split at hx
  · rename_i e'; subst e'
    simp only [Option.some.injEq] at hx; subst hx
    exact ⟨_, e1, RepV.val_mk _⟩
  · exact hI.tm e x hx
/-- The first operation of a region, by itself. -/
theorem HaltW.one {P : Program} {Q : Exit → St → Prop} {id : Nat} {o : Oper} {l : List Oper} {z : Code} {k : List Fr} {st : St} {d : Dl} (hg : grd (o :: l).toArray st o = some true) (hd : dlt P o st = some d) (hc : d.c) (hf : st.fitsDst o.dst = true) (h : RnK P Q (o :: l).toArray l (.seq z :: k) (st.app o.dst d)) : HaltW P Q (.seq (.region id (o :: l).toArray false) z) k st :=
  Tr.seq (Tr.region (Rn.step hg (dlt_does hd hc hf) h))
theorem does_len_val {P : Program} {o : Oper} {st : St} {ty e : TypeId} {x : Operand} {a : Option Addr} {n c : Nat} (ho : o.op = .call { callee := .builtin .len, args := #[x], argTypes := #[ty] }) (hx : aval st x = some (.sv (.val (.slice a n c)))) (he : selem P ty = some e) (hd : st.fitsDst o.dst = true) : Does P o st (st.put o.dst (.sv (.val (.int .i64 n)))) := by
  refine Does.puts hd fun keep w E a hI => ⟨.int .i64 n, ?_, RepV.val_mk _⟩
  have h1 := (aval_rep hI hx).val
  obtain ⟨hu, _⟩ := selem_eq he
  unfold execOp
  rw [ho]
  simp [resolve, invoke, builtin, h1, Builtin.len_, run_underlying hu, goInt]
theorem OpW.lenv {P : Program} {Q : Exit → St → Prop} {ops : Array Oper} {l : List Oper} {k : List Fr} {o : Oper} {st : St} {ty e : TypeId} {x : Operand} {a : Option Addr} {n c : Nat} (ho : o.op = .call { callee := .builtin .len, args := #[x], argTypes := #[ty] }) (hg : grd ops st o = some true) (hx : aval st x = some (.sv (.val (.slice a n c)))) (he : selem P ty = some e) (hd : st.fitsDst o.dst = true)
    (h : Ab.rn P Q ops l k (st.put o.dst (.sv (.val (.int .i64 n))))) : OpW P Q ops o l k st := OpW.does (does_len_val ho hx he hd) hg h
end Go.Proofs.YtfcojlagmmgagaaDoor.Ab
