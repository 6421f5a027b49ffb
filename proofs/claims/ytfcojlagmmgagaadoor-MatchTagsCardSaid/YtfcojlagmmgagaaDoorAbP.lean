/- The abstract layer, part P: what the run unfolds. -/
import Derived.Test.YtfcojlagmmgagaaDoorAbO
namespace Go.Proofs.YtfcojlagmmgagaaDoor.Ab
open Go.RowKit
attribute [go_sem] ex nr rn gd cnd rd gdd lk up rm mapv popTo St.put St.app St.imp St.fitsDst St.fresh St.held St.impFresh aval avC svC av0 dlt dltB binv ibin ishift beq2 aeq ceqk convk convS byteS idxA bnd aload ptrCells ashift rowOf astoreO AV.int AV.bool AV.cells AV.svs AV.one AV.elem AV.holds AV.holdsL
  SV.cells SV.solid SV.one SV.fits SV.withCells setAt apart crt crtA aparts afill acells zeroSV caps1 argv argS AV.arg AV.argL calle tagf R1.av RV.av RV.comps RV.flat R1.flat SV.flat SV.flatL impM impT impF R1.shared ftD ftW ftM ftH usesT usesM usesS tagsS tagsW tagsAll AV.tags AV.tagsL AV.live params resAV toR1 ownIn toR mkRV retv bodyQ_ret bodyQ_normal kx loopQ
  Op.operands Call.operands St.freeze St.rename AV.frz AV.frzL Obj'.frz AV.ren AV.renL Obj'.ren
def gval (x : Option AV) (want : Bool) : Option Bool :=
  match x with
  | some (.sv (.val (.bool b))) => some (b == want)
  | some (.sv (.val _)) => some false
  | _ => none
theorem grd_eq (ops : Array Oper) (st : St) (o : Oper) : grd ops st o = match o.guard with
    | none => some true
    | some (j, want) => match (ops[j]?).bind (·.dst) with
      | some d => gval (lk st.t d) want
      | none => none := rfl
theorem gval_bool (b want : Bool) : gval (some (.sv (.val (.bool b)))) want = some (b == want) := rfl
theorem gval_undef (want : Bool) : gval (some (.sv (.val undef))) want = some false := rfl
attribute [go_sem] grd_eq gval_bool gval_undef
theorem go_t1 {α : Type} (l : List α) (i : Nat) : l.toArray[i]? = l[i]? := List.getElem?_toArray
theorem go_t2 {α : Type} (a : α) (l : List α) : (a :: l)[0]? = some a := rfl
theorem go_t3 {α : Type} (a : α) (l : List α) (i : Nat) : (a :: l)[i + 1]? = l[i]? := rfl
attribute [go_sem] go_t1 go_t2 go_t3
attribute [go_sem] Bool.false_eq_true if_true if_false Option.map_some Option.map_none Option.bind_some Option.bind_none Option.getD_some Option.getD_none true_and and_true decide_eq_true_eq List.any_cons List.any_nil List.all_cons List.all_nil Bool.or_false Bool.false_or Bool.or_true Bool.true_or Bool.and_true Bool.true_and Bool.and_false Bool.false_and Bool.not_false Bool.not_true Option.isNone_none Option.isNone_some Nat.zero_add List.map_cons List.map_nil List.length_cons List.length_nil beq_self_eq_true List.cons_append List.nil_append List.append_nil List.take_zero List.drop_zero List.take_succ_cons List.drop_succ_cons List.take_nil List.drop_nil List.length_map List.head?_cons List.headD_cons List.filterMap_cons List.filterMap_nil List.flatMap_cons List.flatMap_nil List.reverse_cons List.reverse_nil List.contains_cons List.contains_nil Option.toList_some Option.toList_none eq_self List.length_append List.set_cons_zero List.set_cons_succ List.replicate_succ List.replicate_zero
theorem i64w (x : Int) (h0 : -9223372036854775808 ≤ x) (h1 : x ≤ 9223372036854775807) : IntKind.i64.wrap x = x := by rw [IntKind.wrap_i64]; omega
theorem i32w (x : Int) (h0 : -2147483648 ≤ x) (h1 : x ≤ 2147483647) : IntKind.i32.wrap x = x := by simp [IntKind.wrap, IntKind.bits, IntKind.signed]; omega
theorem u64w (x : Int) (h0 : 0 ≤ x) (h1 : x ≤ 18446744073709551615) : IntKind.u64.wrap x = x := by simp [IntKind.wrap, IntKind.bits, IntKind.signed]; omega
theorem u32w (x : Int) (h0 : 0 ≤ x) (h1 : x ≤ 4294967295) : IntKind.u32.wrap x = x := by simp [IntKind.wrap, IntKind.bits, IntKind.signed]; omega
theorem u16w (x : Int) (h0 : 0 ≤ x) (h1 : x ≤ 65535) : IntKind.u16.wrap x = x := by simp [IntKind.wrap, IntKind.bits, IntKind.signed]; omega
theorem u8w (x : Int) (h0 : 0 ≤ x) (h1 : x ≤ 255) : IntKind.u8.wrap x = x := by simp [IntKind.wrap, IntKind.bits, IntKind.signed]; omega
attribute [go_sem] i64w i32w u64w u32w u16w u8w
/-- What a state tells, told again. -/
def leT (st : St) : List (Nat × AV) → Prop
  | [] => True
  | (d, x) :: l => lk st.t d = some x ∧ leT st l
def leM (st : St) : List (Nat × Obj') → Prop
  | [] => True
  | (d, x) :: l => lk st.m d = some x ∧ leM st l
theorem leT_get {st : St} : ∀ {l : List (Nat × AV)} {d : Nat} {x : AV}, leT st l → lk l d = some x → lk st.t d = some x
  | [], d, x, _, h => by simp [lk] at h
  | (k, y) :: l, d, x, hl, h => by
    simp only [lk] at h
    split at h
    · rename_i e; subst e; simp only [Option.some.injEq] at h; subst h; exact hl.1
    · exact leT_get hl.2 h
theorem leM_get {st : St} : ∀ {l : List (Nat × Obj')} {d : Nat} {x : Obj'}, leM st l → lk l d = some x → lk st.m d = some x
  | [], d, x, _, h => by simp [lk] at h
  | (k, y) :: l, d, x, hl, h => by
    simp only [lk] at h
    split at h
    · rename_i e; subst e; simp only [Option.some.injEq] at h; subst h; exact hl.1
    · exact leM_get hl.2 h
theorem Ent.chk {a b : St} (h : a.n = b.n ∧ leT a b.t ∧ leM a b.m) : Ent a b := Ent.le ⟨h.1, fun _ _ => leT_get h.2.1, fun _ _ => leM_get h.2.2⟩
theorem getD_map {α β : Type} [Inhabited α] {f : α → β} {l : List α} {n : Nat} {d : β} (h : n < l.length) : (l.map f).getD n d = f (l.getD n default) := by
  simp [List.getD_eq_getElem?_getD, List.getElem?_map, List.getElem?_eq_getElem h]
attribute [go_sem] leT leM Value.oneCell'
/-- Numbers as values; lists of them. -/
def iv (n : Int) : SV := .val (.int .i64 n)
def bv (b : Bool) : SV := .val (.bool b)
def ints (l : List Int) : SV := .lst (l.map iv)
attribute [go_sem] iv bv ints
def bytesV (l : List Int) : SV := .lst (l.map b8)
attribute [go_sem] bytesV b8 byteS_map
end Go.Proofs.YtfcojlagmmgagaaDoor.Ab
