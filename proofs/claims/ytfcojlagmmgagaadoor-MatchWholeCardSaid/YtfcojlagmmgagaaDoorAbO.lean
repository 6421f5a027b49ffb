/- The abstract layer, part O: regions that draw their order, run by themselves; calls. -/
import Derived.Test.YtfcojlagmmgagaaDoorAbN
namespace Go.Proofs.YtfcojlagmmgagaaDoor.Ab
open Go.RowKit
set_option linter.unusedVariables false
set_option linter.unusedSimpArgs false

mutual
def AV.tags : AV → List Nat
  | .sv _ | .nil => []
  | .own t | .box t _ | .elt t _ _ | .sl t _ => [t]
  | .tup xs | .fnv _ xs | .agg xs => AV.tagsL xs
def AV.tagsL : List AV → List Nat
  | [] => []
  | x :: xs => AV.tags x ++ AV.tagsL xs
end
theorem holds_tags {t : Nat} : ∀ {X : AV}, X.holds t = true → t ∈ X.tags := by
  intro X
  refine AV.rec (motive_1 := fun X => X.holds t = true → t ∈ X.tags) (motive_2 := fun l => AV.holdsL t l = true → t ∈ AV.tagsL l) ?_ ?_ ?_ ?_ ?_ ?_ ?_ ?_ ?_ ?_ ?_ X
  · intro x h; simp [AV.holds] at h
  · intro h; simp [AV.holds] at h
  · intro s h; simp only [AV.holds, beq_iff_eq] at h; simp [AV.tags, h]
  · intro s o h; simp only [AV.holds, beq_iff_eq] at h; simp [AV.tags, h]
  · intro s i o h; simp only [AV.holds, beq_iff_eq] at h; simp [AV.tags, h]
  · intro xs ih h; simp only [AV.holds] at h; simp only [AV.tags]; exact ih h
  · intro f xs ih h; simp only [AV.holds] at h; simp only [AV.tags]; exact ih h
  · intro xs ih h; simp only [AV.holds] at h; simp only [AV.tags]; exact ih h
  · intro s n h; simp only [AV.holds, beq_iff_eq] at h; simp [AV.tags, h]
  · intro h; simp [AV.holdsL] at h
  · intro x xs ihx ihs h
    simp only [AV.holdsL, Bool.or_eq_true] at h
    simp only [AV.tagsL, List.mem_append]
    exact h.imp ihx ihs

section
variable {s st : St} {X Y : AV} {P : Program}
def Agr (s st : St) (X : AV) : Prop := ∀ t, X.holds t = true → lk s.m t = lk st.m t
theorem Agr.own {t : Nat} (h : Agr s st (.own t)) : lk s.m t = lk st.m t := h t (by simp [AV.holds])
theorem Agr.box {t o : Nat} (h : Agr s st (.box t o)) : lk s.m t = lk st.m t := h t (by simp [AV.holds])
theorem Agr.elt {t i o : Nat} (h : Agr s st (.elt t i o)) : lk s.m t = lk st.m t := h t (by simp [AV.holds])
theorem Agr.sl {t n : Nat} (h : Agr s st (.sl t n)) : lk s.m t = lk st.m t := h t (by simp [AV.holds])
theorem live_agr (h : Agr s st X) : X.live (lk s.m) = X.live (lk st.m) := by
  cases X <;> simp only [AV.live]
  · rw [h.own]
  · rw [h.box]
  · rw [h.elt]
  · rw [h.sl]
theorem liveL_agr : ∀ {l : List AV}, (∀ t, AV.holdsL t l = true → lk s.m t = lk st.m t) → l.all (AV.live (lk s.m)) = l.all (AV.live (lk st.m))
  | [], _ => rfl
  | x :: l, h => by
    simp only [List.all_cons]
    rw [live_agr (X := x) (fun t ht => h t (by simp [AV.holdsL, ht])), liveL_agr (fun t ht => h t (by simp [AV.holdsL, ht]))]
theorem cells_agr (h : Agr s st X) : X.cells (lk s.m) = X.cells (lk st.m) := by
  cases X <;> simp only [AV.cells]
  · rw [h.own]
  · rw [h.box]
  · rw [h.elt]
  · rw [liveL_agr (fun t ht => h t (by simpa only [AV.holds] using ht))]
  · rw [h.sl]
theorem ptrCells_agr (h : Agr s st X) : ptrCells s X = ptrCells st X := by
  cases X with
  | box t o => simp only [ptrCells]; rw [h.box]
  | elt t i o => simp only [ptrCells]; rw [h.elt]
  | sv x => cases x <;> rfl
  | _ => rfl
theorem ashift_agr (h : Agr s st X) (n : Nat) : ashift s n X = ashift st n X := by
  cases X with
  | box t o => simp only [ashift]; rw [h.box]
  | elt t i o => simp only [ashift]; rw [h.elt]
  | sv x => cases x <;> rfl
  | _ => rfl
theorem rowOf_agr (h : Agr s st X) : rowOf s X = rowOf st X := by
  cases X with
  | own t => simp only [rowOf]; rw [h.own]
  | sv x => cases x <;> rfl
  | _ => rfl
theorem astoreO_agr (h : Agr s st X) (k : Agr s st Y) (ty : TypeId) : astoreO P s ty X Y = astoreO P st ty X Y := by
  unfold astoreO
  rw [cells_agr k]
  cases X with
  | box t o => simp only; rw [h.box]
  | elt t i o => simp only; rw [h.elt]
  | _ => rfl
theorem caps1_agr : ∀ (l : List Operand), (∀ x ∈ l, aval s x = aval st x) → caps1 s l = caps1 st l
  | [], _ => rfl
  | x :: l, h => by simp only [caps1]; rw [h x List.mem_cons_self, caps1_agr l (fun y hy => h y (List.mem_cons_of_mem _ hy))]
theorem bnd_agr {z : Int} {y : Option Operand} (h : ∀ x ∈ y.toArray, aval s x = aval st x) : bnd s z y = bnd st z y := by
  cases y with
  | none => rfl
  | some y => simp only [bnd]; rw [h y (by simp)]
theorem dltB_agr {b : Builtin} {xs : List Operand} {ts : List TypeId} (hv : ∀ x ∈ xs, aval s x = aval st x) (hm : ∀ x ∈ xs, ∀ X, aval st x = some X → Agr s st X) : dltB P s b xs ts = dltB P st b xs ts := by
  unfold dltB
  split
  · rename_i x ty
    rw [hv x (by simp)]
    cases hX : aval st x with
    | none => rfl
    | some X =>
      have := rowOf_agr (hm x (by simp) X hX)
      cases X with
      | sv z => cases z <;> first | rfl | (rename_i v; cases v <;> first | rfl | (simp only; rw [this]))
      | own t => simp only; rw [this]
      | nil => rfl
      | box _ _ => rfl
      | elt _ _ _ => rfl
      | tup _ => rfl
      | fnv _ _ => rfl
      | agg _ => rfl
      | sl _ _ => rfl
  · rename_i x y t1 t2; rw [hv x (by simp), hv y (by simp)]
  · rename_i x y t1 t2; rw [hv x (by simp), hv y (by simp)]
  · rfl
theorem dlt_agr {o : Oper} (hv : ∀ x ∈ o.op.operands, aval s x = aval st x) (hm : ∀ x ∈ o.op.operands, ∀ X, aval st x = some X → Agr s st X) : dlt P o s = dlt P o st := by
  unfold dlt
  cases ho : o.op with
  | move x => simp only; rw [hv x (by simp [ho, Op.operands])]
  | assign x => simp only; rw [hv x (by simp [ho, Op.operands])]
  | pick c a b =>
    simp only
    have h1 := hv c (by simp [ho, Op.operands])
    have h2 := hv a (by simp [ho, Op.operands])
    have h3 := hv b (by simp [ho, Op.operands])
    unfold av0
    rw [h1, h2, h3]
  | load ty p =>
    simp only
    rw [hv p (by simp [ho, Op.operands])]
    cases hX : aval st p with
    | none => rfl
    | some X =>
      have : aload P s ty X = aload P st ty X := by unfold aload; rw [ptrCells_agr (hm p (by simp [ho, Op.operands]) X hX)]
      simp only [Option.bind_some]
      rw [this]
  | store ty p y =>
    simp only
    rw [hv p (by simp [ho, Op.operands]), hv y (by simp [ho, Op.operands])]
    cases hX : aval st p with
    | none => rfl
    | some X =>
      cases hY : aval st y with
      | none => rfl
      | some Y =>
        cases o.dst with
        | none => simp only; rw [astoreO_agr (hm p (by simp [ho, Op.operands]) X hX) (hm y (by simp [ho, Op.operands]) Y hY)]
        | some d => rfl
  | binOp op t x y ty => simp only; rw [hv x (by simp [ho, Op.operands]), hv y (by simp [ho, Op.operands])]
  | unOp op t x =>
    have := hv x (by simp [ho, Op.operands])
    cases op <;> simp only
    · rw [this]
    · rw [this]
  | convert a b x =>
    simp only
    rw [hv x (by simp [ho, Op.operands])]
    cases hX : aval st x with
    | none => rfl
    | some X =>
      have : convS P s a b X = convS P st a b X := by unfold convS; rw [rowOf_agr (hm x (by simp [ho, Op.operands]) X hX)]
      simp only [Option.bind_some]
      rw [this]
  | extract x i => simp only; rw [hv x (by simp [ho, Op.operands])]
  | fieldAddr ty x f =>
    simp only
    rw [hv x (by simp [ho, Op.operands])]
    cases hX : aval st x with
    | none => rfl
    | some X =>
      cases foff P ty f with
      | none => rfl
      | some n => simp only; rw [ashift_agr (hm x (by simp [ho, Op.operands]) X hX)]
  | nilCheck x =>
    simp only
    rw [hv x (by simp [ho, Op.operands])]
    cases hX : aval st x with
    | none => rfl
    | some X => simp only; rw [ashift_agr (hm x (by simp [ho, Op.operands]) X hX)]
  | indexAddr ty x y =>
    simp only
    rw [hv x (by simp [ho, Op.operands]), hv y (by simp [ho, Op.operands])]
    cases hX : aval st x with
    | none => rfl
    | some X =>
      have hag := hm x (by simp [ho, Op.operands]) X hX
      cases (aval st y).bind AV.int with
      | none => rfl
      | some p =>
        simp only
        unfold idxA
        cases X with
        | own t => simp only; rw [hag.own]
        | sl t n => simp only; rw [hag.sl]
        | sv z => cases z <;> rfl
        | box t o => simp only [ashift_agr hag]
        | elt t i o => simp only [ashift_agr hag]
        | _ => rfl
  | field ty x f => simp only; rw [hv x (by simp [ho, Op.operands])]
  | index ty x y => simp only; rw [hv x (by simp [ho, Op.operands]), hv y (by simp [ho, Op.operands])]
  | slice ty x lo hi mx =>
    cases mx with
    | some m => rfl
    | none =>
      simp only
      have h2 : ∀ z, bnd s z lo = bnd st z lo := fun z => bnd_agr (fun y hy => hv y (by simp only [ho, Op.operands]; simp only [Array.mem_append]; exact .inl (.inl (.inr hy))))
      have h3 : ∀ z, bnd s z hi = bnd st z hi := fun z => bnd_agr (fun y hy => hv y (by simp only [ho, Op.operands]; simp only [Array.mem_append]; exact .inl (.inr hy)))
      rw [hv x (by simp [ho, Op.operands])]
      simp only [h2, h3]
  | makeFunc fn first caps =>
    have := caps1_agr (s := s) (st := st) caps.toList (fun x hx => hv x (by simp only [ho, Op.operands, Array.mem_append]; exact .inr (by simpa using hx)))
    cases fn <;> simp only [this]
  | call c =>
    obtain ⟨callee, args, ts⟩ := c
    cases callee with
    | builtin b =>
      have h2 := dltB_agr (P := P) (b := b) (ts := ts.toList) (s := s) (st := st) (xs := args.toList) (fun x hx => hv x (by simp only [ho, Op.operands, Call.operands, Array.mem_append]; exact .inr (by simpa using hx))) (fun x hx => hm x (by simp only [ho, Op.operands, Call.operands, Array.mem_append]; exact .inr (by simpa using hx)))
      exact h2
    | _ => rfl
  | _ => rfl
end

def usesT (ops : Array Oper) (o : Oper) : List Nat :=
  (o.op.operands.toList.filterMap fun | .tmp d => some d | _ => none) ++ (match o.guard with
    | some (j, _) => ((ops[j]?).bind (·.dst)).toList
    | none => [])
def tagsAll (st : St) (l : List Operand) : List Nat := l.flatMap fun x => match aval st x with | some X => X.tags | none => []
/-- Places are told by kind and size alone. -/
def tagsW (st : St) (x : Operand) : List Nat := match aval st x with
  | some (.own _) | some (.box _ _) => []
  | some X => X.tags
  | none => []
def usesM (st : St) (o : Oper) : List Nat := match o.op with
  | .indexAddr _ x _ => tagsW st x
  | .fieldAddr _ x _ => tagsW st x
  | .move _ => []
  | .assign _ => []
  | op => tagsAll st op.operands.toList
/-- Tags whose kind and size are read. -/
def tagsS (st : St) (x : Operand) : List Nat := match aval st x with
  | some (.own t) | some (.box t _) => [t]
  | _ => []
def usesS (st : St) (o : Oper) : List Nat := match o.op with
  | .indexAddr _ x _ => tagsS st x
  | .fieldAddr _ x _ => tagsS st x
  | _ => []
def ftW (dst : Option Nat) (x : Option AV) : Option (Nat × AV) := match dst, x with | some d, some x => some (d, x) | _, _ => none
def ftM (m : Option (Nat × Obj')) : List (Nat × Option Obj') := match m with | some (k, o) => [(k, some o)] | none => []
def ftH (m : Option (Nat × Obj')) : List Nat := match m with | some (_, .box cs) => AV.tagsL cs | _ => []
theorem holdsL_tags {t : Nat} : ∀ {l : List AV}, AV.holdsL t l = true → t ∈ AV.tagsL l
  | [], h => by simp [AV.holdsL] at h
  | x :: xs, h => by
    simp only [AV.holdsL, Bool.or_eq_true] at h
    simp only [AV.tagsL, List.mem_append]
    exact h.imp holds_tags holdsL_tags
def ftD (ops : Array Oper) (o : Oper) (st : St) (d : Dl) : Ft := ⟨usesT ops o, usesM st o, usesS st o, ftW o.dst d.x, ftM d.m, none, false, ftH d.m⟩
section
variable {P : Program} {ops : Array Oper} {s st : St} {o : Oper}
theorem aval_agr (h : ∀ d ∈ usesT ops o, lk s.t d = lk st.t d) : ∀ x ∈ o.op.operands, aval s x = aval st x := fun x hx => by
  cases x with
  | tmp d =>
    refine h d ?_
    simp only [usesT, List.mem_append, List.mem_filterMap]
    exact .inl ⟨_, by simpa using hx, rfl⟩
  | _ => rfl
theorem agr_of (h : ∀ t ∈ tagsAll st o.op.operands.toList, lk s.m t = lk st.m t) : ∀ x ∈ o.op.operands, ∀ X, aval st x = some X → Agr s st X := fun x hx X hX t ht => by
  refine h t ?_
  simp only [tagsAll, List.mem_flatMap]
  exact ⟨x, by simpa using hx, by rw [hX]; exact holds_tags ht⟩
theorem grd_agr (h : ∀ d ∈ usesT ops o, lk s.t d = lk st.t d) : grd ops s o = grd ops st o := by
  unfold grd
  cases hg : o.guard with
  | none => rfl
  | some p =>
    obtain ⟨j, want⟩ := p
    simp only
    cases hd : (ops[j]?).bind (·.dst) with
    | none => rfl
    | some d =>
      simp only
      rw [h d (by simp [usesT, hg, hd])]
theorem app_upd (st : St) (d : Dl) (ops : Array Oper) (o : Oper) (s : St) : s.app o.dst d = s.upd (ftD ops o st d) := by
  obtain ⟨c, x, m⟩ := d
  unfold St.app St.upd ftD ftW upo ftM
  cases x with
  | none =>
    cases m with
    | none => cases o.dst <;> rfl
    | some p => cases o.dst <;> rfl
  | some x =>
    cases m with
    | none => cases o.dst <;> rfl
    | some p => cases o.dst <;> rfl
theorem astoreO_like {ty : TypeId} {X Y : AV} {t : Nat} {ob : Obj'} (h : astoreO P st ty X Y = some (t, ob)) : OLk (some ob) (lk st.m t) := by
  unfold astoreO at h
  split at h
  case h_2 => cases h
  split at h
  case isFalse => cases h
  split at h
  · split at h
    · rename_i cs hm
      split at h
      · rename_i hle
        simp only [Option.some.injEq, Prod.mk.injEq] at h
        obtain ⟨rfl, rfl⟩ := h
        rw [hm]
        exact setAt_length _ _ _ hle
      · cases h
    · cases h
  · split at h
    · rename_i k xs hm
      split at h
      · split at h
        · simp only [Option.some.injEq, Prod.mk.injEq] at h
          obtain ⟨rfl, rfl⟩ := h
          rw [hm]
          exact ⟨rfl, by simp⟩
        · cases h
      · cases h
    · cases h
  · cases h
theorem dlt_like {d : Dl} {t : Nat} {ob : Obj'} (h : dlt P o st = some d) (hm : d.m = some (t, ob)) : OLk (some ob) (lk st.m t) := by
  have key : ∀ {x : Option Dl}, x = some d → (∀ d', x = some d' → d'.m = none) → False := fun hx h0 => by
    rw [h0 d hx] at hm; cases hm
  unfold dlt at h
  split at h
  all_goals first
    | (rename_i ty p y _
       split at h
       · split at h
         · rename_i q hq
           split at h
           · simp only [Option.some.injEq] at h; subst h
             simp only [Option.some.injEq] at hm; subst hm
             exact astoreO_like hq
           · cases h
         · cases h
       · cases h)
    | (exfalso
       refine key h fun d' h' => ?_
       try simp only [dltB, idxA] at h'
       repeat' split at h'
       all_goals first | (cases h'; done) | (cases h'; rfl) | (obtain ⟨_, _, rfl⟩ := Option.map_eq_some_iff.1 h'; rfl))
theorem ashift_like {n : Nat} {t off : Nat} (h : OLk (lk s.m t) (lk st.m t)) : ashift s n (.box t off) = ashift st n (.box t off) := by
  simp only [ashift]
  cases h1 : lk s.m t with
  | none => rw [h1] at h; cases h2 : lk st.m t with
    | none => rfl
    | some b => rw [h2] at h; exact h.elim
  | some a => rw [h1] at h; cases h2 : lk st.m t with
    | none => rw [h2] at h; cases a <;> exact h.elim
    | some b => rw [h2] at h; cases a <;> cases b <;> first | rfl | exact h.elim
theorem tagsW_agr {x : Operand} {X : AV} (h : ∀ t ∈ tagsW st x, lk s.m t = lk st.m t) (hX : aval st x = some X) (ho : ∀ t, X ≠ .own t) (hb : ∀ t o, X ≠ .box t o) : Agr s st X := fun t ht => by
  refine h t ?_
  unfold tagsW
  rw [hX]
  cases X with
  | own t => exact (ho t rfl).elim
  | box t o => exact (hb t o rfl).elim
  | _ => exact holds_tags ht
theorem dlt_agr' (hT : ∀ x ∈ o.op.operands, aval s x = aval st x) (hM : ∀ t ∈ usesM st o, lk s.m t = lk st.m t) (hL : ∀ t ∈ usesS st o, OLk (lk s.m t) (lk st.m t)) : dlt P o s = dlt P o st := by
  cases ho : o.op with
  | indexAddr ty x y =>
    have hx := hT x (by simp [ho, Op.operands])
    have hy := hT y (by simp [ho, Op.operands])
    simp only [usesM, ho] at hM
    unfold dlt
    rw [ho]
    simp only
    rw [hx, hy]
    cases hX : aval st x with
    | none => rfl
    | some X =>
      cases hY : (aval st y).bind AV.int with
      | none => rfl
      | some p =>
        simp only
        have hother : (∀ t, X ≠ .own t) → (∀ t o, X ≠ .box t o) → idxA P s ty X p.2 = idxA P st ty X p.2 := fun h1 h2 => by
          have hag := tagsW_agr hM hX h1 h2
          unfold idxA
          cases X with
          | own t => exact (h1 t rfl).elim
          | sl t n => simp only; rw [hag.sl]
          | sv z => cases z <;> rfl
          | box t o => exact (h2 t o rfl).elim
          | elt t i o => simp only [ashift_agr hag]
          | _ => rfl
        cases X with
        | own t =>
          simp only [idxA]
          have h := hL t (by simp [usesS, tagsS, ho, hX])
          cases h1 : lk s.m t with
          | none => rw [h1] at h; cases h2 : lk st.m t with
            | none => rfl
            | some b => rw [h2] at h; exact h.elim
          | some a => rw [h1] at h; cases h2 : lk st.m t with
            | none => rw [h2] at h; cases a <;> exact h.elim
            | some b =>
              rw [h2] at h
              cases a with
              | row k xs => cases b with
                | row k' ys => obtain ⟨rfl, hl⟩ := h; cases selem P ty with
                  | none => rfl
                  | some e => simp only [hl]
                | box _ => exact h.elim
              | box _ => cases b with
                | row _ _ => exact h.elim
                | box _ => cases selem P ty <;> rfl
        | box t off => simp only [idxA]; cases aelem P ty with
          | none => rfl
          | some q => simp only [ashift_like (hL t (by simp [usesS, tagsS, ho, hX]))]
        | _ => exact hother (fun _ h => by cases h) (fun _ _ h => by cases h)
  | fieldAddr ty x f =>
    have hx := hT x (by simp [ho, Op.operands])
    simp only [usesM, ho] at hM
    unfold dlt
    rw [ho]
    simp only
    rw [hx]
    cases hX : aval st x with
    | none => rfl
    | some X =>
      cases foff P ty f with
      | none => rfl
      | some n =>
        simp only
        cases X with
        | own t => simp only [ashift]
        | box t off => rw [ashift_like (hL t (by simp [usesS, tagsS, ho, hX]))]
        | _ => rw [ashift_agr (tagsW_agr hM hX (fun _ h => by cases h) (fun _ _ h => by cases h))]
  | move x => unfold dlt; rw [ho]; simp only; rw [hT x (by simp [ho, Op.operands])]
  | assign x => unfold dlt; rw [ho]; simp only; rw [hT x (by simp [ho, Op.operands])]
  | _ => exact dlt_agr hT (agr_of (s := s) (st := st) (o := o) (by rw [ho]; simpa only [usesM, ho] using hM))
theorem loc_dlt {d : Dl} (hg : grd ops st o = some true) (hd : dlt P o st = some d) (hc : d.c) (hf : st.fitsDst o.dst = true) : LocT P ops o st (ftD ops o st d) := ⟨⟨fun _ t x hw => (by
    simp only [ftD, ftM] at hw
    split at hw
    · rename_i k ob hm
      simp only [lk] at hw
      split at hw
      · rename_i e; subst e
        simp only [Option.some.injEq] at hw; subst hw
        exact dlt_like hd hm
      · cases hw
    · cases hw), fun t cs hw d' hh => (by
    simp only [ftD, ftM] at hw
    split at hw
    · rename_i k ob hm
      simp only [lk] at hw
      split at hw
      · simp only [Option.some.injEq] at hw; subst hw
        simp only [ftD, ftH, hm]
        exact holdsL_tags hh
      · cases hw
    · cases hw)⟩, fun s hn hT hM hL _ keep w E a hI N Q hN => by
  have hg' : grd ops s o = some true := by rw [grd_agr hT]; exact hg
  rw [if_pos (grd_run hI hg')]
  have hd' : dlt P o s = some d := by rw [dlt_agr' (aval_agr hT) hM hL]; exact hd
  have := dlt_does hd' hc (by
    cases hdst : o.dst with
    | none => rfl
    | some k => rw [hdst] at hf; simpa [St.fitsDst, hn] using hf)
  rw [app_upd st d ops o] at this
  exact this.wp hI hN⟩
theorem loc_skip (hg : grd ops st o = some false) (hf : st.fitsDst o.dst = true) : LocT P ops o st ⟨usesT ops o, [], [], ftW o.dst (some (.sv (.val undef))), [], none, false, []⟩ := ⟨⟨fun _ t x hw => (by cases hw), fun t cs hw => (by cases hw)⟩, fun s hn hT hM hL _ keep w E a hI N Q hN => by
  have hg' : grd ops s o = some false := by rw [grd_agr hT]; exact hg
  rw [if_neg (by rw [grd_run hI hg']; simp)]
  refine hN _ w E ?_ (Evo.refl _ _ _)
  have := hI.put (dst := o.dst) (x := .sv (.val undef)) (v := undef) (by
    cases hdst : o.dst with
    | none => rfl
    | some k => rw [hdst] at hf; simpa [St.fitsDst, hn] using hf) (RepV.val_mk _)
  have e : s.put o.dst (.sv (.val undef)) = s.upd ⟨usesT ops o, [], [], ftW o.dst (some (.sv (.val undef))), [], none, false, []⟩ := by
    unfold St.put St.upd ftW upo upm
    cases o.dst <;> rfl
  rwa [e] at this⟩

theorem argv_agr : ∀ (l : List Operand), (∀ x ∈ l, aval s x = aval st x) → (∀ x ∈ l, ∀ X, aval st x = some X → Agr s st X) → argv s l = argv st l
  | [], _, _ => rfl
  | x :: l, h, k => by
    simp only [argv]
    rw [h x List.mem_cons_self, argv_agr l (fun y hy => h y (List.mem_cons_of_mem _ hy)) (fun y hy => k y (List.mem_cons_of_mem _ hy))]
    cases hX : aval st x with
    | none => rfl
    | some X =>
      have : X.arg (lk s.m) = X.arg (lk st.m) := arg_agr (k x List.mem_cons_self X hX)
      simp only [Option.bind_some, this]
where
  arg_agr : ∀ {X : AV}, Agr s st X → X.arg (lk s.m) = X.arg (lk st.m) := by
    intro X
    refine AV.rec (motive_1 := fun X => Agr s st X → X.arg (lk s.m) = X.arg (lk st.m)) (motive_2 := fun l => (∀ t, AV.holdsL t l = true → lk s.m t = lk st.m t) → AV.argL (lk s.m) l = AV.argL (lk st.m) l) ?_ ?_ ?_ ?_ ?_ ?_ ?_ ?_ ?_ ?_ ?_ X
    · intro x _; rfl
    · intro _; rfl
    · intro t h; simp only [AV.arg]; rw [h.own]
    · intro t o h; simp only [AV.arg]; rw [h.box]
    · intro t i o h; rfl
    · intro xs _ h; rfl
    · intro f xs ih h; simp only [AV.arg]; rw [ih (fun t ht => h t (by simpa only [AV.holds] using ht))]
    · intro xs _ h; rfl
    · intro t n h; rfl
    · intro _; rfl
    · intro x xs ihx ihs h
      simp only [AV.argL]
      rw [ihx (fun t ht => h t (by simp [AV.holdsL, ht])), ihs (fun t ht => h t (by simp [AV.holdsL, ht]))]
theorem argS_agr : ∀ (l : List Operand), (∀ x ∈ l, aval s x = aval st x) → argS s l = argS st l
  | [], _ => rfl
  | x :: l, h => by simp only [argS]; rw [h x List.mem_cons_self, argS_agr l (fun y hy => h y (List.mem_cons_of_mem _ hy))]
end

/-- Results that are shared alone: they make no tag. -/
def R1.shared : R1 → Bool
  | .own _ _ => false
  | _ => true
theorem impM_shared {f : Nat → Nat} : ∀ (rs : List R1) (i : Nat) (m : List (Nat × Obj')), rs.all R1.shared = true → impM f i rs m = m
  | [], _, _, _ => rfl
  | .sv _ :: rs, i, m, h => by simp only [impM]; exact impM_shared rs (i + 1) m (by simpa [R1.shared] using h)
  | .nil :: rs, i, m, h => by simp only [impM]; exact impM_shared rs (i + 1) m (by simpa [R1.shared] using h)
  | .own _ _ :: rs, i, m, h => by simp [R1.shared] at h
theorem impF_shared {f : Nat → Nat} {st : St} : ∀ (rs : List R1) (i : Nat), rs.all R1.shared = true → impF st f i rs = true
  | [], _, _ => rfl
  | .sv _ :: rs, i, h => by simp only [impF]; exact impF_shared rs (i + 1) (by simpa [R1.shared] using h)
  | .nil :: rs, i, h => by simp only [impF]; exact impF_shared rs (i + 1) (by simpa [R1.shared] using h)
  | .own _ _ :: rs, i, h => by simp [R1.shared] at h

section
variable {P : Program} {ops : Array Oper} {st : St} {o : Oper}
theorem loc_call {f : FuncId} {xs : Array Operand} {ts : Array TypeId} {ys : List SV} {r : RV} (lent : Bool) (hg : grd ops st o = some true) (ho : o.op = .call { callee := .value (.func f), args := xs, argTypes := ts })
    (ha : (if lent = true then argv st xs.toList else argS st xs.toList) = some ys) (hc : ACalls P f ys (· = r)) (hl : lent = true → r.flat) (hs : r.comps.all R1.shared = true) (hf : st.fitsDst o.dst = true) :
    LocT P ops o st ⟨usesT ops o, usesM st o, [], ftW o.dst (some (r.av (tagf (o.dst.getD 0)))), [], none, false, []⟩ := ⟨⟨fun _ t x hw => (by cases hw), fun t cs hw => (by cases hw)⟩, fun s hn hT hM hL _ keep w E a hI N Q hN => by
  have hg' : grd ops s o = some true := by rw [grd_agr hT]; exact hg
  have hv := aval_agr hT
  have hm := agr_of (s := s) (st := st) (o := o) (by rw [ho]; simpa only [usesM, ho] using hM)
  have hops : ∀ x ∈ xs.toList, x ∈ o.op.operands := fun x hx => by
    simp only [ho, Op.operands, Call.operands, Array.mem_append]; exact .inr (by simpa using hx)
  have ha' : (if lent = true then argv s xs.toList else argS s xs.toList) = some ys := by
    rw [argv_agr xs.toList (fun x hx => hv x (hops x hx)) (fun x hx => hm x (hops x hx)), argS_agr xs.toList (fun x hx => hv x (hops x hx))]
    exact ha
  -- through the call by hand: what is behind it is N
  rw [if_pos (grd_run hI hg')]
  have key : ∀ N' : Act → World → Prop, (∀ a' w' E', Inv keep w' E' (s.imp o.dst r) a' → Evo keep w E w' E' → N' a' w') → o.wp P a w N' Q := fun N' hN' => by
    obtain ⟨g', hc1, hc2⟩ := hc
    cases lent with
    | true =>
      have hcall := hc2 w (· < w.heap.size) (xs.map a.eval) ⟨fun b h => h, hI.okl.gw.keep fun b hb => ⟨hI.okl b hb, rfl⟩⟩ (by simpa using argv_rep hI (by simpa using ha'))
      have hrun : (execOp a.eval o).run P w = .ok (.enter g' (xs.map a.eval)) w := by
        unfold execOp
        rw [ho]
        simp [resolve, Deferred.ofValue, Act.eval, invoke, hc1]
      unfold Oper.wp
      rw [hrun, Oper.upon_enter]
      refine hcall.mono ?_
      rintro e w' ⟨r', vs, E1, rfl, rfl, h1, h2⟩
      obtain ⟨E2, q1, q2⟩ := hI.import h1 h2 (dst := o.dst) (by
        cases hdst : o.dst with
        | none => rfl
        | some d =>
          rw [hdst] at hf
          simp only [St.fitsDst, decide_eq_true_eq] at hf
          simp [St.impFresh, impF_shared _ _ hs, hn, hf]) (.inr (hl rfl))
      exact hN' _ _ E2 q1 q2
    | false =>
      have hcall := hc2 w E.ok (xs.map a.eval) hI.okl (by simpa using argS_rep hI (by simpa using ha'))
      have hrun : (execOp a.eval o).run P w = .ok (.enter g' (xs.map a.eval)) w := by
        unfold execOp
        rw [ho]
        simp [resolve, Deferred.ofValue, Act.eval, invoke, hc1]
      unfold Oper.wp
      rw [hrun, Oper.upon_enter]
      refine hcall.mono ?_
      rintro e w' ⟨r', vs, E1, rfl, rfl, h1, h2⟩
      obtain ⟨E2, q1, q2⟩ := hI.import h1 h2 (dst := o.dst) (by
        cases hdst : o.dst with
        | none => rfl
        | some d =>
          rw [hdst] at hf
          simp only [St.fitsDst, decide_eq_true_eq] at hf
          simp [St.impFresh, impF_shared _ _ hs, hn, hf]) (.inl fun b h => h)
      exact hN' _ _ E2 q1 q2
  refine key N fun a' w' E' h1 h2 => hN a' w' E' ?_ h2
  have e : s.imp o.dst r = s.upd ⟨usesT ops o, usesM st o, [], ftW o.dst (some (r.av (tagf (o.dst.getD 0)))), [], none, false, []⟩ := by
    unfold St.imp St.upd ftW upo upm
    cases o.dst with
    | none => rfl
    | some d => simp [impM_shared _ _ _ hs]
  rwa [e] at h1⟩
end

/-! ### The run of a region that draws -/
def RdK (P : Program) (Q : Exit → St → Prop) (D : List Nat) (ops : Array Oper) (l : List Oper) (fs : List Ft) (k : List Fr) (st : St) : Prop :=
  ∃ fs' st', Rd P ops l st fs' st' ∧ chk D ops (fs.reverse ++ fs') = true ∧ kq P Q k .normal st'
def OpD (P : Program) (Q : Exit → St → Prop) (D : List Nat) (ops : Array Oper) (o : Oper) (l : List Oper) (fs : List Ft) (k : List Fr) (st : St) : Prop := RdK P Q D ops (o :: l) fs k st
mutual
def rd (P : Program) (Q : Exit → St → Prop) (D : List Nat) (ops : Array Oper) (l : List Oper) (fs : List Ft) (k : List Fr) (st : St) : Prop :=
  match l with
  | [] => chk D ops fs.reverse = true ∧ nr P Q k st
  | o :: l => match grd ops st o with
    | some b => gdd P Q D b ops o l fs k st
    | none => False
  termination_by (2 * l.length)
  decreasing_by
  all_goals simp only [List.length_cons]
  all_goals omega
def gdd (P : Program) (Q : Exit → St → Prop) (D : List Nat) (b : Bool) (ops : Array Oper) (o : Oper) (l : List Oper) (fs : List Ft) (k : List Fr) (st : St) : Prop :=
  match b with
  | true => match dlt P o st with
      | some d => (d.c ∧ st.fitsDst o.dst = true) ∧ rd P Q D ops l (ftD ops o st d :: fs) k (st.app o.dst d)
      | none => OpD P Q D ops o l fs k st
  | false => st.fitsDst o.dst = true ∧ rd P Q D ops l (⟨usesT ops o, [], [], ftW o.dst (some (.sv (.val undef))), [], none, false, []⟩ :: fs) k (st.put o.dst (.sv (.val undef)))
  termination_by (2 * l.length + 1)
end
theorem rd_sound {P : Program} {Q : Exit → St → Prop} {D : List Nat} {ops : Array Oper} {k : List Fr} : ∀ (l : List Oper) (fs : List Ft) (st : St), rd P Q D ops l fs k st → RdK P Q D ops l fs k st
  | [], fs, st, h => by
    simp only [rd] at h
    exact ⟨[], st, .nil st, by simpa using h.1, (run_sound (ksz k + 1)).2.1 k st (by omega) h.2⟩
  | o :: l, fs, st, h => by
    simp only [rd] at h
    split at h
    case h_2 => exact h.elim
    rename_i b hg
    cases b with
    | true =>
      simp only [gdd] at h
      split at h
      · rename_i d hd
        obtain ⟨fs', st', h1, h2, h3⟩ := rd_sound l _ _ h.2
        rw [app_upd st d ops o] at h1
        exact ⟨_ :: fs', st', .cons (loc_dlt hg hd h.1.1 h.1.2) h1, by simpa using h2, h3⟩
      · exact h
    | false =>
      simp only [gdd] at h
      obtain ⟨fs', st', h1, h2, h3⟩ := rd_sound l _ _ h.2
      have e : st.put o.dst (.sv (.val undef)) = st.upd ⟨usesT ops o, [], [], ftW o.dst (some (.sv (.val undef))), [], none, false, []⟩ := by
        unfold St.put St.upd ftW upo upm
        cases o.dst <;> rfl
      rw [e] at h1
      exact ⟨_ :: fs', st', .cons (loc_skip hg h.1) h1, by simpa using h2, h3⟩
theorem DrawW.rd {P : Program} {Q : Exit → St → Prop} {id : Nat} {ops : Array Oper} {k : List Fr} {st : St} (hm : P.follows .mixedOrders = true) (h : Ab.rd P Q [] ops ops.toList [] k st) : DrawW P Q id ops k st := by
  obtain ⟨fs', st', h1, h2, h3⟩ := rd_sound _ _ _ h
  exact Tr.draw (Ds := []) (fun d hd => by cases hd) hm h1 (by simpa using h2) h3
theorem gdd.part {P : Program} {Q : Exit → St → Prop} {D : List Nat} {x : Bool} {ops : Array Oper} {o : Oper} {l : List Oper} {fs : List Ft} {k : List Fr} {st : St} (h1 : x = true → gdd P Q D true ops o l fs k st) (h2 : x = false → gdd P Q D false ops o l fs k st) : gdd P Q D x ops o l fs k st := by
  cases x with
  | true => exact h1 rfl
  | false => exact h2 rfl
/-- A call within. -/
theorem OpD.call {P : Program} {Q : Exit → St → Prop} {D : List Nat} {ops : Array Oper} {o : Oper} {l : List Oper} {fs : List Ft} {k : List Fr} {st : St} {f : FuncId} {xs : Array Operand} {ts : Array TypeId} {ys : List SV} {r : RV} (lent : Bool)
    (hc : ACalls P f ys (· = r)) (ho : o.op = .call { callee := .value (.func f), args := xs, argTypes := ts }) (hg : grd ops st o = some true)
    (ha : (if lent = true then argv st xs.toList else argS st xs.toList) = some ys) (hl : lent = true → r.flat) (hs : r.comps.all R1.shared = true) (hf : st.fitsDst o.dst = true)
    (h : Ab.rd P Q D ops l (⟨usesT ops o, usesM st o, [], ftW o.dst (some (r.av (tagf (o.dst.getD 0)))), [], none, false, []⟩ :: fs) k (st.put o.dst (r.av (tagf (o.dst.getD 0))))) : OpD P Q D ops o l fs k st := by
  obtain ⟨fs', st', h1, h2, h3⟩ := rd_sound _ _ _ h
  have e : st.put o.dst (r.av (tagf (o.dst.getD 0))) = st.upd ⟨usesT ops o, usesM st o, [], ftW o.dst (some (r.av (tagf (o.dst.getD 0)))), [], none, false, []⟩ := by
    unfold St.put St.upd ftW upo upm
    cases o.dst <;> rfl
  rw [e] at h1
  exact ⟨_ :: fs', st', .cons (loc_call lent hg ho ha hc hl hs hf) h1, by simpa using h2, h3⟩
/-- A call, in a region that draws nothing. -/
theorem OpW.call {P : Program} {Q : Exit → St → Prop} {ops : Array Oper} {o : Oper} {l : List Oper} {k : List Fr} {st : St} {f : Operand} {xs : Array Operand} {ts : Array TypeId} {g : FuncId} {caps ys : List SV} {R : RV → Prop} (lent : Bool)
    (hc : ACalls P g (ys ++ caps) R) (ho : o.op = .call { callee := .value f, args := xs, argTypes := ts }) (hg : grd ops st o = some true) (hf : calle st lent f = some (g, caps))
    (ha : (if lent = true then argv st xs.toList else argS st xs.toList) = some ys) (hl : lent = true → ∀ r, R r → r.flat) (h : ∀ r, R r → st.impFresh o.dst r = true ∧ Ab.rn P Q ops l k (st.imp o.dst r)) : OpW P Q ops o l k st :=
  Rn.call lent hg ho hf ha hc hl fun r hr => ⟨(h r hr).1, RnK.rn (h r hr).2⟩
/-- A call of a function by its name. -/
theorem OpW.fn {P : Program} {Q : Exit → St → Prop} {ops : Array Oper} {o : Oper} {l : List Oper} {k : List Fr} {st : St} {f : FuncId} {xs : Array Operand} {ts : Array TypeId} {ys : List SV} {R : RV → Prop} (lent : Bool)
    (hc : ACalls P f ys R) (ho : o.op = .call { callee := .value (.func f), args := xs, argTypes := ts }) (hg : grd ops st o = some true)
    (ha : (if lent = true then argv st xs.toList else argS st xs.toList) = some ys) (hl : lent = true → ∀ r, R r → r.flat) (h : ∀ r, R r → st.impFresh o.dst r = true ∧ Ab.rn P Q ops l k (st.imp o.dst r)) : OpW P Q ops o l k st :=
  OpW.call (caps := []) lent (by simpa using hc) ho hg rfl ha hl h
end Go.Proofs.YtfcojlagmmgagaaDoor.Ab
