/- share: Clean, Sum, Share; the reference's; same. -/
import Derived.Test.YtnkcenafpigmbaaFl1
import Derived.Test.YtnkcenafpigmbaaTy1
import Derived.Test.YtnkcenafpigmbaaTy2
import Derived.Test.YtnkcenafpigmbaaAx2
import Derived.Test.YtnkcenafpigmbaaAx1
namespace Go.Proofs.Ytnkcenafpigmbaa.Ab
open Go.RowKit Go.Proofs.Ytnkcenafpigmbaa.Fl
set_option linter.unusedVariables false
set_option linter.unusedSimpArgs false

theorem does_ext {P : Program} {o : Oper} {st : St} {f : FuncId} {x : Operand} {ts : Array TypeId} {u v : Value} (ho : o.op = .call { callee := .value (.func f), args := #[x], argTypes := ts }) (hx : aval st x = some (.sv (.val u))) (hf : ∀ w, (callFunc f #[u]).run P w = .ok (.value v) w) (hd : st.fitsDst o.dst = true) : Does P o st (st.put o.dst (.sv (.val v))) := by
  refine Does.puts hd fun keep w E a hI => ⟨v, ?_, RepV.val_mk v⟩
  have h1 := (aval_rep hI hx).val
  unfold execOp
  rw [ho]
  have hfe : a.eval (.func f) = .func (.func f) #[] #[] := rfl
  simp [resolve, Deferred.ofValue, invoke, hfe, h1, hf]
/-- A call of a function of the machine's own, that answers at once. -/
theorem OpW.ext {P : Program} {Q : Exit → St → Prop} {ops : Array Oper} {l : List Oper} {k : List Fr} {o : Oper} {st : St} {f : FuncId} {x : Operand} {ts : Array TypeId} {u v : Value} (hf : ∀ w, (callFunc f #[u]).run P w = .ok (.value v) w) (ho : o.op = .call { callee := .value (.func f), args := #[x], argTypes := ts }) (hg : grd ops st o = some true) (hx : aval st x = some (.sv (.val u))) (hd : st.fitsDst o.dst = true)
    (h : Ab.rn P Q ops l k (st.put o.dst (.sv (.val v)))) : OpW P Q ops o l k st := OpW.does (does_ext ho hx hf hd) hg h
def fv (x : Nat) : SV := .val (.float .f64 x)
def fls (l : List Nat) : SV := .lst (l.map fv)
attribute [go_sem] fv fls
theorem bits_run (x : Nat) (w : World) : (callFunc 121 #[.float .f64 x]).run Try.prog w = .ok (.value (.int .u64 x)) w := by
  rw [run_callFunc_extern Try.func121 (by kernel_rfl) (by kernel_rfl) (by kernel_rfl) (e := Extern.MathFloatBits.float64bits) (by kernel_rfl)]
  rfl
theorem frombits_run (n : Int) (w : World) : (callFunc 120 #[.int .u64 n]).run Try.prog w = .ok (.value (.float .f64 n.toNat)) w := by
  rw [run_callFunc_extern Try.func120 (by kernel_rfl) (by kernel_rfl) (by kernel_rfl) (e := Extern.MathFloatBits.float64frombits) (by kernel_rfl)]
  rfl
theorem IsNaN_c (x : Nat) : ACalls Try.prog 86 [fv x] (· = .one (.sv (bv (!fEq .f64 x x)))) := by
  refine ACalls.of_bodyS (fun _ _ => Try.call86 _ _) Try.func86 rfl Try.ntmps86 (by simp) ?_
  refine Tr.ex ?_
  simp [go_sem]
theorem IsInf1_c (x : Nat) : ACalls Try.prog 87 [fv x, iv 1] (· = .one (.sv (bv (fGt .f64 x 9218868437227405311)))) := by
  refine ACalls.of_bodyS (fun _ _ => Try.call87 _ _) Try.func87 rfl Try.ntmps87 (by simp) ?_
  refine Tr.ex ?_
  simp [go_sem]
theorem fE {a b : Nat} {c : Bool} (h : (Ieee.double.order a b == some .eq) = c) : fEq .f64 a b = c := h
theorem fL {a b : Nat} {c : Bool} (h : (Ieee.double.order a b == some .lt) = c) : fLt .f64 a b = c := h
theorem fG {a b : Nat} {c : Bool} (h : (Ieee.double.order a b == some .gt) = c) : fGt .f64 a b = c := h
theorem Clean_c (x : Nat) (hx : x < 18446744073709551616) : ACalls Try.prog 69 [fv x] (· = .one (.sv (fv (cl x)))) := by
  refine ACalls.of_bodyS (fun _ _ => Try.call69 _ _) Try.func69 rfl Try.ntmps69 (by simp) ?_
  refine Tr.ex ?_
  have fN := IsNaN_c x
  have fI := IsInf1_c x
  simp [go_sem]
  refine OpW.fn true fN rfl rfl (by simp [go_sem]) (by rintro _ r rfl; simp [go_sem]) ?_
  rintro r rfl
  rcases cl_order hx with ⟨h1, h2, h3, h4⟩ | ⟨h1, h2, h3, h4⟩ | ⟨h1, h2, h3, h4⟩
  · have e1 : fEq .f64 x x = true := fE (by rw [h3]; rfl)
    have e2 : fLt .f64 x 0 = false := fL (by rw [h4]; rfl)
    have e3 : fEq .f64 x 0 = false := fE (by rw [h4]; rfl)
    have e4 : fGt .f64 x 9218868437227405311 = true := fG (by show (Ieee.double.order x MAX == _) = _; rw [h1]; rfl)
    rw [e4] at fI
    rw [h2]
    simp [go_sem, e1, e2, e3]
    refine OpW.fn true fI rfl rfl (by simp [go_sem]) (by rintro _ r rfl; simp [go_sem]) ?_
    rintro r rfl
    simp [go_sem, MAX]
  · have e1 : fEq .f64 x x = true := fE (by rw [h4]; rfl)
    have e2 : fLt .f64 x 0 = false := fL (by rw [h2]; rfl)
    have e3 : fEq .f64 x 0 = false := fE (by rw [h2]; rfl)
    have e4 : fGt .f64 x 9218868437227405311 = false := fG (by show (Ieee.double.order x MAX == _) = _; simpa using h1)
    rw [e4] at fI
    rw [h3]
    simp [go_sem, e1, e2, e3]
    refine OpW.fn true fI rfl rfl (by simp [go_sem]) (by rintro _ r rfl; simp [go_sem]) ?_
    rintro r rfl
    simp [go_sem]
  · rw [h3]
    cases e1 : fEq .f64 x x with
    | false => simp [go_sem]
    | true =>
      have e5 : (fLt .f64 x 0 || fEq .f64 x 0) = true := by
        rcases h4 with h4 | h4 | h4
        · exfalso
          have : (Ieee.double.order x x == some .eq) = true := e1
          exact h4 (by simpa using this)
        · rw [fL (show (Ieee.double.order x 0 == some .lt) = true by rw [h4]; rfl)]; rfl
        · rw [fE (show (Ieee.double.order x 0 == some .eq) = true by rw [h4]; rfl), Bool.or_true]
      simp [go_sem, e5]
theorem rClean_c (x : Nat) (hx : x < 18446744073709551616) : ACalls Try.prog 106 [fv x] (· = .one (.sv (fv (cl x)))) := by
  refine ACalls.of_bodyS (fun _ _ => Try.call106 _ _) Try.func106 rfl Try.ntmps106 (by simp) ?_
  refine Tr.ex ?_
  rcases cl_order hx with ⟨h1, h2, h3, h4⟩ | ⟨h1, h2, h3, h4⟩ | ⟨h1, h2, h3, h4⟩
  · have e4 : fGt .f64 x 9218868437227405311 = true := fG (by show (Ieee.double.order x MAX == _) = _; rw [h1]; rfl)
    rw [h2]
    simp [go_sem, e4, MAX]
  · have e4 : fGt .f64 x 9218868437227405311 = false := fG (by show (Ieee.double.order x MAX == _) = _; simpa using h1)
    have e2 : fGt .f64 x 0 = true := fG (by rw [h2]; rfl)
    rw [h3]
    simp [go_sem, e4, e2]
  · have e4 : fGt .f64 x 9218868437227405311 = false := fG (by show (Ieee.double.order x MAX == _) = _; simpa using h1)
    have e2 : fGt .f64 x 0 = false := fG (by simpa using h2)
    rw [h3]
    simp [go_sem, e4, e2]
/-! ### Sums -/
def addF (s x : Nat) : Nat := near (vl s + vl x) 0
def sumF (l : List Nat) : Nat := l.foldl (fun s x => cl (addF s (cl x))) 0
theorem sumF_snoc (l : List Nat) (x : Nat) : sumF (l ++ [x]) = cl (addF (sumF l) (cl x)) := by unfold sumF; rw [List.foldl_append]; rfl
theorem sumF_lt (l : List Nat) : sumF l < INF := by
  rcases List.eq_nil_or_concat l with rfl | ⟨r, x, rfl⟩
  · show 0 < INF; decide
  · rw [List.concat_eq_append, sumF_snoc]; exact cl_lt _
theorem addF_lt (s x : Nat) : addF s x < 18446744073709551616 := Nat.lt_of_le_of_lt (near_le _ _) (by decide)
theorem addF_bits {s x : Nat} (hs : s < INF) (hx : x < INF) : floatBits .add .f64 s x = some (addF s x) := add_fin hs hx
theorem Sum_c (l : List Nat) (hl : l.length ≤ 1000000000) (hx : ∀ x ∈ l, x < 18446744073709551616) : ACalls Try.prog 67 [fls l] (· = .one (.sv (fv (sumF l)))) := by
  refine ACalls.of_bodyS (fun _ _ => Try.call67 _ _) Try.func67 rfl Try.ntmps67 (by simp) ?_
  refine Tr.ex ?_
  simp [go_sem]
  refine LoopW.of (fun i : Nat => ⟨19, [(2, .sv (fv 0)), (3, .sv (fv (sumF (l.take i)))), (6, .sv (fls l)), (7, .sv (iv l.length)), (8, .sv (iv i))], []⟩)
    (fun i => i ≤ l.length) (fun i => l.length - i) 0 (by omega) (Ent.chk (by simp [go_sem, sumF])) ?_
  intro i hi
  by_cases hlt : i < l.length
  · have hlt' : (i : Int) < l.length := by omega
    have hw : IntKind.i64.wrap ((i : Int) + 1) = (i : Int) + 1 := by rw [i64w] <;> omega
    obtain ⟨x, hv⟩ : ∃ x, l[i]? = some x := ⟨_, List.getElem?_eq_getElem hlt⟩
    have hs := sumF_snoc (l.take i) x
    rw [show l.take i ++ [x] = l.take (i + 1) by rw [List.take_succ_eq_append_getElem hlt, gE hv]] at hs
    have hsl := sumF_lt (l.take i)
    have hab := addF_bits hsl (cl_lt x)
    generalize hS : sumF (l.take i) = s at *
    generalize hS' : sumF (l.take (i + 1)) = s' at *
    simp [go_sem, hlt, hlt', hv, gE hv]
    refine OpW.fn true (Clean_c x (hx x (List.mem_of_getElem? hv))) rfl rfl (by simp [go_sem]) (by rintro _ r rfl; simp [go_sem]) ?_
    rintro r rfl
    simp [go_sem, hab]
    refine OpW.fn true (Clean_c (addF s (cl x)) (addF_lt _ _)) rfl rfl (by simp [go_sem]) (by rintro _ r rfl; simp [go_sem]) ?_
    rintro r rfl
    simp [go_sem]
    exact ⟨i + 1, by omega, by omega, Ent.chk (by simp [go_sem, hw, hS, hS', hs])⟩
  · have hil : i = l.length := by omega
    subst hil
    simp [go_sem]
end Go.Proofs.Ytnkcenafpigmbaa.Ab
