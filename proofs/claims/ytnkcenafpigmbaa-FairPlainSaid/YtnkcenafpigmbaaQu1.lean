/- Jobs: job.Right, needs, times; the reference's. -/
import Derived.Test.YtnkcenafpigmbaaGr1
namespace Go.Proofs.Ytnkcenafpigmbaa.Ab
open Go.RowKit
set_option linter.unusedVariables false
set_option linter.unusedSimpArgs false

structure Job where
  id : Int
  spec : Spec
  after : List Int
  state : Int
  added : Int
  began : Int
  ended : Int
  deriving Inhabited
def jobCells (j : Job) : List SV := [iv j.id, iv j.spec.nodes, iv j.spec.cores, iv j.spec.gpus, sv' j.spec.tag, bv j.spec.whole, iv j.spec.long, iv j.spec.prio, ints j.after, iv j.state, iv j.added, iv j.began, iv j.ended]
def jobSV (j : Job) : SV := .agg (jobCells j)
def jobs (l : List Job) : SV := .lst (l.map jobSV)
attribute [go_sem] jobSV jobCells jobs
def JobOk (j : Job) : Prop := (Lit.int .i64 j.id).wf = true ∧ SpecOk j.spec ∧ (j.after.length * 8 ≤ 140737488351232 ∧ j.after.length ≤ maxLen ∧ ∀ x ∈ j.after, (Lit.int .i64 x).wf = true) ∧ (Lit.int .i64 j.state).wf = true ∧ (Lit.int .i64 j.added).wf = true ∧ (Lit.int .i64 j.began).wf = true ∧ (Lit.int .i64 j.ended).wf = true
theorem JobOk_mk {p : Int × Spec × List Int × Int × Int × Int × Int × Unit} (h : (Lit.int .i64 p.1).wf = true ∧ SpecOk p.2.1 ∧ (p.2.2.1.length * 8 ≤ 140737488351232 ∧ p.2.2.1.length ≤ maxLen ∧ ∀ x ∈ p.2.2.1, (Lit.int .i64 x).wf = true) ∧ (Lit.int .i64 p.2.2.2.1).wf = true ∧ (Lit.int .i64 p.2.2.2.2.1).wf = true ∧ (Lit.int .i64 p.2.2.2.2.2.1).wf = true ∧ (Lit.int .i64 p.2.2.2.2.2.2.1).wf = true ∧ True) :
    JobOk ⟨p.1, p.2.1, p.2.2.1, p.2.2.2.1, p.2.2.2.2.1, p.2.2.2.2.2.1, p.2.2.2.2.2.2.1⟩ := ⟨h.1, h.2.1, h.2.2.1, h.2.2.2.1, h.2.2.2.2.1, h.2.2.2.2.2.1, h.2.2.2.2.2.2.1⟩
/-- Sizes that the code can walk. -/
def JobW (j : Job) : Prop := j.spec.tag.size ≤ 140737488351232 ∧ j.after.length ≤ 140737488355
def Jobs (l : List Job) : Prop := ∀ j ∈ l, JobW j
def isWhen (t : Int) : Bool := decide (0 ≤ t) && decide (t ≤ 4611686018427387904)
theorem wRight_c (t : Int) : ACalls Try.prog 55 [iv t] (· = .one (.sv (bv (isWhen t)))) := by
  refine ACalls.of_bodyS (fun _ _ => Try.call55 _ _) Try.func55 rfl Try.ntmps55 (by simp) ?_
  refine Tr.ex ?_
  unfold isWhen
  by_cases h : 0 ≤ t <;> simp [go_sem, h]
theorem rtime_c (t : Int) : ACalls Try.prog 72 [iv t] (· = .one (.sv (bv (isWhen t)))) := by
  refine ACalls.of_bodyS (fun _ _ => Try.call72 _ _) Try.func72 rfl Try.ntmps72 (by simp) ?_
  refine Tr.ex ?_
  unfold isWhen
  by_cases h : 0 ≤ t <;> simp [go_sem, h]
/-- Do the numbers rise from one, below another? -/
def risesF (id last : Int) : List Int → Bool
  | [] => true
  | x :: r => decide (last < x) && decide (x < id) && risesF id x r
theorem risesF_cons (id last x : Int) (r : List Int) : risesF id last (x :: r) = (decide (last < x) && decide (x < id) && risesF id x r) := rfl
theorem risesF_nil (id last : Int) : risesF id last [] = true := rfl
def isNeeds (id : Int) (a : List Int) : Bool := decide (a.length ≤ 16) && risesF id 0 a
theorem needs_c (j : Job) (hj : JobW j) : ACalls Try.prog 75 [jobSV j] (· = .one (.sv (bv (isNeeds j.id j.after)))) := by
  refine ACalls.of_bodyS (fun _ _ => Try.call75 _ _) Try.func75 rfl Try.ntmps75 (by simp) ?_
  refine Tr.ex ?_
  unfold isNeeds
  have hal := hj.2
  by_cases h1 : j.after.length ≤ 16
  case neg =>
    have h1' : 16 < (j.after.length : Int) := by omega
    simp [go_sem, h1, h1']
  have h1' : ¬ 16 < (j.after.length : Int) := by omega
  have hd : decide (j.after.length ≤ 16) = true := by simpa using h1
  rw [hd]
  simp [go_sem, h1']
  refine LoopW.of (fun z : Nat × Int => ⟨28, [(1, .box 1 0), (2, .sv (bv false)), (3, .sv (iv z.2)), (11, .sv (ints j.after)), (12, .sv (iv j.after.length)), (13, .sv (iv z.1))], [(1, .box ((jobCells j).map .sv))]⟩)
    (fun z => z.1 ≤ j.after.length ∧ risesF j.id z.2 (j.after.drop z.1) = risesF j.id 0 j.after) (fun z => j.after.length - z.1) (0, 0) ⟨by simp, by simp⟩ (Ent.chk (by simp [go_sem])) ?_
  rintro ⟨i, last⟩ ⟨hi, hr⟩
  simp only at hi hr ⊢
  by_cases hlt : i < j.after.length
  · have hlt' : (i : Int) < j.after.length := by omega
    have hw : IntKind.i64.wrap ((i : Int) + 1) = (i : Int) + 1 := by rw [i64w] <;> omega
    obtain ⟨x, hx⟩ : ∃ x, j.after[i]? = some x := ⟨_, List.getElem?_eq_getElem hlt⟩
    have hdr : j.after.drop i = x :: j.after.drop (i + 1) := by rw [List.drop_eq_getElem_cons hlt, gE hx]
    rw [hdr, risesF_cons] at hr
    by_cases c1 : x ≤ last
    · have : decide (last < x) = false := by simp; omega
      rw [this] at hr
      simp only [Bool.false_and] at hr
      rw [← hr]
      simp [go_sem, hlt, hlt', hx, gE hx, c1]
    · have e1 : decide (last < x) = true := by simp; omega
      by_cases c2 : j.id ≤ x
      · have : decide (x < j.id) = false := by simp; omega
        rw [e1, this] at hr
        simp only [Bool.and_false, Bool.false_and] at hr
        rw [← hr]
        simp [go_sem, hlt, hlt', hx, gE hx, c1, c2]
      · have e2 : decide (x < j.id) = true := by simp; omega
        rw [e1, e2] at hr
        simp only [Bool.and_self, Bool.true_and] at hr
        simp [go_sem, hlt, hlt', hx, gE hx, c1, c2]
        exact ⟨i + 1, x, ⟨by omega, hr⟩, by omega, Ent.chk (by simp [go_sem, hw])⟩
  · have hil : i = j.after.length := by omega
    subst hil
    rw [List.drop_length, risesF_nil] at hr
    rw [← hr]
    simp [go_sem]
def beganB (j : Job) : Bool := isWhen j.began && decide (j.added ≤ j.began)
def endedB (j : Job) : Bool := isWhen j.ended && decide (max j.added j.began ≤ j.ended)
def isTimes (j : Job) : Bool :=
  if j.state = 0 ∨ j.state = 1 then decide (j.began = 0) && decide (j.ended = 0)
  else if j.state = 2 then beganB j && decide (j.ended = 0)
  else if j.state = 3 ∨ j.state = 4 then beganB j && endedB j
  else if j.state = 5 then (beganB j || decide (j.began = 0)) && endedB j
  else decide (j.state = 6) && decide (j.began = 0) && endedB j
def isJob (j : Job) : Bool := decide (1 ≤ j.id) && decide (j.id ≤ 1073741824) && isSpec j.spec && isNeeds j.id j.after && isWhen j.added && isTimes j
end Go.Proofs.Ytnkcenafpigmbaa.Ab
