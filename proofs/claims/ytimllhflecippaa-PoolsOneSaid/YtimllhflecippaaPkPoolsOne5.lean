/- The texts of the law PoolsOne, without what it does not use, laid together: part 5. -/
import Derived.Test.YtimllhflecippaaPkPoolsOne1
import Derived.Test.YtimllhflecippaaPkPoolsOne2
import Derived.Test.YtimllhflecippaaPkPoolsOne3
import Derived.Test.YtimllhflecippaaPkPoolsOne4
import Derived.Test.YtimllhflecippaaProg
import Derived.WalkSpells
import Derived.Below
import Derived.Deep.Draws
import Derived.Deep.AppendLies
import Derived.Maps.AppendAt
import Derived.OwnWalk
import Derived.Laws.BytesArg
import Derived.Laws.MakeOwn
import Derived.Laws.OwnMore
import Derived.Deep.OwnRows
import Derived.Tactics
import Derived.Lib.ConvBytes
import Derived.Laws.Slices
import Derived.WalkKit
import Derived.KernelRfl
import Derived.RowKit3
import Derived.Deep.LoopGhost
import Derived.Deep.QuietTactic
import Derived.BigQuiet
import Derived.WideLaws
import Derived.Deep.DeepCutAuto
import Derived.Deep.CutBlock
import Derived.Deep.RegionHeld3
import Derived.Laws.Rows
import Derived.Lib.AppendStr
import Derived.ArgAppend
import Derived.Laws.IdiomCopy
import Derived.RowKit
import Derived.OrdersHeld
import Derived.Laws.BitsLemmas
import Derived.Laws.StructEq
import Derived.Laws.Strings

section
namespace Go.Proofs.Ytimllhflecippaa.PoolQ
open Go.RowKit Go.Proofs.YtimllhflecippaaW.PrintWords Go.Proofs.YtimllhflecippaaW.PrintMore Go.Proofs.Ytimllhflecippaa.F Go.Proofs.Ytimllhflecippaa.Pk Go.Proofs.Ytimllhflecippaa.StepP Go.Proofs.Ytimllhflecippaa.StepQ Go.Proofs.Ytimllhflecippaa.StepT Go.Proofs.Ytimllhflecippaa.PoolP
set_option linter.unusedSimpArgs false
set_option linter.unusedVariables false

theorem lg_one (p : List St) : lg [p] 0 = p := by rw [lg_eq [p] 0 (by simp)]; rfl
theorem ng_one (n : Int) : ng [n] 0 = n := by
  have := rd_eq [n] 0 (by simp)
  exact this
theorem one_iff {P : Nat → Prop} (p : List St) : (∀ i, i < [p].length → P i) ↔ P 0 := ⟨fun h => h 0 (by simp), fun h i hi => by
  have : i = 0 := by simp at hi; exact hi
  subst this; exact h⟩
theorem pr_one (p : List St) : PRight [p] ↔ Right p := by
  unfold PRight
  rw [one_iff p, lg_one]
  simp
theorem short_one {p : List St} (h : p.length ≤ 100) : Short [p] := ⟨by simp, (one_iff (P := fun i => (lg [p] i).length ≤ 100) p).2 (by rw [lg_one]; exact h)⟩
theorem ptake_one {p q : List St} {f t n e : Int} (hl : p.length ≤ 100) (h : Ev (fun k => step_Take.f k p f t n) (q, e)) (h1 : e ≠ 0 → q = p) (h2 : ¬ Right p → e = 1) : Ev (fun k => pools_Take.f k [p] f t [n]) ([q], e) := by
  have hs := short_one hl
  have fin : ∀ r : List (List St) × Int, Ev (fun k => pools_each_at_step_Take.f k [p] f t [n]) r → Ev (fun k => pools_Take.f k [p] f t [n]) r := fun r h => Ev.bind h (Ev.now _)
  refine fin _ ?_
  by_cases c0 : Right p
  · refine Ev.bind (pright_yes ((pr_one p).2 c0)) ?_
    simp only [if_true, List.length_singleton, bne_self_eq_false]
    have e1 : ∀ k, pools_each_at_step_Take.l0 (k + 1) [p] f t [n] [] [p] 1 0 = (step_Take.f k p f t n).bind fun bt => if bt.2 = 0 then pools_each_at_step_Take.l0 k [p] f t [n] [bt.1] [p] 1 1 else (pools_clone.f k [p]).bind fun t => some (t, bt.2) := by
      intro k
      have a1 : rd_L2 [p] 0 = p := rfl
      have a2 : rd [n] 0 = n := rfl
      have a3 : wrap64 ((0 : Int) + 1) = 1 := w64 (by omega) (by omega)
      simp only [pools_each_at_step_Take.l0, List.length_singleton, List.length_nil, List.nil_append, a1, a2, a3]
      simp
    refine Ev.step (f := fun k => pools_each_at_step_Take.l0 k [p] f t [n] [] [p] 1 0) (fun k => ?_) (Ev.step e1 (Ev.bind h ?_))
    · simp only [pools_each_at_step_Take.j0, Bool.false_eq_true, if_false]; rfl
    · by_cases he : e = 0
      · simp only [if_pos he]
        refine Ev.step (f := fun _ => some _) (fun k => ?_) (Ev.now _)
        simp only [pools_each_at_step_Take.l0]
        rw [if_neg (by decide), he]
      · simp only [if_neg he]
        rw [h1 he]
        exact Ev.bind (clone_ev hs) (Ev.now _)
  · have he := h2 c0
    have hq := h1 (by rw [he]; decide)
    rw [he, hq]
    refine Ev.bind (pright_no (fun h => c0 ((pr_one p).1 h))) ?_
    simp only [Bool.false_eq_true, if_false]
    refine Ev.step (f := fun k => (pools_clone.f k [p]).bind fun t => some (t, 1)) (fun k => ?_) (Ev.bind (clone_ev hs) (Ev.now _))
    simp only [pools_each_at_step_Take.j0, if_true]
theorem take_any (p : List St) (f t n : Int) (hl : p.length ≤ 100) : ∃ q e, Ev (fun k => step_Take.f k p f t n) (q, e) ∧ Ev (fun k => pools_Take.f k [p] f t [n]) ([q], e) ∧ (¬ Right p → e = 1) ∧ q.length ≤ 1024 := by
  rcases take_cases p f t n (by omega) with ⟨a, h⟩ | ⟨a, b, h⟩ | ⟨a, b, h⟩
  · exact ⟨p, 1, h, ptake_one hl h (fun _ => rfl) (fun _ => rfl), fun _ => rfl, by omega⟩
  · exact ⟨p, 5, h, ptake_one hl h (fun _ => rfl) (fun hn => absurd a.1.1 hn), fun hn => absurd a.1.1 hn, by omega⟩
  · exact ⟨_, 0, h, ptake_one hl h (fun h => absurd rfl h) (fun hn => absurd a.1.1 hn), fun hn => absurd a.1.1 hn, by
      have := chg_len a.1.1.toNorm (f := f) (t := t) (n := -n) a.1.2.1 a.1.2.2.1
      omega⟩
theorem pfits_one {p : List St} {long n x : Int} : PFits [p] long [n] x ↔ Fits p long n x := by
  unfold PFits
  rw [one_iff (P := fun i => Fits (lg [p] i) long (ng [n] i) x) p, lg_one, ng_one]
theorem pok_one {p : List St} {f long n : Int} : POk [p] f long [n] ↔ FirstOk p f long n := by
  unfold POk Goods
  rw [one_iff (P := fun i => FirstOk (lg [p] i) f long (ng [n] i)) p, lg_one, ng_one, pr_one]
  exact ⟨fun h => h.2, fun h => ⟨⟨h.1, by simp⟩, h⟩⟩
theorem first_any (p : List St) (f long n : Int) : ∃ r, Ev (fun k => step_First.f k p f long n) r ∧ Ev (fun k => pools_First.f k [p] f long [n]) r := by
  obtain ⟨r, hr, hp⟩ := pfirst_ev [p] f long [n]
  by_cases c : FirstOk p f long n
  · obtain ⟨r', hr', hp'⟩ := first_yes c
    have : FirstIs p f long n r := by
      rcases hp with ⟨e, h⟩ | ⟨t, e, h0, h1, h2, h3, h4⟩
      · exact .inl ⟨e, fun x a b hx => h (pok_one.2 c) x a b (pfits_one.2 hx)⟩
      · exact .inr ⟨t, e, h1, h2, pfits_one.1 h3, fun x a b hx => h4 x a b (pfits_one.2 hx)⟩
    rw [this.uniq hp'] at hr
    exact ⟨r', hr', hr⟩
  · rcases hp with ⟨e, h⟩ | ⟨t, e, h0, _⟩
    · rw [e] at hr
      exact ⟨_, first_no c, hr⟩
    · exact absurd (pok_one.1 h0) c
theorem at_any {p : List St} (h : Right p) (t : Int) : ∃ v, Ev (fun k => step_At.f k p t) v ∧ Ev (fun k => pools_At.f k [p] t) [v] := by
  refine ⟨tell p t, tell_ev h t, ?_⟩
  have := pat_ev ((pr_one p).2 h) t
  have e : (mk [p].length fun j => tell (lg [p] j) t) = [tell p t] := by
    simp only [mk, List.length_singleton, List.range_one, List.map_cons, List.map_nil, lg_one]
  rwa [e] at this
theorem at_none {p : List St} (h : ¬ Right p) (t : Int) : Ev (fun k => pools_At.f k [p] t) [] := by
  refine Ev.bind (pright_no (fun h' => h ((pr_one p).1 h'))) ?_
  simp only [Bool.false_eq_true, if_false]
  exact Ev.now _
end Go.Proofs.Ytimllhflecippaa.PoolQ
end
