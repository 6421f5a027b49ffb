/- Layer 4, plainly: what pools' functions answer: Right, At, and that the law is awake. -/
import Derived.Test.YtimllhflecippaaF5
import Derived.Test.YtimllhflecippaaF6
import Derived.Test.YtimllhflecippaaF2
import Derived.Test.YtimllhflecippaaF13
import Derived.Test.YtimllhflecippaaStepP
namespace Go.Proofs.Ytimllhflecippaa.PoolP
open Go.RowKit Go.Proofs.YtimllhflecippaaW.PrintWords Go.Proofs.YtimllhflecippaaW.PrintMore Go.Proofs.Ytimllhflecippaa.F Go.Proofs.Ytimllhflecippaa.Pk Go.Proofs.Ytimllhflecippaa.StepP Go.Proofs.Ytimllhflecippaa.StepQ
set_option linter.unusedSimpArgs false
set_option linter.unusedVariables false

theorem awake_ev : Ev (fun k => bailiwicklaw04_awake.f k) true := Ev.of bailiwicklaw04_awake.mono (k := 60) (by decide +kernel)
abbrev lg (L : List (List St)) (i : Nat) : List St := rd_L2 L (i : Int)
theorem lg_eq (L : List (List St)) (i : Nat) (h : i < L.length) : lg L i = L[i] := by
  show L.getD (i : Int).toNat _ = _
  rw [List.getD_eq_getElem?_getD]; simp [h]
theorem rd_eq (n : List Int) (i : Nat) (h : i < n.length) : rd n (i : Int) = n[i] := by
  rw [rd_nat, List.getD_eq_getElem?_getD, List.getElem?_eq_getElem h]; rfl
def PRight (L : List (List St)) : Prop := 1 ≤ L.length ∧ L.length ≤ 4 ∧ ∀ i, i < L.length → Right (lg L i)
theorem idx_loop (L : List (List St)) (hl : L.length ≤ 4) : ∀ (d i : Nat), L.length - i = d → i ≤ L.length → ∃ r : Int, Ev (fun k => slices_IndexFunc_api_Step_api_Step__at_pools_Right_1.l0 k L (L.length : Int) (i : Int)) r ∧ (0 ≤ r ↔ ¬ ∀ j, i ≤ j → j < L.length → Right (lg L j))
  | 0, i, hd, hi => by
    refine ⟨-1, Ev.step (f := fun _ => some (-1)) (fun k => ?_) (Ev.now _), ⟨fun h => by omega, fun h => absurd (fun j h1 h2 => by omega) h⟩⟩
    simp only [slices_IndexFunc_api_Step_api_Step__at_pools_Right_1.l0]
    rw [if_neg (by omega)]
  | d + 1, i, hd, hi => by
    have hlt : i < L.length := by omega
    have q1 : (i : Int) < (L.length : Int) := by omega
    have q2 : (0 : Int) ≤ (i : Int) := by omega
    by_cases c : Right (lg L i)
    · obtain ⟨r, hev, hr⟩ := idx_loop L hl d (i + 1) (by omega) (by omega)
      refine ⟨r, Ev.step (f := fun k => (step_Right.f k (lg L i)).bind fun t => if (!t) = true then some (i : Int) else slices_IndexFunc_api_Step_api_Step__at_pools_Right_1.l0 k L (L.length : Int) ((i + 1 : Nat) : Int)) (fun k => ?_) (Ev.bind (right_yes c) ?_), ?_⟩
      · simp only [slices_IndexFunc_api_Step_api_Step__at_pools_Right_1.l0, if_pos q1, if_pos q2, pools_Right_1.f, Option.bind_assoc, Option.bind_some, nx i (by omega)]
      · simp only [Bool.not_true, Bool.false_eq_true, if_false]; exact hev
      · rw [hr, all_step (P := fun j => Right (lg L j)) hlt]
        exact ⟨fun a b => a b.2, fun a b => a ⟨c, b⟩⟩
    · refine ⟨(i : Int), Ev.step (f := fun k => (step_Right.f k (lg L i)).bind fun t => if (!t) = true then some (i : Int) else slices_IndexFunc_api_Step_api_Step__at_pools_Right_1.l0 k L (L.length : Int) ((i + 1 : Nat) : Int)) (fun k => ?_) (Ev.bind (right_no c) ?_), ⟨fun _ a => c (a i (by omega) hlt), fun _ => by omega⟩⟩
      · simp only [slices_IndexFunc_api_Step_api_Step__at_pools_Right_1.l0, if_pos q1, if_pos q2, pools_Right_1.f, Option.bind_assoc, Option.bind_some, nx i (by omega)]
      · simp only [Bool.not_false, if_true]; exact Ev.now _
theorem pright_ev (L : List (List St)) (b : Bool) (hb : b = true ↔ PRight L) : Ev (fun k => pools_Right.f k L) b := by
  by_cases c1 : (L.length : Int) ≥ 1
  · by_cases c2 : (L.length : Int) ≤ 4
    · obtain ⟨r, hev, hr⟩ := idx_loop L (by omega) L.length 0 (by omega) (by omega)
      refine Ev.congr (f := fun k => (slices_IndexFunc_api_Step_api_Step__at_pools_Right_1.f k L).bind fun r => some (!decide (r ≥ 0))) (fun k => ?_) (Ev.bind hev ?_)
      · simp only [pools_Right.f, if_pos c1, if_pos c2, slices_ContainsFunc_api_Step_api_Step__at_pools_Right_1.f, Option.bind_assoc, Option.bind_some]
      · have : (!decide (r ≥ 0)) = b := by
          by_cases h : PRight L
          · rw [bool_true hb h, decide_eq_false (fun h' => (hr.1 h') (fun j _ hj => h.2.2 j hj))]; rfl
          · rw [bool_false hb h, decide_eq_true (hr.2 (fun h' => h ⟨by omega, by omega, fun i hi => h' i (by omega) hi⟩))]; rfl
        rw [this]
        exact Ev.now _
    · rw [bool_false hb (fun h => by have := h.2.1; omega)]
      refine Ev.congr (f := fun _ => some false) (fun k => ?_) (Ev.now _)
      simp only [pools_Right.f, if_pos c1, if_neg c2]
  · rw [bool_false hb (fun h => by have := h.1; omega)]
    refine Ev.congr (f := fun _ => some false) (fun k => ?_) (Ev.now _)
    simp only [pools_Right.f, if_neg c1]
theorem pright_yes {L : List (List St)} (h : PRight L) : Ev (fun k => pools_Right.f k L) true := pright_ev L true ⟨fun _ => h, fun _ => rfl⟩
theorem pright_no {L : List (List St)} (h : ¬ PRight L) : Ev (fun k => pools_Right.f k L) false := pright_ev L false ⟨fun h' => Bool.noConfusion h', fun h' => absurd h' h⟩
/-- A list made index by index. -/
def mk {α : Type} (n : Nat) (f : Nat → α) : List α := (List.range n).map f
theorem mk_len {α : Type} (n : Nat) (f : Nat → α) : (mk n f).length = n := by simp [mk]
theorem mk_succ {α : Type} (n : Nat) (f : Nat → α) : mk (n + 1) f = mk n f ++ [f n] := by simp [mk, List.range_succ]
theorem mk_get {α : Type} (n : Nat) (f : Nat → α) (i : Nat) (h : i < (mk n f).length) : (mk n f)[i] = f i := by simp [mk]
theorem mk_congr {α : Type} {n : Nat} {f g : Nat → α} (h : ∀ i, i < n → f i = g i) : mk n f = mk n g := List.map_congr_left (fun i hi => h i (List.mem_range.1 hi))
theorem mk_lg (n : Nat) (f : Nat → List St) (i : Nat) (h : i < n) : lg (mk n f) i = f i := by
  rw [lg_eq _ _ (by rw [mk_len]; exact h), mk_get]
theorem mk_rd (n : Nat) (f : Nat → Int) (i : Nat) (h : i < n) : rd (mk n f) (i : Int) = f i := by
  rw [rd_eq _ _ (by rw [mk_len]; exact h), mk_get]
theorem mk_self (L : List (List St)) : mk L.length (lg L) = L := by
  refine List.ext_getElem (by rw [mk_len]) (fun i h1 h2 => ?_)
  rw [mk_get, lg_eq]
theorem mk_rself (l : List Int) : mk l.length (fun i => rd l (i : Int)) = l := by
  refine List.ext_getElem (by rw [mk_len]) (fun i h1 h2 => ?_)
  rw [mk_get, rd_eq]
/-- What one pool tells at a time: nothing, where the time is none. -/
noncomputable def tell (p : List St) (t : Int) : Int := if 0 ≤ t ∧ t ≤ Never then val p t else 0
theorem tell_ev {p : List St} (h : Right p) (t : Int) : Ev (fun k => step_At.f k p t) (tell p t) := by
  unfold tell
  by_cases c : 0 ≤ t ∧ t ≤ Never
  · rw [if_pos c]; exact at_ev h c.1 c.2
  · rw [if_neg c]; exact at_no (fun h' => c h'.2)
theorem pat_loop {L : List (List St)} (h : PRight L) (t : Int) : ∀ (d i : Nat), L.length - i = d → i ≤ L.length → Ev (fun k => pools_At.l0 k t (mk i fun j => tell (lg L j) t) L (L.length : Int) (i : Int)) (mk L.length fun j => tell (lg L j) t)
  | 0, i, hd, hi => by
    have : i = L.length := by omega
    subst this
    refine Ev.step (f := fun _ => some _) (fun k => ?_) (Ev.now _)
    simp only [pools_At.l0]
    rw [if_neg (by omega)]
  | d + 1, i, hd, hi => by
    have hlt : i < L.length := by omega
    have h4 := h.2.1
    have q1 : (i : Int) < (L.length : Int) := by omega
    have q2 : (0 : Int) ≤ (i : Int) := by omega
    have q3 : (mk i fun j => tell (lg L j) t).length < 17592186044416 := by rw [mk_len]; omega
    refine Ev.step (f := fun k => (step_At.f k (lg L i) t).bind fun a => pools_At.l0 k t ((mk i fun j => tell (lg L j) t) ++ [a]) L (L.length : Int) ((i + 1 : Nat) : Int)) (fun k => ?_) (Ev.bind (tell_ev (h.2.2 i hlt) t) ?_)
    · simp only [pools_At.l0, if_pos q1, if_pos q2, if_pos q3, nx i (by omega)]
    · have := pat_loop h t d (i + 1) (by omega) (by omega)
      rw [mk_succ] at this
      exact this
theorem pat_ev {L : List (List St)} (h : PRight L) (t : Int) : Ev (fun k => pools_At.f k L t) (mk L.length fun j => tell (lg L j) t) := by
  refine Ev.bind (pright_yes h) ?_
  simp only [if_true]
  exact pat_loop h t L.length 0 (by omega) (by omega)
theorem isame_loop (l : List Int) (hl : l.length ≤ 8796093022208) : ∀ (d i : Nat), l.length - i = d → i ≤ l.length → Ev (fun k => bailiwickref01_Same.l0 k l l (i : Int)) true
  | 0, i, hd, hi => by
    refine Ev.step (f := fun _ => some true) (fun k => ?_) (Ev.now _)
    simp only [bailiwickref01_Same.l0]
    rw [if_neg (by omega)]
  | d + 1, i, hd, hi => by
    refine Ev.step (fun k => ?_) (isame_loop l hl d (i + 1) (by omega) (by omega))
    have q1 : (i : Int) < (l.length : Int) := by omega
    have q2 : (0 : Int) ≤ (i : Int) := by omega
    simp only [bailiwickref01_Same.l0, if_pos q1, if_pos q2, if_true, nx i (by omega)]
theorem isame_ev (l : List Int) (hl : l.length ≤ 8796093022208) : Ev (fun k => bailiwickref01_Same.f k l l) true := by
  refine Ev.congr (fun k => ?_) (isame_loop l hl l.length 0 (by omega) (by omega))
  simp only [bailiwickref01_Same.f, if_true]; rfl
end Go.Proofs.Ytimllhflecippaa.PoolP
