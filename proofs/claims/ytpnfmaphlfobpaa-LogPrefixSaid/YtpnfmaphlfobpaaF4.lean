-- Written by gprint.py (this repo's own driver over the kit's printer); Lean checks it.
import Derived.Test.YtpnfmaphlfobpaaF0
import Derived.Test.YtpnfmaphlfobpaaF1
import Derived.Test.YtpnfmaphlfobpaaF3
namespace Go.Proofs.Ytpnfmaphlfobpaa.F
open Go.RowKit Go.Proofs.YtpnfmaphlfobpaaW.PrintWords Go.Proofs.YtpnfmaphlfobpaaW.PrintLast Go.Proofs.YtpnfmaphlfobpaaW.PrintMore
attribute [local go_sem] max2_int min2_int max_two min_two max_three min_three max_four min_four   -- for this text's walks alone
set_option linter.unusedVariables false
set_option linter.unusedSimpArgs false

/-! ### bailiwicklaw20_LogPrefix: function 3 -/
mutual
def bailiwicklaw20_LogPrefix.j0 : Nat → List (List Int) → Int → List Int → Bool → Option (Bool)
  | 0, _, _, _, _ => none
  | k + 1, x0, x1, x2, x27 => if x27 = true then (some true) else (bailiwicklaw20_LogPrefix.l0 k x0 x1 x2 ([] : List Int) (([0] : List Int)) 0)
def bailiwicklaw20_LogPrefix.l0 : Nat → List (List Int) → Int → List Int → List Int → List Int → Int → Option (Bool)
  | 0, _, _, _, _, _, _ => none
  | k + 1, x0, x1, x2, x7, x8, x9 => if x9 < (x0.length : Int) then (if 0 ≤ x9 then (if ((rd_L1 x0 x9).length : Int) < 1 then (bailiwicklaw20_LogPrefix.j2 k x0 x1 x2 x7 x8 x9 true) else (bailiwicklaw20_LogPrefix.j2 k x0 x1 x2 x7 x8 x9 (decide (((rd_L1 x0 x9).length : Int) > 100)))) else (none)) else ((log_Read.f k x7).bind fun bt162 => (if bt162.2 = (x7.length : Int) then ((bailiwickref20_Same.f k bt162.1 x0).bind fun t166 => (bailiwicklaw20_LogPrefix.j3 k x0 x1 x2 x7 x8 (!t166))) else (bailiwicklaw20_LogPrefix.j3 k x0 x1 x2 x7 x8 true)))
def bailiwicklaw20_LogPrefix.j2 : Nat → List (List Int) → Int → List Int → List Int → List Int → Int → Bool → Option (Bool)
  | 0, _, _, _, _, _, _, _ => none
  | k + 1, x0, x1, x2, x7, x8, x9, x48 => if x48 = true then (some true) else (if 0 ≤ x9 then (if x9 < (x0.length : Int) then ((log_Add.f k x7 (rd_L1 x0 x9)).bind fun bt154 => (if bt154.2 = 0 then (if (bt154.1.length : Int) = (wrap64 ((wrap64 ((x7.length : Int) + ((rd_L1 x0 x9).length : Int))) + 4)) then (if x8.length < 17592186044416 then (bailiwicklaw20_LogPrefix.l0 k x0 x1 x2 bt154.1 (x8 ++ [(bt154.1.length : Int)]) (wrap64 (x9 + 1))) else (none)) else (some false)) else (some false))) else (none)) else (none))
def bailiwicklaw20_LogPrefix.j3 : Nat → List (List Int) → Int → List Int → List Int → List Int → Bool → Option (Bool)
  | 0, _, _, _, _, _, _ => none
  | k + 1, x0, x1, x2, x7, x8, x94 => if x94 = true then (some false) else (if (wrap64 ((x7.length : Int) + 1)) = 0 then (none) else (bailiwicklaw20_LogPrefix.l1 k x0 x2 x7 x8 (Int.tmod (wrap64 (x1)) (wrap64 ((x7.length : Int) + 1))) 0))
def bailiwicklaw20_LogPrefix.j5 : Nat → List (List Int) → List Int → List Int → List Int → Int → Int → Option (Bool)
  | 0, _, _, _, _, _, _ => none
  | k + 1, x0, x2, x7, x8, x14, x15 => if 0 ≤ x14 then (if x14 ≤ (x7.length : Int) then ((log_Read.f k (x7.take (x14 : Int).toNat)).bind fun bt172 => (if 0 ≤ x15 then (if x15 < (x8.length : Int) then (if bt172.2 = (rd x8 x15) then (if x15 ≤ (x0.length : Int) then ((bailiwickref20_Same.f k bt172.1 (x0.take (x15 : Int).toNat)).bind fun t181 => (bailiwicklaw20_LogPrefix.j6 k x0 x2 x7 (!t181))) else (none)) else (bailiwicklaw20_LogPrefix.j6 k x0 x2 x7 true)) else (none)) else (none))) else (none)) else (none)
def bailiwicklaw20_LogPrefix.j6 : Nat → List (List Int) → List Int → List Int → Bool → Option (Bool)
  | 0, _, _, _, _ => none
  | k + 1, x0, x2, x7, x136 => if x136 = true then (some false) else ((some (([] : List Int) : List Int)).bind fun y182 => (if y182.length + x7.length < 140737488355328 then ((some (y182 ++ x7 : List Int)).bind fun y185 => (if y185.length + x2.length < 140737488355328 then ((log_Read.f k (y185 ++ x2)).bind fun bt191 => (if bt191.2 ≥ (x7.length : Int) then (if (bt191.1.length : Int) ≥ (x0.length : Int) then (if 0 ≤ (x0.length : Int) then (if (x0.length : Int) ≤ (bt191.1.length : Int) then ((bailiwickref20_Same.f k (bt191.1.take ((x0.length : Int) : Int).toNat) x0).bind fun t199 => (some t199)) else (none)) else (none)) else (some false)) else (some false))) else (none))) else (none)))
def bailiwicklaw20_LogPrefix.l1 : Nat → List (List Int) → List Int → List Int → List Int → Int → Int → Option (Bool)
  | 0, _, _, _, _, _, _ => none
  | k + 1, x0, x2, x7, x8, x14, x15 => if x15 < (x0.length : Int) then (if 0 ≤ (wrap64 (x15 + 1)) then (if (wrap64 (x15 + 1)) < (x8.length : Int) then (if (rd x8 (wrap64 (x15 + 1))) ≤ x14 then (bailiwicklaw20_LogPrefix.l1 k x0 x2 x7 x8 x14 (wrap64 (x15 + 1))) else (bailiwicklaw20_LogPrefix.j5 k x0 x2 x7 x8 x14 x15)) else (none)) else (none)) else (bailiwicklaw20_LogPrefix.j5 k x0 x2 x7 x8 x14 x15)
end
def bailiwicklaw20_LogPrefix.f (k : Nat) (l0 : List (List Int)) (a1 : Int) (l2 : List Int) : Option (Bool) := (bailiwicklaw20_awake.f).bind fun t147 => (if t147 = true then (if (l0.length : Int) > 30 then (bailiwicklaw20_LogPrefix.j0 k l0 a1 l2 true) else (bailiwicklaw20_LogPrefix.j0 k l0 a1 l2 (decide ((l2.length : Int) > 1000)))) else (some false))
theorem bailiwicklaw20_LogPrefix.mono_l : ∀ k, (∀ y0 y1 y2 y3, LeO (bailiwicklaw20_LogPrefix.j0 k y0 y1 y2 y3) (bailiwicklaw20_LogPrefix.j0 (k + 1) y0 y1 y2 y3)) ∧ (∀ y0 y1 y2 y3 y4 y5, LeO (bailiwicklaw20_LogPrefix.l0 k y0 y1 y2 y3 y4 y5) (bailiwicklaw20_LogPrefix.l0 (k + 1) y0 y1 y2 y3 y4 y5)) ∧ (∀ y0 y1 y2 y3 y4 y5 y6, LeO (bailiwicklaw20_LogPrefix.j2 k y0 y1 y2 y3 y4 y5 y6) (bailiwicklaw20_LogPrefix.j2 (k + 1) y0 y1 y2 y3 y4 y5 y6)) ∧ (∀ y0 y1 y2 y3 y4 y5, LeO (bailiwicklaw20_LogPrefix.j3 k y0 y1 y2 y3 y4 y5) (bailiwicklaw20_LogPrefix.j3 (k + 1) y0 y1 y2 y3 y4 y5)) ∧ (∀ y0 y1 y2 y3 y4 y5, LeO (bailiwicklaw20_LogPrefix.j5 k y0 y1 y2 y3 y4 y5) (bailiwicklaw20_LogPrefix.j5 (k + 1) y0 y1 y2 y3 y4 y5)) ∧ (∀ y0 y1 y2 y3, LeO (bailiwicklaw20_LogPrefix.j6 k y0 y1 y2 y3) (bailiwicklaw20_LogPrefix.j6 (k + 1) y0 y1 y2 y3)) ∧ (∀ y0 y1 y2 y3 y4 y5, LeO (bailiwicklaw20_LogPrefix.l1 k y0 y1 y2 y3 y4 y5) (bailiwicklaw20_LogPrefix.l1 (k + 1) y0 y1 y2 y3 y4 y5))
  | 0 => ⟨fun _ _ _ _ r h => by simp [bailiwicklaw20_LogPrefix.j0] at h, fun _ _ _ _ _ _ r h => by simp [bailiwicklaw20_LogPrefix.l0] at h, fun _ _ _ _ _ _ _ r h => by simp [bailiwicklaw20_LogPrefix.j2] at h, fun _ _ _ _ _ _ r h => by simp [bailiwicklaw20_LogPrefix.j3] at h, fun _ _ _ _ _ _ r h => by simp [bailiwicklaw20_LogPrefix.j5] at h, fun _ _ _ _ r h => by simp [bailiwicklaw20_LogPrefix.j6] at h, fun _ _ _ _ _ _ r h => by simp [bailiwicklaw20_LogPrefix.l1] at h⟩
  | k + 1 => by
    obtain ⟨ih0, ih1, ih2, ih3, ih4, ih5, ih6⟩ := bailiwicklaw20_LogPrefix.mono_l k
    refine ⟨?_, ?_, ?_, ?_, ?_, ?_, ?_⟩
    · intro y0 y1 y2 y3
      unfold bailiwicklaw20_LogPrefix.j0
      repeat' first
      | (with_reducible exact ih0 _ _ _ _)
      | (with_reducible exact ih1 _ _ _ _ _ _)
      | (with_reducible exact ih2 _ _ _ _ _ _ _)
      | (with_reducible exact ih3 _ _ _ _ _ _)
      | (with_reducible exact ih4 _ _ _ _ _ _)
      | (with_reducible exact ih5 _ _ _ _)
      | (with_reducible exact ih6 _ _ _ _ _ _)
      | (with_reducible exact bailiwickref20_Same.mono _ _ _)
      | (with_reducible exact log_Add.mono _ _ _)
      | (with_reducible exact log_Read.mono _ _)
      | (with_reducible exact LeO.refl _)
      | (with_reducible exact LeO.none _)
      | (with_reducible refine LeO.ite ?_ ?_)
      | (with_reducible refine LeO.bind ?_ (fun _ => ?_))
      | exact ih0 _ _ _ _
      | exact ih1 _ _ _ _ _ _
      | exact ih2 _ _ _ _ _ _ _
      | exact ih3 _ _ _ _ _ _
      | exact ih4 _ _ _ _ _ _
      | exact ih5 _ _ _ _
      | exact ih6 _ _ _ _ _ _
      | exact bailiwickref20_Same.mono _ _ _
      | exact log_Add.mono _ _ _
      | exact log_Read.mono _ _
      | exact LeO.none _
      | refine LeO.ite ?_ ?_
      | refine LeO.bind ?_ (fun _ => ?_)
    · intro y0 y1 y2 y3 y4 y5
      unfold bailiwicklaw20_LogPrefix.l0
      repeat' first
      | (with_reducible exact ih0 _ _ _ _)
      | (with_reducible exact ih1 _ _ _ _ _ _)
      | (with_reducible exact ih2 _ _ _ _ _ _ _)
      | (with_reducible exact ih3 _ _ _ _ _ _)
      | (with_reducible exact ih4 _ _ _ _ _ _)
      | (with_reducible exact ih5 _ _ _ _)
      | (with_reducible exact ih6 _ _ _ _ _ _)
      | (with_reducible exact bailiwickref20_Same.mono _ _ _)
      | (with_reducible exact log_Add.mono _ _ _)
      | (with_reducible exact log_Read.mono _ _)
      | (with_reducible exact LeO.refl _)
      | (with_reducible exact LeO.none _)
      | (with_reducible refine LeO.ite ?_ ?_)
      | (with_reducible refine LeO.bind ?_ (fun _ => ?_))
      | exact ih0 _ _ _ _
      | exact ih1 _ _ _ _ _ _
      | exact ih2 _ _ _ _ _ _ _
      | exact ih3 _ _ _ _ _ _
      | exact ih4 _ _ _ _ _ _
      | exact ih5 _ _ _ _
      | exact ih6 _ _ _ _ _ _
      | exact bailiwickref20_Same.mono _ _ _
      | exact log_Add.mono _ _ _
      | exact log_Read.mono _ _
      | exact LeO.none _
      | refine LeO.ite ?_ ?_
      | refine LeO.bind ?_ (fun _ => ?_)
    · intro y0 y1 y2 y3 y4 y5 y6
      unfold bailiwicklaw20_LogPrefix.j2
      repeat' first
      | (with_reducible exact ih0 _ _ _ _)
      | (with_reducible exact ih1 _ _ _ _ _ _)
      | (with_reducible exact ih2 _ _ _ _ _ _ _)
      | (with_reducible exact ih3 _ _ _ _ _ _)
      | (with_reducible exact ih4 _ _ _ _ _ _)
      | (with_reducible exact ih5 _ _ _ _)
      | (with_reducible exact ih6 _ _ _ _ _ _)
      | (with_reducible exact bailiwickref20_Same.mono _ _ _)
      | (with_reducible exact log_Add.mono _ _ _)
      | (with_reducible exact log_Read.mono _ _)
      | (with_reducible exact LeO.refl _)
      | (with_reducible exact LeO.none _)
      | (with_reducible refine LeO.ite ?_ ?_)
      | (with_reducible refine LeO.bind ?_ (fun _ => ?_))
      | exact ih0 _ _ _ _
      | exact ih1 _ _ _ _ _ _
      | exact ih2 _ _ _ _ _ _ _
      | exact ih3 _ _ _ _ _ _
      | exact ih4 _ _ _ _ _ _
      | exact ih5 _ _ _ _
      | exact ih6 _ _ _ _ _ _
      | exact bailiwickref20_Same.mono _ _ _
      | exact log_Add.mono _ _ _
      | exact log_Read.mono _ _
      | exact LeO.none _
      | refine LeO.ite ?_ ?_
      | refine LeO.bind ?_ (fun _ => ?_)
    · intro y0 y1 y2 y3 y4 y5
      unfold bailiwicklaw20_LogPrefix.j3
      repeat' first
      | (with_reducible exact ih0 _ _ _ _)
      | (with_reducible exact ih1 _ _ _ _ _ _)
      | (with_reducible exact ih2 _ _ _ _ _ _ _)
      | (with_reducible exact ih3 _ _ _ _ _ _)
      | (with_reducible exact ih4 _ _ _ _ _ _)
      | (with_reducible exact ih5 _ _ _ _)
      | (with_reducible exact ih6 _ _ _ _ _ _)
      | (with_reducible exact bailiwickref20_Same.mono _ _ _)
      | (with_reducible exact log_Add.mono _ _ _)
      | (with_reducible exact log_Read.mono _ _)
      | (with_reducible exact LeO.refl _)
      | (with_reducible exact LeO.none _)
      | (with_reducible refine LeO.ite ?_ ?_)
      | (with_reducible refine LeO.bind ?_ (fun _ => ?_))
      | exact ih0 _ _ _ _
      | exact ih1 _ _ _ _ _ _
      | exact ih2 _ _ _ _ _ _ _
      | exact ih3 _ _ _ _ _ _
      | exact ih4 _ _ _ _ _ _
      | exact ih5 _ _ _ _
      | exact ih6 _ _ _ _ _ _
      | exact bailiwickref20_Same.mono _ _ _
      | exact log_Add.mono _ _ _
      | exact log_Read.mono _ _
      | exact LeO.none _
      | refine LeO.ite ?_ ?_
      | refine LeO.bind ?_ (fun _ => ?_)
    · intro y0 y1 y2 y3 y4 y5
      unfold bailiwicklaw20_LogPrefix.j5
      repeat' first
      | (with_reducible exact ih0 _ _ _ _)
      | (with_reducible exact ih1 _ _ _ _ _ _)
      | (with_reducible exact ih2 _ _ _ _ _ _ _)
      | (with_reducible exact ih3 _ _ _ _ _ _)
      | (with_reducible exact ih4 _ _ _ _ _ _)
      | (with_reducible exact ih5 _ _ _ _)
      | (with_reducible exact ih6 _ _ _ _ _ _)
      | (with_reducible exact bailiwickref20_Same.mono _ _ _)
      | (with_reducible exact log_Add.mono _ _ _)
      | (with_reducible exact log_Read.mono _ _)
      | (with_reducible exact LeO.refl _)
      | (with_reducible exact LeO.none _)
      | (with_reducible refine LeO.ite ?_ ?_)
      | (with_reducible refine LeO.bind ?_ (fun _ => ?_))
      | exact ih0 _ _ _ _
      | exact ih1 _ _ _ _ _ _
      | exact ih2 _ _ _ _ _ _ _
      | exact ih3 _ _ _ _ _ _
      | exact ih4 _ _ _ _ _ _
      | exact ih5 _ _ _ _
      | exact ih6 _ _ _ _ _ _
      | exact bailiwickref20_Same.mono _ _ _
      | exact log_Add.mono _ _ _
      | exact log_Read.mono _ _
      | exact LeO.none _
      | refine LeO.ite ?_ ?_
      | refine LeO.bind ?_ (fun _ => ?_)
    · intro y0 y1 y2 y3
      unfold bailiwicklaw20_LogPrefix.j6
      repeat' first
      | (with_reducible exact ih0 _ _ _ _)
      | (with_reducible exact ih1 _ _ _ _ _ _)
      | (with_reducible exact ih2 _ _ _ _ _ _ _)
      | (with_reducible exact ih3 _ _ _ _ _ _)
      | (with_reducible exact ih4 _ _ _ _ _ _)
      | (with_reducible exact ih5 _ _ _ _)
      | (with_reducible exact ih6 _ _ _ _ _ _)
      | (with_reducible exact bailiwickref20_Same.mono _ _ _)
      | (with_reducible exact log_Add.mono _ _ _)
      | (with_reducible exact log_Read.mono _ _)
      | (with_reducible exact LeO.refl _)
      | (with_reducible exact LeO.none _)
      | (with_reducible refine LeO.ite ?_ ?_)
      | (with_reducible refine LeO.bind ?_ (fun _ => ?_))
      | exact ih0 _ _ _ _
      | exact ih1 _ _ _ _ _ _
      | exact ih2 _ _ _ _ _ _ _
      | exact ih3 _ _ _ _ _ _
      | exact ih4 _ _ _ _ _ _
      | exact ih5 _ _ _ _
      | exact ih6 _ _ _ _ _ _
      | exact bailiwickref20_Same.mono _ _ _
      | exact log_Add.mono _ _ _
      | exact log_Read.mono _ _
      | exact LeO.none _
      | refine LeO.ite ?_ ?_
      | refine LeO.bind ?_ (fun _ => ?_)
    · intro y0 y1 y2 y3 y4 y5
      unfold bailiwicklaw20_LogPrefix.l1
      repeat' first
      | (with_reducible exact ih0 _ _ _ _)
      | (with_reducible exact ih1 _ _ _ _ _ _)
      | (with_reducible exact ih2 _ _ _ _ _ _ _)
      | (with_reducible exact ih3 _ _ _ _ _ _)
      | (with_reducible exact ih4 _ _ _ _ _ _)
      | (with_reducible exact ih5 _ _ _ _)
      | (with_reducible exact ih6 _ _ _ _ _ _)
      | (with_reducible exact bailiwickref20_Same.mono _ _ _)
      | (with_reducible exact log_Add.mono _ _ _)
      | (with_reducible exact log_Read.mono _ _)
      | (with_reducible exact LeO.refl _)
      | (with_reducible exact LeO.none _)
      | (with_reducible refine LeO.ite ?_ ?_)
      | (with_reducible refine LeO.bind ?_ (fun _ => ?_))
      | exact ih0 _ _ _ _
      | exact ih1 _ _ _ _ _ _
      | exact ih2 _ _ _ _ _ _ _
      | exact ih3 _ _ _ _ _ _
      | exact ih4 _ _ _ _ _ _
      | exact ih5 _ _ _ _
      | exact ih6 _ _ _ _ _ _
      | exact bailiwickref20_Same.mono _ _ _
      | exact log_Add.mono _ _ _
      | exact log_Read.mono _ _
      | exact LeO.none _
      | refine LeO.ite ?_ ?_
      | refine LeO.bind ?_ (fun _ => ?_)
theorem bailiwicklaw20_LogPrefix.mono : ∀ a0 a1 a2 k, LeO (bailiwicklaw20_LogPrefix.f k a0 a1 a2) (bailiwicklaw20_LogPrefix.f (k + 1) a0 a1 a2) := by
  intro a0 a1 a2 k
  obtain ⟨ih0, ih1, ih2, ih3, ih4, ih5, ih6⟩ := bailiwicklaw20_LogPrefix.mono_l k
  unfold bailiwicklaw20_LogPrefix.f
  repeat' first
      | (with_reducible exact ih0 _ _ _ _)
      | (with_reducible exact ih1 _ _ _ _ _ _)
      | (with_reducible exact ih2 _ _ _ _ _ _ _)
      | (with_reducible exact ih3 _ _ _ _ _ _)
      | (with_reducible exact ih4 _ _ _ _ _ _)
      | (with_reducible exact ih5 _ _ _ _)
      | (with_reducible exact ih6 _ _ _ _ _ _)
      | (with_reducible exact bailiwickref20_Same.mono _ _ _)
      | (with_reducible exact log_Add.mono _ _ _)
      | (with_reducible exact log_Read.mono _ _)
      | (with_reducible exact LeO.refl _)
      | (with_reducible exact LeO.none _)
      | (with_reducible refine LeO.ite ?_ ?_)
      | (with_reducible refine LeO.bind ?_ (fun _ => ?_))
      | exact ih0 _ _ _ _
      | exact ih1 _ _ _ _ _ _
      | exact ih2 _ _ _ _ _ _ _
      | exact ih3 _ _ _ _ _ _
      | exact ih4 _ _ _ _ _ _
      | exact ih5 _ _ _ _
      | exact ih6 _ _ _ _ _ _
      | exact bailiwickref20_Same.mono _ _ _
      | exact log_Add.mono _ _ _
      | exact log_Read.mono _ _
      | exact LeO.none _
      | refine LeO.ite ?_ ?_
      | refine LeO.bind ?_ (fun _ => ?_)
set_option maxHeartbeats 8000000 in
set_option maxRecDepth 100000 in
theorem bailiwicklaw20_LogPrefix.calls (k : Nat) (A0 : Option Addr) (c0 : Nat) (l0 : List (List Int)) (a1 : Int) (A2 : Option Addr) (c2 : Nat) (l2 : List Int) (r : Bool) (w : World) (hr0 : Kd.C (Kd.slice 5 (Kd.int .u8)) w A0 l0.length l0) (hc0 : l0.length ≤ c0) (hr2 : Kd.C (Kd.int .u8) w A2 l2.length l2) (hc2 : l2.length ≤ c2) (h : bailiwicklaw20_LogPrefix.f k l0 a1 l2 = some r) :
    Calls Try.prog 3 #[.slice A0 l0.length c0, .int .u16 a1, .slice A2 l2.length c2] w fun e w' => e = .returned (.bool r) ∧ Below w.heap.size w w' := by
  have HR0 := Aside0.mk hr0
  have HC0 := Aside0.mk hc0
  clear hr0 hc0
  have HR2 := Aside0.mk hr2
  have HC2 := Aside0.mk hc2
  clear hr2 hc2
  have HB := Aside0.mk (Below.refl w.heap.size w)
  have H : ((bailiwicklaw20_awake.f).bind fun t147 => (if t147 = true then (if (l0.length : Int) > 30 then (bailiwicklaw20_LogPrefix.j0 k l0 a1 l2 true) else (bailiwicklaw20_LogPrefix.j0 k l0 a1 l2 (decide ((l2.length : Int) > 1000)))) else (some false))) = some r := h
  clear h
  replace H := Option.bind_eq_some_iff.mp H
  obtain ⟨t147, A40, H⟩ := H
  replace H : (if t147 = true then (if (l0.length : Int) > 30 then (bailiwicklaw20_LogPrefix.j0 k l0 a1 l2 true) else (bailiwicklaw20_LogPrefix.j0 k l0 a1 l2 (decide ((l2.length : Int) > 1000)))) else (some false)) = some r := H
  have A4 := Aside0.mk A40
  clear A40
  by_cases c5 : t147 = true
  · subst c5
    have H1 : (if (l0.length : Int) > 30 then (bailiwicklaw20_LogPrefix.j0 k l0 a1 l2 true) else (bailiwicklaw20_LogPrefix.j0 k l0 a1 l2 (decide ((l2.length : Int) > 1000)))) = some r := by rw [if_pos rfl] at H; exact H
    clear H
    have H := H1
    clear H1
    have HC6 := Aside0.mk H
    clear H
    go_enter Try.func3, Try.ntmps3
    go_upto_region 3 with (first | ((with_reducible refine gate_callee (f := 8) rfl ?_); refine goesL_ (some 18) rfl rfl Try.func8 (by kernel_rfl) rfl #[] rfl (by (try simp only [List.map_toArray, List.map_cons, List.map_nil]); first | done | rfl | (simp only [List.length_drop, List.length_take]; rfl)) ?_; (with_reducible refine (bailiwicklaw20_awake.calls  true _ A4.out).mono ?_); rintro e w7 ⟨rfl, hb⟩; refine ⟨_, rfl, ?_⟩; have n0_ := Aside0.mk (below_step (by repeat (first | (with_reducible first | exact HB.out | apply below_alloc | apply pw_below_drewN | apply below_drew1) | exact HB.out)) hb); clear HB; have HB := n0_; clear n0_; (try clear hb); (try clear hb2); (try clear hk); (try clear hi)))
    (try simp only [Act.put, List.setIfInBounds_toArray, List.set_cons_zero, List.set_cons_succ])
    go_cut [27] (fun v27 wc => ∃ (kq : Nat) (x27_5 : Bool), v27 = .bool x27_5 ∧ Aside0 (bailiwicklaw20_LogPrefix.j0 kq l0 a1 l2 x27_5 = some r) ∧ Aside0 (kq ≤ k) ∧ Aside0 (Below w.heap.size w wc))
    case first =>
      have H := HC6.out
      clear HC6
      by_cases c8 : (l0.length : Int) > 30
      · rw [if_pos c8] at H
        have c8b0 : decide (30 < (l0.length : Int)) = true := decide_eq_true c8
        have c8b1 : decide (30 < l0.length) = true := decide_eq_true (by omega)
        clear c8
        (first | rw [c8b0] | (simp only [i64_w, i32_w]; rw [c8b0]) | skip)
        have H' := Aside0.mk H
        clear H
        go_wp2
        go_meet
        case rel => exact ⟨_, (true), (by first | rfl | (simp; done) | (simp [*]; done)), H', ⟨by first | omega | exact Nat.le_refl _⟩, ⟨by repeat (first | (with_reducible first | exact HB.out | apply below_alloc | apply pw_below_drewN | apply below_drew1) | exact HB.out)⟩⟩
      · rw [if_neg c8] at H
        have c8b0 : decide (30 < (l0.length : Int)) = false := decide_eq_false c8
        have c8b1 : decide (30 < l0.length) = false := decide_eq_false (by omega)
        clear c8
        (first | rw [c8b0] | (simp only [i64_w, i32_w]; rw [c8b0]) | skip)
        have H' := Aside0.mk H
        clear H
        go_wp2
        go_meet
        case rel => exact ⟨_, (decide ((l2.length : Int) > 1000)), (by first | rfl | (simp; done) | (simp [*]; done)), H', ⟨by first | omega | exact Nat.le_refl _⟩, ⟨by repeat (first | (with_reducible first | exact HB.out | apply below_alloc | apply pw_below_drewN | apply below_drew1) | exact HB.out)⟩⟩
    case rest =>
      clear HC6
      try clear c2
      try clear p2
      try clear c3
      try clear c5
      try clear c8
      try clear c8b0
      try clear c8b1
      obtain ⟨kq, x27_5, rfl, HA, HJ5, HB⟩ := hcut
      cases kq with
      | zero => exact absurd HA.out (by simp [bailiwicklaw20_LogPrefix.j0])
      | succ kj5 =>
        have H := HA.out
        clear HA
        simp only [bailiwicklaw20_LogPrefix.j0] at H
        by_cases c9 : x27_5 = true
        · subst c9
          have H1 : (some true) = some r := by rw [if_pos rfl] at H; exact H
          clear H
          have H := H1
          clear H1
          obtain rfl := Option.some.inj H
          go_wp2
          go_ret
          exact ⟨by first | rfl | (simp [errW_none, errW_some] <;> rfl) | (simp [*, errW_none, errW_some] <;> rfl), by repeat (first | (with_reducible first | exact HB.out | apply below_alloc | apply pw_below_drewN | apply below_drew1) | exact HB.out)⟩
        · replace c9 := Bool.eq_false_iff.mpr c9
          subst c9
          have H1 : (bailiwicklaw20_LogPrefix.l0 kj5 l0 a1 l2 ([] : List Int) (([0] : List Int)) 0) = some r := by rw [if_neg (show ¬ (false = true) by decide)] at H; exact H
          clear H
          have H := H1
          clear H1
          obtain ⟨y148, hy148⟩ : ∃ y_ : List Int, y_ = (([0] : List Int)) := ⟨_, rfl⟩
          replace H : (bailiwicklaw20_LogPrefix.l0 kj5 l0 a1 l2 ([] : List Int) y148 0) = some r := by first | (rw [hy148]; with_reducible exact H) | (have H2_ := (Option.bind_some _ _).symm.trans H; rw [hy148]; with_reducible exact H2_) | (have H2_ := (Option.bind_some _ _).symm.trans H; with_reducible exact H2_) | with_reducible exact H | (rw [hy148]; exact H) | exact H
          have Ny148 := Aside0.mk hy148
          clear hy148
          have H' := Aside0.mk H
          clear H
          go_wp2_with (first | ((with_reducible refine gate_dst (N := 28) rfl ?_); (try (refine gate_guard (by rfl) ?_; dsimp only)); refine Kd.R_lit (Kd.int .i64) _ 3 ?hg (N := 28) ?hd (xs := ([0] : List Int)) (inner := [.int .i64 0]) (ok := fun _ => True) (okp := fun _ => True) ?hr ?hp (fun _ hk => hk) trivial (Below.refl _ _) (Nat.le_refl _) (by simp) ?_; (case hd => rfl); (case hg => rfl); (case hr => first | (go_simp; done) | (go_simp; rfl)); (case hp => exact (Reps.one (show Kd.M (Kd.int .i64) _ _ _ 0 [.int .i64 0] from rfl) (Reps.none _ _))); intro v149 w10 ho11 hb hg_ hnew_; clear hg_ hnew_; (first | rw [← Ny148.out] at ho11 | (simp only [Int.reduceToNat] at ho11; rw [← Ny148.out] at ho11)); have n0_ := Aside0.mk (Kd.R_lower ho11 (below_size (by repeat (first | (with_reducible first | exact HB.out | apply below_alloc | apply pw_below_drewN | apply below_drew1) | exact HB.out)))); have n1_ := Aside0.mk (below_step (by repeat (first | (with_reducible first | exact HB.out | apply below_alloc | apply pw_below_drewN | apply below_drew1) | exact HB.out)) hb); clear HB; have HO150 := n0_; have HB := n1_; clear n0_ n1_; clear hb ho11))
          go_loopg [7, 8, 9] kj5 (fun kq v7 v8 v9 w' => ∃ (x7_2 : List Int) (x8_2 : List Int) (x9_2 : Int), v9 = .int .i64 x9_2 ∧ Aside0 (bailiwicklaw20_LogPrefix.l0 kq l0 a1 l2 x7_2 x8_2 x9_2 = some r) ∧ Aside0 (kq ≤ kj5) ∧ Aside0 (Kd.R (Kd.int .u8) 5 w' w.heap.size (fun _ => True) v7 x7_2) ∧ Aside0 (Kd.R (Kd.int .i64) 3 w' w.heap.size (fun _ => True) v8 x8_2) ∧ Aside0 (Below w.heap.size w w'))
          case atStart => exact ⟨(([] : List Int)), (y148), (0), (by first | rfl | (simp; done) | (simp [*]; done)), H', ⟨Nat.le_refl _⟩, ⟨by first | exact Kd.R_nil _ _ _ _ _ | exact Kd.N_nil _ _ _ _ _ | exact Kd.V_nil _ _ _ _ _ | exact Kd.Q_nil _ _ _ _ _ | exact Kd.S_nil _ _ _ _ _⟩, ⟨by (with_reducible repeat (first | apply Kd.R_alloc | apply Kd.R_drewN | apply Kd.R_drew)); exact HO150.out⟩, ⟨by repeat (first | (with_reducible first | exact HB.out | apply below_alloc | apply pw_below_drewN | apply below_drew1) | exact HB.out)⟩⟩
          case round =>
            clear H'
            try clear c2
            try clear p2
            try clear c3
            try clear c5
            try clear c8
            try clear c8b0
            try clear c8b1
            try clear c9
            try clear p2
            obtain ⟨x7_2, x8_2, x9_2, rfl, HA, HK2, HO_7, HO_8, HB⟩ := hrel
            cases gk with
            | zero => exact absurd HA.out (by simp [bailiwicklaw20_LogPrefix.l0])
            | succ k2 =>
              have H := HA.out
              clear HA
              simp only [bailiwicklaw20_LogPrefix.l0] at H
              by_cases c12 : x9_2 < (l0.length : Int)
              · rw [if_pos c12] at H
                have c12b0 : decide (x9_2 < (l0.length : Int)) = true := decide_eq_true c12
                clear c12
                have HC13 := Aside0.mk H
                clear H
                go_upto_region 10 with (fail)
                go_cut [48] (fun v48 wc => ∃ (kq : Nat) (x48_12 : Bool), v48 = .bool x48_12 ∧ Aside0 (bailiwicklaw20_LogPrefix.j2 kq l0 a1 l2 x7_2 x8_2 x9_2 x48_12 = some r) ∧ Aside0 (kq ≤ k2) ∧ Aside0 (Kd.R (Kd.int .u8) 5 wc w.heap.size (fun _ => True) u7 x7_2) ∧ Aside0 (Kd.R (Kd.int .i64) 3 wc w.heap.size (fun _ => True) u8 x8_2) ∧ Aside0 (Below w.heap.size w wc))
                case first =>
                  have H := HC13.out
                  clear HC13
                  by_cases c14 : 0 ≤ x9_2
                  · rw [if_pos c14] at H
                    have c14b0 : decide (0 ≤ x9_2) = true := decide_eq_true c14
                    clear c14
                    (first | rw [c14b0] | (simp only [i64_w, i32_w]; rw [c14b0]) | skip)
                    by_cases c15 : ((rd_L1 l0 x9_2).length : Int) < 1
                    · rw [if_pos c15] at H
                      have c15b0 : decide (((rd_L1 l0 x9_2).length : Int) < 1) = true := decide_eq_true c15
                      have c15b1 : decide ((rd_L1 l0 x9_2).length < 1) = true := decide_eq_true (by omega)
                      clear c15
                      have H' := Aside0.mk H
                      clear H
                      have p151 : 0 ≤ (x9_2 : Int) := of_decide_eq_true (by first | (with_reducible assumption) | assumption)
                      have q151 : x9_2 < (l0.length : Int) := of_decide_eq_true (by first | (with_reducible assumption) | assumption)
                      obtain ⟨ad151, A151_0, c151_0, e151, hx151_0, hl151_0, hi151_0⟩ := at_L1 HR0.out x9_2 p151 q151
                      cases e151
                      replace hx151_0 := (HB.out.cell (World.block_lt_of_cell? w _ hx151_0)).trans hx151_0
                      have HR151_0 := Aside0.mk hi151_0
                      have HC151_0 := Aside0.mk hl151_0
                      clear hi151_0 hl151_0
                      replace p151 := eq_true p151
                      replace q151 := eq_true q151
                      go_wp2
                      go_meet
                      case rel => exact ⟨_, (true), (by first | rfl | (simp; done) | (simp [*]; done)), H', ⟨by have := HJ5.out; have := HK2.out; first | omega | exact Nat.le_refl _⟩, ⟨by (with_reducible repeat (first | apply Kd.R_alloc | apply Kd.R_drewN | apply Kd.R_drew)); exact HO_7.out⟩, ⟨by (with_reducible repeat (first | apply Kd.R_alloc | apply Kd.R_drewN | apply Kd.R_drew)); exact HO_8.out⟩, ⟨by repeat (first | (with_reducible first | exact HB.out | apply below_alloc | apply pw_below_drewN | apply below_drew1) | exact HB.out)⟩⟩
                    · rw [if_neg c15] at H
                      have c15b0 : decide (((rd_L1 l0 x9_2).length : Int) < 1) = false := decide_eq_false c15
                      have c15b1 : decide ((rd_L1 l0 x9_2).length < 1) = false := decide_eq_false (by omega)
                      clear c15
                      have H' := Aside0.mk H
                      clear H
                      have p151 : 0 ≤ (x9_2 : Int) := of_decide_eq_true (by first | (with_reducible assumption) | assumption)
                      have q151 : x9_2 < (l0.length : Int) := of_decide_eq_true (by first | (with_reducible assumption) | assumption)
                      obtain ⟨ad151, A151_0, c151_0, e151, hx151_0, hl151_0, hi151_0⟩ := at_L1 HR0.out x9_2 p151 q151
                      cases e151
                      replace hx151_0 := (HB.out.cell (World.block_lt_of_cell? w _ hx151_0)).trans hx151_0
                      have HR151_0 := Aside0.mk hi151_0
                      have HC151_0 := Aside0.mk hl151_0
                      clear hi151_0 hl151_0
                      replace p151 := eq_true p151
                      replace q151 := eq_true q151
                      have p152 : 0 ≤ (x9_2 : Int) := of_decide_eq_true (by first | (with_reducible assumption) | assumption)
                      have q152 : x9_2 < (l0.length : Int) := of_decide_eq_true (by first | (with_reducible assumption) | assumption)
                      obtain ⟨ad152, A152_0, c152_0, e152, hx152_0, hl152_0, hi152_0⟩ := at_L1 HR0.out x9_2 p152 q152
                      obtain rfl : ad151 = ad152 := (by injection e152)
                      replace hx152_0 := (HB.out.cell (World.block_lt_of_cell? w _ hx152_0)).trans hx152_0
                      have HR152_0 := Aside0.mk hi152_0
                      have HC152_0 := Aside0.mk hl152_0
                      clear hi152_0 hl152_0
                      replace p152 := eq_true p152
                      replace q152 := eq_true q152
                      have ea_ := Option.some.inj (hx151_0.symm.trans hx152_0)
                      injection ea_ with ea_ en_ ec_
                      subst ea_
                      subst ec_
                      clear en_
                      go_wp2
                      go_meet
                      case rel => exact ⟨_, (decide (((rd_L1 l0 x9_2).length : Int) > 100)), (by first | rfl | (simp; done) | (simp [*]; done)), H', ⟨by have := HJ5.out; have := HK2.out; first | omega | exact Nat.le_refl _⟩, ⟨by (with_reducible repeat (first | apply Kd.R_alloc | apply Kd.R_drewN | apply Kd.R_drew)); exact HO_7.out⟩, ⟨by (with_reducible repeat (first | apply Kd.R_alloc | apply Kd.R_drewN | apply Kd.R_drew)); exact HO_8.out⟩, ⟨by repeat (first | (with_reducible first | exact HB.out | apply below_alloc | apply pw_below_drewN | apply below_drew1) | exact HB.out)⟩⟩
                  · rw [if_neg c14] at H
                    exact absurd H (by simp)
                case rest =>
                  clear HC13
                  try clear c1
                  try clear p1
                  try clear q1
                  try clear hx1
                  try clear c2
                  try clear p2
                  try clear c3
                  try clear c5
                  try clear c8
                  try clear c8b0
                  try clear c8b1
                  try clear c9
                  try clear c12
                  try clear c12b0
                  try clear c14
                  try clear c14b0
                  try clear c15
                  try clear c15b0
                  try clear c15b1
                  try clear p15
                  try clear q15
                  try clear hx15
                  try clear hx151_0
                  try clear hx152_0
                  try clear p151
                  try clear p152
                  try clear p2
                  try clear q151
                  try clear q152
                  obtain ⟨kq, x48_12, rfl, HA, HJ12, HO_7, HO_8, HB⟩ := hcut
                  cases kq with
                  | zero => exact absurd HA.out (by simp [bailiwicklaw20_LogPrefix.j2])
                  | succ kj12 =>
                    have H := HA.out
                    clear HA
                    simp only [bailiwicklaw20_LogPrefix.j2] at H
                    by_cases c16 : x48_12 = true
                    · subst c16
                      have H1 : (some true) = some r := by rw [if_pos rfl] at H; exact H
                      clear H
                      have H := H1
                      clear H1
                      obtain rfl := Option.some.inj H
                      go_wp2
                      go_ret
                      exact ⟨by first | rfl | (simp [errW_none, errW_some] <;> rfl) | (simp [*, errW_none, errW_some] <;> rfl), by repeat (first | (with_reducible first | exact HB.out | apply below_alloc | apply pw_below_drewN | apply below_drew1) | exact HB.out)⟩
                    · replace c16 := Bool.eq_false_iff.mpr c16
                      subst c16
                      have H1 : (if 0 ≤ x9_2 then (if x9_2 < (l0.length : Int) then ((log_Add.f kj12 x7_2 (rd_L1 l0 x9_2)).bind fun bt154 => (if bt154.2 = 0 then (if (bt154.1.length : Int) = (wrap64 ((wrap64 ((x7_2.length : Int) + ((rd_L1 l0 x9_2).length : Int))) + 4)) then (if x8_2.length < 17592186044416 then (bailiwicklaw20_LogPrefix.l0 kj12 l0 a1 l2 bt154.1 (x8_2 ++ [(bt154.1.length : Int)]) (wrap64 (x9_2 + 1))) else (none)) else (some false)) else (some false))) else (none)) else (none)) = some r := by rw [if_neg (show ¬ (false = true) by decide)] at H; exact H
                      clear H
                      have H := H1
                      clear H1
                      by_cases c17 : 0 ≤ x9_2
                      · rw [if_pos c17] at H
                        have c17b0 : decide (0 ≤ x9_2) = true := decide_eq_true c17
                        clear c17
                        by_cases c18 : x9_2 < (l0.length : Int)
                        · rw [if_pos c18] at H
                          have c18b0 : decide (x9_2 < (l0.length : Int)) = true := decide_eq_true c18
                          clear c18
                          replace H := Option.bind_eq_some_iff.mp H
                          obtain ⟨⟨t154, t155⟩, A190, H⟩ := H
                          replace H : (if t155 = 0 then (if (t154.length : Int) = (wrap64 ((wrap64 ((x7_2.length : Int) + ((rd_L1 l0 x9_2).length : Int))) + 4)) then (if x8_2.length < 17592186044416 then (bailiwicklaw20_LogPrefix.l0 kj12 l0 a1 l2 t154 (x8_2 ++ [(t154.length : Int)]) (wrap64 (x9_2 + 1))) else (none)) else (some false)) else (some false)) = some r := H
                          have A19 := Aside0.mk A190
                          clear A190
                          by_cases c20 : t155 = 0
                          · rw [if_pos c20] at H
                            have c20b0 : (t155 == 0) = true := beq_iff_eq.mpr c20
                            have c20b1 : (t155 != 0) = false := bne_eq_false_iff_eq.mpr c20
                            clear c20
                            by_cases c21 : (t154.length : Int) = (wrap64 ((wrap64 ((x7_2.length : Int) + ((rd_L1 l0 x9_2).length : Int))) + 4))
                            · rw [if_pos c21] at H
                              have c21b0 : ((t154.length : Int) == (wrap64 ((wrap64 ((x7_2.length : Int) + ((rd_L1 l0 x9_2).length : Int))) + 4))) = true := beq_iff_eq.mpr c21
                              have c21b1 : ((t154.length : Int) != (wrap64 ((wrap64 ((x7_2.length : Int) + ((rd_L1 l0 x9_2).length : Int))) + 4))) = false := bne_eq_false_iff_eq.mpr c21
                              clear c21
                              by_cases c22 : x8_2.length < 17592186044416
                              · rw [if_pos c22] at H
                                have LMc22 := Aside0.mk c22
                                clear c22
                                obtain ⟨y159, hy159⟩ : ∃ y_ : List Int, y_ = (x8_2 ++ [(t154.length : Int)]) := ⟨_, rfl⟩
                                replace H : (bailiwicklaw20_LogPrefix.l0 kj12 l0 a1 l2 t154 y159 (wrap64 (x9_2 + 1))) = some r := by first | (rw [hy159]; with_reducible exact H) | (have H2_ := (Option.bind_some _ _).symm.trans H; rw [hy159]; with_reducible exact H2_) | (have H2_ := (Option.bind_some _ _).symm.trans H; with_reducible exact H2_) | with_reducible exact H | (rw [hy159]; exact H) | exact H
                                have Ny159 := Aside0.mk hy159
                                clear hy159
                                have H' := Aside0.mk H
                                clear H
                                have p153 : 0 ≤ (x9_2 : Int) := of_decide_eq_true (by first | (with_reducible assumption) | assumption)
                                have q153 : x9_2 < (l0.length : Int) := of_decide_eq_true (by first | (with_reducible assumption) | assumption)
                                obtain ⟨ad153, A153_0, c153_0, e153, hx153_0, hl153_0, hi153_0⟩ := at_L1 HR0.out x9_2 p153 q153
                                cases e153
                                replace hx153_0 := (HB.out.cell (World.block_lt_of_cell? w _ hx153_0)).trans hx153_0
                                have HR153_0 := Aside0.mk hi153_0
                                have HC153_0 := Aside0.mk hl153_0
                                clear hi153_0 hl153_0
                                replace p153 := eq_true p153
                                replace q153 := eq_true q153
                                obtain ⟨Ao23, co23, eo23⟩ := Kd.R_slice HO_7.out
                                subst eo23
                                go_wp2_with (first | ((with_reducible refine gate_callee (f := 9) rfl ?_); refine goesL_ (some 55) rfl rfl Try.func9 (by kernel_rfl) rfl #[.slice Ao23 x7_2.length co23, .slice A153_0 (rd_L1 l0 x9_2).length c153_0] rfl (by (try simp only [List.map_toArray, List.map_cons, List.map_nil]); first | done | rfl | (simp only [List.length_drop, List.length_take]; rfl)) ?_; (with_reducible refine (log_Add.calls kj12 _ _ x7_2 _ _ (rd_L1 l0 x9_2) t154 t155 _ ?side1 ?side2 ?side3 ?side4 A19.out).mono ?_); (case side1 => repeat (first | exact (Kd.R_reads' HO_7.out).2.2 | (with_reducible refine Kd.C_alloc ?_ _) | (with_reducible refine Kd.C_drewN ?_ _) | (with_reducible refine Kd.C_drew ?_))); (case side2 => exact (Kd.R_reads' HO_7.out).2.1); (case side3 => repeat (first | exact (Kd.C_below HR153_0.out HB.out) | (with_reducible refine Kd.C_alloc ?_ _) | (with_reducible refine Kd.C_drewN ?_ _) | (with_reducible refine Kd.C_drew ?_))); (case side4 => exact HC153_0.out); rintro e w24 ⟨v156, rfl, ho0, hb⟩; refine ⟨_, rfl, ?_⟩; have n0_ := Aside0.mk (Kd.R_elder' (by (with_reducible repeat (first | apply Kd.R_alloc | apply Kd.R_drewN | apply Kd.R_drew)); exact HO_7.out) (Kd.R_base ho0) hb); have n1_ := Aside0.mk (Kd.R_below (by (with_reducible repeat (first | apply Kd.R_alloc | apply Kd.R_drewN | apply Kd.R_drew)); exact HO_8.out) hb); have n2_ := Aside0.mk (Kd.R_lower (Kd.R_new' ho0 (Kd.R_lt (by (with_reducible repeat (first | apply Kd.R_alloc | apply Kd.R_drewN | apply Kd.R_drew)); exact HO_7.out))) (below_size (by repeat (first | (with_reducible first | exact HB.out | apply below_alloc | apply pw_below_drewN | apply below_drew1) | exact HB.out)))); have n3_ := Aside0.mk (below_step (by repeat (first | (with_reducible first | exact HB.out | apply below_alloc | apply pw_below_drewN | apply below_drew1) | exact HB.out)) hb); clear HO_7; clear HO_8; clear HB; have HO_7 := n0_; have HO_8 := n1_; have HO157 := n2_; have HB := n3_; clear n0_ n1_ n2_ n3_; (try clear hb); (try clear hb2); (try clear hk); (try clear hi); (try clear ho0); obtain ⟨Ao25, co25, eo25⟩ := Kd.R_slice HO157.out; subst eo25; have p158 : 0 ≤ (x9_2 : Int) := of_decide_eq_true (by first | (with_reducible assumption) | assumption); have q158 : x9_2 < (l0.length : Int) := of_decide_eq_true (by first | (with_reducible assumption) | assumption); obtain ⟨ad158, A158_0, c158_0, e158, hx158_0, hl158_0, hi158_0⟩ := at_L1 HR0.out x9_2 p158 q158; obtain rfl : ad153 = ad158 := (by injection e158); replace hx158_0 := (HB.out.cell (World.block_lt_of_cell? w _ hx158_0)).trans hx158_0; have HR158_0 := Aside0.mk hi158_0; have HC158_0 := Aside0.mk hl158_0; clear hi158_0 hl158_0; replace p158 := eq_true p158; replace q158 := eq_true q158) | ((with_reducible refine gate_builtin (b := .append) (xs := #[.tmp 75, .tmp 78]) rfl ?_); (try (refine gate_guard (by rfl) ?_; dsimp only)); at_builtin; refine Kd.R_append (Kd.int .i64) (w0 := w) w.heap.size rfl (.tmp 75) (.tmp 78) 26 3 (.int .i64 0) 8 rfl Try.underlying26 info3 rfl (by decide) (by omega) u8 x8_2 (t154.length : Int) [.int .i64 (t154.length : Int)] (fun _ => True) (fun _ => False) rfl rfl ?aP (fun _ hk => hk.elim) ?aF ?aO ?aB ?aS ?aL ?_; (case aP => exact rfl); (case aB => exact (by repeat (first | (with_reducible first | exact HB.out | apply below_alloc | apply pw_below_drewN | apply below_drew1) | exact HB.out))); (case aF => exact (fun _ _ => trivial)); (case aO => exact (by (with_reducible repeat (first | apply Kd.R_alloc | apply Kd.R_drewN | apply Kd.R_drew)); exact HO_8.out)); (case aS => exact (below_size (by repeat (first | (with_reducible first | exact HB.out | apply below_alloc | apply pw_below_drewN | apply below_drew1) | exact HB.out)))); (case aL => have := LMc22.out; omega); intro v160 w26 ho hb hg hat; rw [← Ny159.out] at ho; have n0_ := Aside0.mk (Kd.R_over' (by (with_reducible repeat (first | apply Kd.R_alloc | apply Kd.R_drewN | apply Kd.R_drew)); exact HO_7.out) (Kd.R_typed (by (with_reducible repeat (first | apply Kd.R_alloc | apply Kd.R_drewN | apply Kd.R_drew)); exact HO_8.out)) (by decide) hg); have n1_ := Aside0.mk (Kd.R_over' (by (with_reducible repeat (first | apply Kd.R_alloc | apply Kd.R_drewN | apply Kd.R_drew)); exact HO157.out) (Kd.R_typed (by (with_reducible repeat (first | apply Kd.R_alloc | apply Kd.R_drewN | apply Kd.R_drew)); exact HO_8.out)) (by decide) hg); have n2_ := Aside0.mk (hb); have n3_ := Aside0.mk (ho); clear HO_7; clear HO157; clear HB; clear HO_8; have HO_7 := n0_; have HO157 := n1_; have HB := n2_; have HO161 := n3_; clear n0_ n1_ n2_ n3_; clear ho hb hg hat))
                                go_roundg kj12
                                case measure => have := HJ5.out; have := HK2.out; have := HJ12.out; omega
                                case rel => exact ⟨(t154), (y159), (wrap64 (x9_2 + 1)), (by first | rfl | (simp; done) | (simp [*]; done)), H', ⟨by have := HJ5.out; have := HK2.out; have := HJ12.out; omega⟩, ⟨by (with_reducible repeat (first | apply Kd.R_alloc | apply Kd.R_drewN | apply Kd.R_drew)); exact Kd.R_mono HO157.out (fun _ hk => trivial)⟩, ⟨by (with_reducible repeat (first | apply Kd.R_alloc | apply Kd.R_drewN | apply Kd.R_drew)); exact HO161.out⟩, ⟨by repeat (first | (with_reducible first | exact HB.out | apply below_alloc | apply pw_below_drewN | apply below_drew1) | exact HB.out)⟩⟩
                              · rw [if_neg c22] at H
                                exact absurd H (by simp)
                            · rw [if_neg c21] at H
                              have c21b0 : ((t154.length : Int) == (wrap64 ((wrap64 ((x7_2.length : Int) + ((rd_L1 l0 x9_2).length : Int))) + 4))) = false := beq_eq_false_iff_ne.mpr c21
                              have c21b1 : ((t154.length : Int) != (wrap64 ((wrap64 ((x7_2.length : Int) + ((rd_L1 l0 x9_2).length : Int))) + 4))) = true := bne_iff_ne.mpr c21
                              obtain rfl := Option.some.inj H
                              have p153 : 0 ≤ (x9_2 : Int) := of_decide_eq_true (by first | (with_reducible assumption) | assumption)
                              have q153 : x9_2 < (l0.length : Int) := of_decide_eq_true (by first | (with_reducible assumption) | assumption)
                              obtain ⟨ad153, A153_0, c153_0, e153, hx153_0, hl153_0, hi153_0⟩ := at_L1 HR0.out x9_2 p153 q153
                              cases e153
                              replace hx153_0 := (HB.out.cell (World.block_lt_of_cell? w _ hx153_0)).trans hx153_0
                              have HR153_0 := Aside0.mk hi153_0
                              have HC153_0 := Aside0.mk hl153_0
                              clear hi153_0 hl153_0
                              replace p153 := eq_true p153
                              replace q153 := eq_true q153
                              obtain ⟨Ao27, co27, eo27⟩ := Kd.R_slice HO_7.out
                              subst eo27
                              go_wp2_with (first | ((with_reducible refine gate_callee (f := 9) rfl ?_); refine goesL_ (some 55) rfl rfl Try.func9 (by kernel_rfl) rfl #[.slice Ao27 x7_2.length co27, .slice A153_0 (rd_L1 l0 x9_2).length c153_0] rfl (by (try simp only [List.map_toArray, List.map_cons, List.map_nil]); first | done | rfl | (simp only [List.length_drop, List.length_take]; rfl)) ?_; (with_reducible refine (log_Add.calls kj12 _ _ x7_2 _ _ (rd_L1 l0 x9_2) t154 t155 _ ?side1 ?side2 ?side3 ?side4 A19.out).mono ?_); (case side1 => repeat (first | exact (Kd.R_reads' HO_7.out).2.2 | (with_reducible refine Kd.C_alloc ?_ _) | (with_reducible refine Kd.C_drewN ?_ _) | (with_reducible refine Kd.C_drew ?_))); (case side2 => exact (Kd.R_reads' HO_7.out).2.1); (case side3 => repeat (first | exact (Kd.C_below HR153_0.out HB.out) | (with_reducible refine Kd.C_alloc ?_ _) | (with_reducible refine Kd.C_drewN ?_ _) | (with_reducible refine Kd.C_drew ?_))); (case side4 => exact HC153_0.out); rintro e w28 ⟨v156, rfl, ho0, hb⟩; refine ⟨_, rfl, ?_⟩; have n0_ := Aside0.mk (Kd.R_elder' (by (with_reducible repeat (first | apply Kd.R_alloc | apply Kd.R_drewN | apply Kd.R_drew)); exact HO_7.out) (Kd.R_base ho0) hb); have n1_ := Aside0.mk (Kd.R_below (by (with_reducible repeat (first | apply Kd.R_alloc | apply Kd.R_drewN | apply Kd.R_drew)); exact HO_8.out) hb); have n2_ := Aside0.mk (Kd.R_lower (Kd.R_new' ho0 (Kd.R_lt (by (with_reducible repeat (first | apply Kd.R_alloc | apply Kd.R_drewN | apply Kd.R_drew)); exact HO_7.out))) (below_size (by repeat (first | (with_reducible first | exact HB.out | apply below_alloc | apply pw_below_drewN | apply below_drew1) | exact HB.out)))); have n3_ := Aside0.mk (below_step (by repeat (first | (with_reducible first | exact HB.out | apply below_alloc | apply pw_below_drewN | apply below_drew1) | exact HB.out)) hb); clear HO_7; clear HO_8; clear HB; have HO_7 := n0_; have HO_8 := n1_; have HO157 := n2_; have HB := n3_; clear n0_ n1_ n2_ n3_; (try clear hb); (try clear hb2); (try clear hk); (try clear hi); (try clear ho0); obtain ⟨Ao29, co29, eo29⟩ := Kd.R_slice HO157.out; subst eo29; have p158 : 0 ≤ (x9_2 : Int) := of_decide_eq_true (by first | (with_reducible assumption) | assumption); have q158 : x9_2 < (l0.length : Int) := of_decide_eq_true (by first | (with_reducible assumption) | assumption); obtain ⟨ad158, A158_0, c158_0, e158, hx158_0, hl158_0, hi158_0⟩ := at_L1 HR0.out x9_2 p158 q158; obtain rfl : ad153 = ad158 := (by injection e158); replace hx158_0 := (HB.out.cell (World.block_lt_of_cell? w _ hx158_0)).trans hx158_0; have HR158_0 := Aside0.mk hi158_0; have HC158_0 := Aside0.mk hl158_0; clear hi158_0 hl158_0; replace p158 := eq_true p158; replace q158 := eq_true q158))
                              go_ret
                              exact ⟨by first | rfl | (simp [errW_none, errW_some] <;> rfl) | (simp [*, errW_none, errW_some] <;> rfl), by repeat (first | (with_reducible first | exact HB.out | apply below_alloc | apply pw_below_drewN | apply below_drew1) | exact HB.out)⟩
                          · rw [if_neg c20] at H
                            have c20b0 : (t155 == 0) = false := beq_eq_false_iff_ne.mpr c20
                            have c20b1 : (t155 != 0) = true := bne_iff_ne.mpr c20
                            obtain rfl := Option.some.inj H
                            have p153 : 0 ≤ (x9_2 : Int) := of_decide_eq_true (by first | (with_reducible assumption) | assumption)
                            have q153 : x9_2 < (l0.length : Int) := of_decide_eq_true (by first | (with_reducible assumption) | assumption)
                            obtain ⟨ad153, A153_0, c153_0, e153, hx153_0, hl153_0, hi153_0⟩ := at_L1 HR0.out x9_2 p153 q153
                            cases e153
                            replace hx153_0 := (HB.out.cell (World.block_lt_of_cell? w _ hx153_0)).trans hx153_0
                            have HR153_0 := Aside0.mk hi153_0
                            have HC153_0 := Aside0.mk hl153_0
                            clear hi153_0 hl153_0
                            replace p153 := eq_true p153
                            replace q153 := eq_true q153
                            obtain ⟨Ao30, co30, eo30⟩ := Kd.R_slice HO_7.out
                            subst eo30
                            go_wp2_with (first | ((with_reducible refine gate_callee (f := 9) rfl ?_); refine goesL_ (some 55) rfl rfl Try.func9 (by kernel_rfl) rfl #[.slice Ao30 x7_2.length co30, .slice A153_0 (rd_L1 l0 x9_2).length c153_0] rfl (by (try simp only [List.map_toArray, List.map_cons, List.map_nil]); first | done | rfl | (simp only [List.length_drop, List.length_take]; rfl)) ?_; (with_reducible refine (log_Add.calls kj12 _ _ x7_2 _ _ (rd_L1 l0 x9_2) t154 t155 _ ?side1 ?side2 ?side3 ?side4 A19.out).mono ?_); (case side1 => repeat (first | exact (Kd.R_reads' HO_7.out).2.2 | (with_reducible refine Kd.C_alloc ?_ _) | (with_reducible refine Kd.C_drewN ?_ _) | (with_reducible refine Kd.C_drew ?_))); (case side2 => exact (Kd.R_reads' HO_7.out).2.1); (case side3 => repeat (first | exact (Kd.C_below HR153_0.out HB.out) | (with_reducible refine Kd.C_alloc ?_ _) | (with_reducible refine Kd.C_drewN ?_ _) | (with_reducible refine Kd.C_drew ?_))); (case side4 => exact HC153_0.out); rintro e w31 ⟨v156, rfl, ho0, hb⟩; refine ⟨_, rfl, ?_⟩; have n0_ := Aside0.mk (Kd.R_elder' (by (with_reducible repeat (first | apply Kd.R_alloc | apply Kd.R_drewN | apply Kd.R_drew)); exact HO_7.out) (Kd.R_base ho0) hb); have n1_ := Aside0.mk (Kd.R_below (by (with_reducible repeat (first | apply Kd.R_alloc | apply Kd.R_drewN | apply Kd.R_drew)); exact HO_8.out) hb); have n2_ := Aside0.mk (Kd.R_lower (Kd.R_new' ho0 (Kd.R_lt (by (with_reducible repeat (first | apply Kd.R_alloc | apply Kd.R_drewN | apply Kd.R_drew)); exact HO_7.out))) (below_size (by repeat (first | (with_reducible first | exact HB.out | apply below_alloc | apply pw_below_drewN | apply below_drew1) | exact HB.out)))); have n3_ := Aside0.mk (below_step (by repeat (first | (with_reducible first | exact HB.out | apply below_alloc | apply pw_below_drewN | apply below_drew1) | exact HB.out)) hb); clear HO_7; clear HO_8; clear HB; have HO_7 := n0_; have HO_8 := n1_; have HO157 := n2_; have HB := n3_; clear n0_ n1_ n2_ n3_; (try clear hb); (try clear hb2); (try clear hk); (try clear hi); (try clear ho0)))
                            go_ret
                            exact ⟨by first | rfl | (simp [errW_none, errW_some] <;> rfl) | (simp [*, errW_none, errW_some] <;> rfl), by repeat (first | (with_reducible first | exact HB.out | apply below_alloc | apply pw_below_drewN | apply below_drew1) | exact HB.out)⟩
                        · rw [if_neg c18] at H
                          exact absurd H (by simp)
                      · rw [if_neg c17] at H
                        exact absurd H (by simp)
              · rw [if_neg c12] at H
                have c12b0 : decide (x9_2 < (l0.length : Int)) = false := decide_eq_false c12
                clear c12
                replace H := Option.bind_eq_some_iff.mp H
                obtain ⟨⟨t162, t163⟩, A320, H⟩ := H
                replace H : (if t163 = (x7_2.length : Int) then ((bailiwickref20_Same.f k2 t162 l0).bind fun t166 => (bailiwicklaw20_LogPrefix.j3 k2 l0 a1 l2 x7_2 x8_2 (!t166))) else (bailiwicklaw20_LogPrefix.j3 k2 l0 a1 l2 x7_2 x8_2 true)) = some r := H
                have A32 := Aside0.mk A320
                clear A320
                have HC33 := Aside0.mk H
                clear H
                obtain ⟨Ao34, co34, eo34⟩ := Kd.R_slice HO_7.out
                subst eo34
                go_upto_region 18 with (first | ((with_reducible refine gate_callee (f := 10) rfl ?_); refine goesL_ (some 82) rfl rfl Try.func10 (by kernel_rfl) rfl #[.slice Ao34 x7_2.length co34] rfl (by (try simp only [List.map_toArray, List.map_cons, List.map_nil]); first | done | rfl | (simp only [List.length_drop, List.length_take]; rfl)) ?_; (with_reducible refine (log_Read.calls k2 _ _ x7_2 t162 t163 _ ?side1 ?side2 A32.out).mono ?_); (case side1 => repeat (first | exact (Kd.R_reads' HO_7.out).2.2 | (with_reducible refine Kd.C_alloc ?_ _) | (with_reducible refine Kd.C_drewN ?_ _) | (with_reducible refine Kd.C_drew ?_))); (case side2 => exact (Kd.R_reads' HO_7.out).2.1); rintro e w35 ⟨v164, rfl, ho0, hb⟩; refine ⟨_, rfl, ?_⟩; have n0_ := Aside0.mk (Kd.R_below (by (with_reducible repeat (first | apply Kd.R_alloc | apply Kd.R_drewN | apply Kd.R_drew)); exact HO_7.out) hb); have n1_ := Aside0.mk (Kd.R_below (by (with_reducible repeat (first | apply Kd.R_alloc | apply Kd.R_drewN | apply Kd.R_drew)); exact HO_8.out) hb); have n2_ := Aside0.mk (Kd.S_lower (Kd.S_new' ho0 (Kd.R_lt (by (with_reducible repeat (first | apply Kd.R_alloc | apply Kd.R_drewN | apply Kd.R_drew)); exact HO_7.out))) (below_size (by repeat (first | (with_reducible first | exact HB.out | apply below_alloc | apply pw_below_drewN | apply below_drew1) | exact HB.out)))); have n3_ := Aside0.mk (below_step (by repeat (first | (with_reducible first | exact HB.out | apply below_alloc | apply pw_below_drewN | apply below_drew1) | exact HB.out)) hb); clear HO_7; clear HO_8; clear HB; have HO_7 := n0_; have HO_8 := n1_; have HO165 := n2_; have HB := n3_; clear n0_ n1_ n2_ n3_; (try clear hb); (try clear hb2); (try clear hk); (try clear hi); (try clear ho0)))
                (try simp only [Act.put, List.setIfInBounds_toArray, List.set_cons_zero, List.set_cons_succ])
                go_cut [94] (fun v94 wc => ∃ (kq : Nat) (x94_32 : Bool), v94 = .bool x94_32 ∧ Aside0 (bailiwicklaw20_LogPrefix.j3 kq l0 a1 l2 x7_2 x8_2 x94_32 = some r) ∧ Aside0 (kq ≤ k2) ∧ Aside0 (Kd.R (Kd.int .u8) 5 wc w.heap.size (fun _ => True) (.slice Ao34 x7_2.length co34) x7_2) ∧ Aside0 (Kd.R (Kd.int .i64) 3 wc w.heap.size (fun _ => True) u8 x8_2) ∧ Aside0 (Below w.heap.size w wc))
                case first =>
                  have H := HC33.out
                  clear HC33
                  by_cases c36 : t163 = (x7_2.length : Int)
                  · rw [if_pos c36] at H
                    have c36b0 : (t163 == (x7_2.length : Int)) = true := beq_iff_eq.mpr c36
                    have c36b1 : (t163 != (x7_2.length : Int)) = false := bne_eq_false_iff_eq.mpr c36
                    clear c36
                    (first | rw [c36b0] | (simp only [i64_w, i32_w]; rw [c36b0]) | skip)
                    replace H := Option.bind_eq_some_iff.mp H
                    obtain ⟨t166, A370, H⟩ := H
                    replace H : (bailiwicklaw20_LogPrefix.j3 k2 l0 a1 l2 x7_2 x8_2 (!t166)) = some r := H
                    have A37 := Aside0.mk A370
                    clear A370
                    have H' := Aside0.mk H
                    clear H
                    obtain ⟨Ao38, co38, eo38⟩ := Kd.S_slice HO165.out
                    subst eo38
                    go_wp2_with (first | (go_at_call 11; (with_reducible refine (bailiwickref20_Same.calls k2 _ _ t162 _ _ l0 t166 _ ?side1 ?side2 ?side3 ?side4 A37.out).mono ?_); (case side1 => repeat (first | exact (Kd.S_reads' HO165.out).2.2 | (with_reducible refine Kd.C_alloc ?_ _) | (with_reducible refine Kd.C_drewN ?_ _) | (with_reducible refine Kd.C_drew ?_))); (case side2 => exact (Kd.S_reads' HO165.out).2.1); (case side3 => repeat (first | exact (Kd.C_below HR0.out HB.out) | (with_reducible refine Kd.C_alloc ?_ _) | (with_reducible refine Kd.C_drewN ?_ _) | (with_reducible refine Kd.C_drew ?_))); (case side4 => exact HC0.out); rintro e w' ⟨rfl, ⟨nd, rfl⟩⟩))
                    go_meet
                    case rel => exact ⟨_, (!t166), (by first | rfl | (simp; done) | (simp [*]; done)), H', ⟨by have := HJ5.out; have := HK2.out; first | omega | exact Nat.le_refl _⟩, ⟨by (with_reducible repeat (first | apply Kd.R_alloc | apply Kd.R_drewN | apply Kd.R_drew)); exact HO_7.out⟩, ⟨by (with_reducible repeat (first | apply Kd.R_alloc | apply Kd.R_drewN | apply Kd.R_drew)); exact HO_8.out⟩, ⟨by repeat (first | (with_reducible first | exact HB.out | apply below_alloc | apply pw_below_drewN | apply below_drew1) | exact HB.out)⟩⟩
                  · rw [if_neg c36] at H
                    have c36b0 : (t163 == (x7_2.length : Int)) = false := beq_eq_false_iff_ne.mpr c36
                    have c36b1 : (t163 != (x7_2.length : Int)) = true := bne_iff_ne.mpr c36
                    (first | rw [c36b0] | (simp only [i64_w, i32_w]; rw [c36b0]) | skip)
                    have H' := Aside0.mk H
                    clear H
                    go_wp2
                    go_meet
                    case rel => exact ⟨_, (true), (by first | rfl | (simp; done) | (simp [*]; done)), H', ⟨by have := HJ5.out; have := HK2.out; first | omega | exact Nat.le_refl _⟩, ⟨by (with_reducible repeat (first | apply Kd.R_alloc | apply Kd.R_drewN | apply Kd.R_drew)); exact HO_7.out⟩, ⟨by (with_reducible repeat (first | apply Kd.R_alloc | apply Kd.R_drewN | apply Kd.R_drew)); exact HO_8.out⟩, ⟨by repeat (first | (with_reducible first | exact HB.out | apply below_alloc | apply pw_below_drewN | apply below_drew1) | exact HB.out)⟩⟩
                case rest =>
                  clear HC33
                  try clear c1
                  try clear p1
                  try clear q1
                  try clear hx1
                  try clear c2
                  try clear p2
                  try clear c3
                  try clear c5
                  try clear p6
                  try clear c8
                  try clear c8b0
                  try clear c8b1
                  try clear c9
                  try clear c10
                  try clear c12
                  try clear c12b0
                  try clear c14
                  try clear c14b0
                  try clear c15
                  try clear c15b0
                  try clear c15b1
                  try clear p15
                  try clear q15
                  try clear hx15
                  try clear c16
                  try clear c17
                  try clear c17b0
                  try clear c18
                  try clear c18b0
                  try clear c20
                  try clear c20b0
                  try clear c20b1
                  try clear c21
                  try clear c21b0
                  try clear c21b1
                  try clear c22
                  try clear c36
                  try clear c36b0
                  try clear c36b1
                  try clear hx151_0
                  try clear hx152_0
                  try clear hx153_0
                  try clear hx158_0
                  try clear p1
                  try clear p15
                  try clear p151
                  try clear p152
                  try clear p153
                  try clear p158
                  try clear p2
                  try clear q1
                  try clear q15
                  try clear q151
                  try clear q152
                  try clear q153
                  try clear q158
                  obtain ⟨kq, x94_32, rfl, HA, HJ32, HO_7, HO_8, HB⟩ := hcut
                  cases kq with
                  | zero => exact absurd HA.out (by simp [bailiwicklaw20_LogPrefix.j3])
                  | succ kj32 =>
                    have H := HA.out
                    clear HA
                    simp only [bailiwicklaw20_LogPrefix.j3] at H
                    by_cases c39 : x94_32 = true
                    · subst c39
                      have H1 : (some false) = some r := by rw [if_pos rfl] at H; exact H
                      clear H
                      have H := H1
                      clear H1
                      obtain rfl := Option.some.inj H
                      go_wp2
                      go_ret
                      exact ⟨by first | rfl | (simp [errW_none, errW_some] <;> rfl) | (simp [*, errW_none, errW_some] <;> rfl), by repeat (first | (with_reducible first | exact HB.out | apply below_alloc | apply pw_below_drewN | apply below_drew1) | exact HB.out)⟩
                    · replace c39 := Bool.eq_false_iff.mpr c39
                      subst c39
                      have H1 : (if (wrap64 ((x7_2.length : Int) + 1)) = 0 then (none) else (bailiwicklaw20_LogPrefix.l1 kj32 l0 l2 x7_2 x8_2 (Int.tmod (wrap64 (a1)) (wrap64 ((x7_2.length : Int) + 1))) 0)) = some r := by rw [if_neg (show ¬ (false = true) by decide)] at H; exact H
                      clear H
                      have H := H1
                      clear H1
                      by_cases c40 : (wrap64 ((x7_2.length : Int) + 1)) = 0
                      · rw [if_pos c40] at H
                        exact absurd H (by simp)
                      · rw [if_neg c40] at H
                        have c40b0 : ((wrap64 ((x7_2.length : Int) + 1)) == 0) = false := beq_eq_false_iff_ne.mpr c40
                        have c40b1 : ((wrap64 ((x7_2.length : Int) + 1)) != 0) = true := bne_iff_ne.mpr c40
                        have HC41 := Aside0.mk H
                        clear H
                        go_upto_block 2 with (fail)
                        go_cut [15] (fun v15 wc => ∃ (kq : Nat) (x15_40 : Int), v15 = .int .i64 x15_40 ∧ Aside0 (bailiwicklaw20_LogPrefix.j5 kq l0 l2 x7_2 x8_2 (Int.tmod (wrap64 (a1)) (wrap64 ((x7_2.length : Int) + 1))) x15_40 = some r) ∧ Aside0 (kq ≤ kj32) ∧ Aside0 (Kd.R (Kd.int .u8) 5 wc w.heap.size (fun _ => True) (.slice Ao34 x7_2.length co34) x7_2) ∧ Aside0 (Kd.R (Kd.int .i64) 3 wc w.heap.size (fun _ => True) u8 x8_2) ∧ Aside0 (Below w.heap.size w wc))
                        case first =>
                          have H := HC41.out
                          clear HC41
                          have H' := Aside0.mk H
                          clear H
                          go_wp2
                          go_loopg [15] kj32 (fun kq v15 w' => ∃ (x15_4 : Int), v15 = .int .i64 x15_4 ∧ Aside0 (bailiwicklaw20_LogPrefix.l1 kq l0 l2 x7_2 x8_2 (Int.tmod (wrap64 (a1)) (wrap64 ((x7_2.length : Int) + 1))) x15_4 = some r) ∧ Aside0 (kq ≤ kj32) ∧ Aside0 (Kd.R (Kd.int .u8) 5 w' w.heap.size (fun _ => True) (.slice Ao34 x7_2.length co34) x7_2) ∧ Aside0 (Kd.R (Kd.int .i64) 3 w' w.heap.size (fun _ => True) u8 x8_2) ∧ Aside0 (Below w.heap.size w w'))
                          case atStart => exact ⟨(0), (by first | rfl | (simp; done) | (simp [*]; done)), H', ⟨Nat.le_refl _⟩, ⟨by (with_reducible repeat (first | apply Kd.R_alloc | apply Kd.R_drewN | apply Kd.R_drew)); exact HO_7.out⟩, ⟨by (with_reducible repeat (first | apply Kd.R_alloc | apply Kd.R_drewN | apply Kd.R_drew)); exact HO_8.out⟩, ⟨by repeat (first | (with_reducible first | exact HB.out | apply below_alloc | apply pw_below_drewN | apply below_drew1) | exact HB.out)⟩⟩
                          case round =>
                            clear H'
                            try clear c1
                            try clear p1
                            try clear q1
                            try clear hx1
                            try clear c2
                            try clear p2
                            try clear c3
                            try clear c4
                            try clear c5
                            try clear p6
                            try clear c8
                            try clear c8b0
                            try clear c8b1
                            try clear c9
                            try clear c10
                            try clear c12
                            try clear c12b0
                            try clear c14
                            try clear c14b0
                            try clear c15
                            try clear c15b0
                            try clear c15b1
                            try clear p15
                            try clear q15
                            try clear hx15
                            try clear c16
                            try clear c17
                            try clear c17b0
                            try clear c18
                            try clear c18b0
                            try clear c20
                            try clear c20b0
                            try clear c20b1
                            try clear c21
                            try clear c21b0
                            try clear c21b1
                            try clear c22
                            try clear c36
                            try clear c36b0
                            try clear c36b1
                            try clear c39
                            try clear c40
                            try clear c40b0
                            try clear c40b1
                            try clear hx151_0
                            try clear hx152_0
                            try clear hx153_0
                            try clear hx158_0
                            try clear p1
                            try clear p15
                            try clear p151
                            try clear p152
                            try clear p153
                            try clear p158
                            try clear p2
                            try clear p6
                            try clear q1
                            try clear q15
                            try clear q151
                            try clear q152
                            try clear q153
                            try clear q158
                            obtain ⟨x15_4, rfl, HA, HK4, HO_7, HO_8, HB⟩ := hrel
                            cases gk with
                            | zero => exact absurd HA.out (by simp [bailiwicklaw20_LogPrefix.l1])
                            | succ k4 =>
                              have H := HA.out
                              clear HA
                              simp only [bailiwicklaw20_LogPrefix.l1] at H
                              by_cases c42 : x15_4 < (l0.length : Int)
                              · rw [if_pos c42] at H
                                have c42b0 : decide (x15_4 < (l0.length : Int)) = true := decide_eq_true c42
                                clear c42
                                (first | rw [c42b0] | (simp only [i64_w, i32_w]; rw [c42b0]) | skip)
                                obtain ⟨ji43, hji43⟩ : ∃ j_ : Int, (wrap64 (x15_4 + 1)) = j_ := ⟨_, rfl⟩
                                replace H : (if 0 ≤ (ji43) then (if (ji43) < (x8_2.length : Int) then (if (rd x8_2 (ji43)) ≤ (Int.tmod (wrap64 (a1)) (wrap64 ((x7_2.length : Int) + 1))) then (bailiwicklaw20_LogPrefix.l1 k4 l0 l2 x7_2 x8_2 (Int.tmod (wrap64 (a1)) (wrap64 ((x7_2.length : Int) + 1))) ji43) else (bailiwicklaw20_LogPrefix.j5 k4 l0 l2 x7_2 x8_2 (Int.tmod (wrap64 (a1)) (wrap64 ((x7_2.length : Int) + 1))) x15_4)) else (none)) else (none)) = some r := by first | (rw [hji43] at H; exact H) | (simp only [hji43] at H ⊢; exact H)
                                have hji43w : (IntKind.i64.wrap (x15_4 + 1)) = ji43 := (i64_w _).trans hji43
                                by_cases c44 : 0 ≤ (ji43)
                                · rw [if_pos c44] at H
                                  have c44b0 : decide (0 ≤ (ji43)) = true := decide_eq_true c44
                                  clear c44
                                  by_cases c45 : (ji43) < (x8_2.length : Int)
                                  · rw [if_pos c45] at H
                                    have c45b0 : decide ((ji43) < (x8_2.length : Int)) = true := decide_eq_true c45
                                    clear c45
                                    by_cases c46 : (rd x8_2 (ji43)) ≤ (Int.tmod (wrap64 (a1)) (wrap64 ((x7_2.length : Int) + 1)))
                                    · rw [if_pos c46] at H
                                      have c46b0 : decide ((rd x8_2 (ji43)) ≤ (Int.tmod (wrap64 (a1)) (wrap64 ((x7_2.length : Int) + 1)))) = true := decide_eq_true c46
                                      clear c46
                                      have H' := Aside0.mk H
                                      clear H
                                      obtain ⟨Ao47, co47, eo47⟩ := Kd.R_slice HO_8.out
                                      subst eo47
                                      have p167 : 0 ≤ ((ji43) : Int) := of_decide_eq_true (by first | (with_reducible assumption) | assumption)
                                      have q167 : (ji43) < (x8_2.length : Int) := of_decide_eq_true (by first | (with_reducible assumption) | assumption)
                                      obtain ⟨ad167, e167, hx167_0⟩ := Kd.at_int (Kd.R_reads' HO_8.out).2.2 (ji43) p167 q167
                                      cases e167
                                      replace p167 := eq_true p167
                                      replace q167 := eq_true q167
                                      go_wp2
                                      go_roundg k4
                                      case measure => have := HJ5.out; have := HK2.out; have := HJ32.out; have := HK4.out; omega
                                      case rel => exact ⟨(ji43), (by first | rfl | (simp; done) | (simp only [← hji43] <;> (first | rfl | simp)) | (simp [*]; done)), H', ⟨by have := HJ5.out; have := HK2.out; have := HJ32.out; have := HK4.out; omega⟩, ⟨by (with_reducible repeat (first | apply Kd.R_alloc | apply Kd.R_drewN | apply Kd.R_drew)); exact HO_7.out⟩, ⟨by (with_reducible repeat (first | apply Kd.R_alloc | apply Kd.R_drewN | apply Kd.R_drew)); exact HO_8.out⟩, ⟨by repeat (first | (with_reducible first | exact HB.out | apply below_alloc | apply pw_below_drewN | apply below_drew1) | exact HB.out)⟩⟩
                                    · rw [if_neg c46] at H
                                      have c46b0 : decide ((rd x8_2 (ji43)) ≤ (Int.tmod (wrap64 (a1)) (wrap64 ((x7_2.length : Int) + 1)))) = false := decide_eq_false c46
                                      clear c46
                                      have H' := Aside0.mk H
                                      clear H
                                      obtain ⟨Ao48, co48, eo48⟩ := Kd.R_slice HO_8.out
                                      subst eo48
                                      have p167 : 0 ≤ ((ji43) : Int) := of_decide_eq_true (by first | (with_reducible assumption) | assumption)
                                      have q167 : (ji43) < (x8_2.length : Int) := of_decide_eq_true (by first | (with_reducible assumption) | assumption)
                                      obtain ⟨ad167, e167, hx167_0⟩ := Kd.at_int (Kd.R_reads' HO_8.out).2.2 (ji43) p167 q167
                                      cases e167
                                      replace p167 := eq_true p167
                                      replace q167 := eq_true q167
                                      go_wp2
                                      go_meet
                                      case rel => exact ⟨_, (x15_4), (by first | rfl | (simp; done) | (simp [*]; done)), H', ⟨by have := HJ5.out; have := HK2.out; have := HJ32.out; have := HK4.out; first | omega | exact Nat.le_refl _⟩, ⟨by (with_reducible repeat (first | apply Kd.R_alloc | apply Kd.R_drewN | apply Kd.R_drew)); exact HO_7.out⟩, ⟨by (with_reducible repeat (first | apply Kd.R_alloc | apply Kd.R_drewN | apply Kd.R_drew)); exact HO_8.out⟩, ⟨by repeat (first | (with_reducible first | exact HB.out | apply below_alloc | apply pw_below_drewN | apply below_drew1) | exact HB.out)⟩⟩
                                  · rw [if_neg c45] at H
                                    exact absurd H (by simp)
                                · rw [if_neg c44] at H
                                  exact absurd H (by simp)
                              · rw [if_neg c42] at H
                                have c42b0 : decide (x15_4 < (l0.length : Int)) = false := decide_eq_false c42
                                clear c42
                                (first | rw [c42b0] | (simp only [i64_w, i32_w]; rw [c42b0]) | skip)
                                have H' := Aside0.mk H
                                clear H
                                go_wp2
                                go_meet
                                case rel => exact ⟨_, (x15_4), (by first | rfl | (simp; done) | (simp [*]; done)), H', ⟨by have := HJ5.out; have := HK2.out; have := HJ32.out; have := HK4.out; first | omega | exact Nat.le_refl _⟩, ⟨by (with_reducible repeat (first | apply Kd.R_alloc | apply Kd.R_drewN | apply Kd.R_drew)); exact HO_7.out⟩, ⟨by (with_reducible repeat (first | apply Kd.R_alloc | apply Kd.R_drewN | apply Kd.R_drew)); exact HO_8.out⟩, ⟨by repeat (first | (with_reducible first | exact HB.out | apply below_alloc | apply pw_below_drewN | apply below_drew1) | exact HB.out)⟩⟩
                        case rest =>
                          clear HC41
                          try clear c1
                          try clear p1
                          try clear q1
                          try clear hx1
                          try clear c2
                          try clear p2
                          try clear c3
                          try clear c4
                          try clear c5
                          try clear p6
                          try clear c8
                          try clear c8b0
                          try clear c8b1
                          try clear c9
                          try clear c10
                          try clear c12
                          try clear c12b0
                          try clear c14
                          try clear c14b0
                          try clear c15
                          try clear c15b0
                          try clear c15b1
                          try clear p15
                          try clear q15
                          try clear hx15
                          try clear c16
                          try clear p16
                          try clear q16
                          try clear hx16
                          try clear c17
                          try clear c17b0
                          try clear c18
                          try clear c18b0
                          try clear c20
                          try clear c20b0
                          try clear c20b1
                          try clear c21
                          try clear c21b0
                          try clear c21b1
                          try clear c22
                          try clear c36
                          try clear c36b0
                          try clear c36b1
                          try clear c39
                          try clear c40
                          try clear c40b0
                          try clear c40b1
                          try clear c42
                          try clear c42b0
                          try clear c44
                          try clear c44b0
                          try clear c45
                          try clear c45b0
                          try clear c46
                          try clear c46b0
                          try clear hx151_0
                          try clear hx152_0
                          try clear hx153_0
                          try clear hx158_0
                          try clear hx167_0
                          try clear p1
                          try clear p15
                          try clear p151
                          try clear p152
                          try clear p153
                          try clear p158
                          try clear p167
                          try clear p2
                          try clear p6
                          try clear q1
                          try clear q15
                          try clear q151
                          try clear q152
                          try clear q153
                          try clear q158
                          try clear q167
                          obtain ⟨kq, x15_40, rfl, HA, HJ40, HO_7, HO_8, HB⟩ := hcut
                          cases kq with
                          | zero => exact absurd HA.out (by simp [bailiwicklaw20_LogPrefix.j5])
                          | succ kj40 =>
                            have H := HA.out
                            clear HA
                            simp only [bailiwicklaw20_LogPrefix.j5] at H
                            obtain ⟨ji49, hji49⟩ : ∃ j_ : Int, (Int.tmod (wrap64 (a1)) (wrap64 ((x7_2.length : Int) + 1))) = j_ := ⟨_, rfl⟩
                            replace H : (if 0 ≤ (ji49) then (if (ji49) ≤ (x7_2.length : Int) then ((log_Read.f kj40 (x7_2.take ((ji49) : Int).toNat)).bind fun bt172 => (if 0 ≤ x15_40 then (if x15_40 < (x8_2.length : Int) then (if bt172.2 = (rd x8_2 x15_40) then (if x15_40 ≤ (l0.length : Int) then ((bailiwickref20_Same.f kj40 bt172.1 (l0.take (x15_40 : Int).toNat)).bind fun t181 => (bailiwicklaw20_LogPrefix.j6 kj40 l0 l2 x7_2 (!t181))) else (none)) else (bailiwicklaw20_LogPrefix.j6 kj40 l0 l2 x7_2 true)) else (none)) else (none))) else (none)) else (none)) = some r := by first | (rw [hji49] at H; exact H) | (simp only [hji49] at H ⊢; exact H)
                            by_cases c50 : 0 ≤ (ji49)
                            · rw [if_pos c50] at H
                              have c50b0 := eq_true c50
                              have c50b1 : decide (0 ≤ (ji49)) = true := decide_eq_true c50
                              clear c50
                              by_cases c51 : (ji49) ≤ (x7_2.length : Int)
                              · rw [if_pos c51] at H
                                have c51b0 := eq_true c51
                                have c51b1 : decide ((ji49) ≤ (x7_2.length : Int)) = true := decide_eq_true c51
                                clear c51
                                obtain ⟨y168, hy168⟩ : ∃ y_ : List Int, y_ = (x7_2.take ((ji49) : Int).toNat) := ⟨_, rfl⟩
                                replace H : ((log_Read.f kj40 y168).bind fun bt172 => (if 0 ≤ x15_40 then (if x15_40 < (x8_2.length : Int) then (if bt172.2 = (rd x8_2 x15_40) then (if x15_40 ≤ (l0.length : Int) then ((bailiwickref20_Same.f kj40 bt172.1 (l0.take (x15_40 : Int).toNat)).bind fun t181 => (bailiwicklaw20_LogPrefix.j6 kj40 l0 l2 x7_2 (!t181))) else (none)) else (bailiwicklaw20_LogPrefix.j6 kj40 l0 l2 x7_2 true)) else (none)) else (none))) = some r := by first | (rw [hy168]; with_reducible exact H) | (have H2_ := (Option.bind_some _ _).symm.trans H; rw [hy168]; with_reducible exact H2_) | (have H2_ := (Option.bind_some _ _).symm.trans H; with_reducible exact H2_) | with_reducible exact H | (rw [hy168]; exact H) | exact H
                                have Ny168 := Aside0.mk hy168
                                clear hy168
                                replace H := Option.bind_eq_some_iff.mp H
                                obtain ⟨⟨t172, t173⟩, A520, H⟩ := H
                                replace H : (if 0 ≤ x15_40 then (if x15_40 < (x8_2.length : Int) then (if t173 = (rd x8_2 x15_40) then (if x15_40 ≤ (l0.length : Int) then ((bailiwickref20_Same.f kj40 t172 (l0.take (x15_40 : Int).toNat)).bind fun t181 => (bailiwicklaw20_LogPrefix.j6 kj40 l0 l2 x7_2 (!t181))) else (none)) else (bailiwicklaw20_LogPrefix.j6 kj40 l0 l2 x7_2 true)) else (none)) else (none)) = some r := H
                                have A52 := Aside0.mk A520
                                clear A520
                                have HC53 := Aside0.mk H
                                clear H
                                have q54 : ((ji49) : Int) ≤ ((x7_2.length : Int) : Int) := of_decide_eq_true (by first | (with_reducible assumption) | assumption)
                                obtain ⟨i054, hi054, _, hsz54, _⟩ := info_parts info5
                                have hroom54 : x7_2.length ≤ co34 := (Kd.R_reads' HO_7.out).2.1
                                have hC54 : Kd.C (Kd.int .u8) _ Ao34 x7_2.length x7_2 := (Kd.R_reads' HO_7.out).2.2
                                have hcut54 := cut_to (P := Try.prog) 24 5 .i64 Try.underlying24 hi054 Ao34 x7_2.length co34 (ji49) (of_decide_eq_true (by first | (with_reducible assumption) | assumption)) q54 hroom54
                                have hr54 := Kd.C_take (m := ((ji49) : Int).toNat) hC54 (by omega)
                                have hy54 : y168.length = ((ji49) : Int).toNat := (by rw [Ny168.out, List.length_take]; omega)
                                rw [← Ny168.out] at hr54
                                rw [← hy54] at hcut54
                                have HR171 := Aside0.mk hr54
                                have HC171 := Aside0.mk (show y168.length ≤ co34 from by omega)
                                clear hr54 hC54 hroom54 hi054 hsz54
                                have KY54 := Aside0.mk hy54
                                clear hy54
                                have KL54 := Aside0.mk (show ((ji49) : Int).toNat ≤ x7_2.length from by omega)
                                replace q54 := eq_true q54
                                go_upto_region 25 with (first | ((with_reducible refine gate_callee (f := 10) rfl ?_); refine goesL_ (some 120) rfl rfl Try.func10 (by kernel_rfl) rfl #[.slice Ao34 y168.length co34] rfl (by (try simp only [List.map_toArray, List.map_cons, List.map_nil]); first | done | rfl | (simp only [List.length_drop, List.length_take]; rfl)) ?_; (with_reducible refine (log_Read.calls kj40 _ _ y168 t172 t173 _ ?side1 ?side2 A52.out).mono ?_); (case side1 => repeat (first | exact (by repeat (first | (with_reducible exact HR171.out) | (with_reducible refine Kd.C_alloc ?_ _) | (with_reducible refine Kd.C_drewN ?_ _) | (with_reducible refine Kd.C_drew ?_) | exact HR171.out)) | (with_reducible refine Kd.C_alloc ?_ _) | (with_reducible refine Kd.C_drewN ?_ _) | (with_reducible refine Kd.C_drew ?_))); (case side2 => exact HC171.out); rintro e w55 ⟨v174, rfl, ho0, hb⟩; refine ⟨_, rfl, ?_⟩; have n0_ := Aside0.mk (Kd.R_below (by (with_reducible repeat (first | apply Kd.R_alloc | apply Kd.R_drewN | apply Kd.R_drew)); exact HO_7.out) hb); have n1_ := Aside0.mk (Kd.R_below (by (with_reducible repeat (first | apply Kd.R_alloc | apply Kd.R_drewN | apply Kd.R_drew)); exact HO_8.out) hb); have n2_ := Aside0.mk (Kd.S_lower (Kd.S_new' ho0 (Kd.R_lt (by (with_reducible repeat (first | apply Kd.R_alloc | apply Kd.R_drewN | apply Kd.R_drew)); exact HO_7.out))) (below_size (by repeat (first | (with_reducible first | exact HB.out | apply below_alloc | apply pw_below_drewN | apply below_drew1) | exact HB.out)))); have n3_ := Aside0.mk (Kd.C_below (by repeat (first | (with_reducible exact HR171.out) | (with_reducible refine Kd.C_alloc ?_ _) | (with_reducible refine Kd.C_drewN ?_ _) | (with_reducible refine Kd.C_drew ?_) | exact HR171.out)) hb); have n4_ := Aside0.mk (below_step (by repeat (first | (with_reducible first | exact HB.out | apply below_alloc | apply pw_below_drewN | apply below_drew1) | exact HB.out)) hb); clear HO_7; clear HO_8; clear HR171; clear HB; have HO_7 := n0_; have HO_8 := n1_; have HO175 := n2_; have HR171 := n3_; have HB := n4_; clear n0_ n1_ n2_ n3_ n4_; (try clear hb); (try clear hb2); (try clear hk); (try clear hi); (try clear ho0)))
                                (try simp only [Act.put, List.setIfInBounds_toArray, List.set_cons_zero, List.set_cons_succ])
                                go_cut [136] (fun v136 wc => ∃ (kq : Nat) (x136_52 : Bool), v136 = .bool x136_52 ∧ Aside0 (bailiwicklaw20_LogPrefix.j6 kq l0 l2 x7_2 x136_52 = some r) ∧ Aside0 (kq ≤ kj40) ∧ Aside0 (Kd.R (Kd.int .u8) 5 wc w.heap.size (fun _ => True) (.slice Ao34 x7_2.length co34) x7_2) ∧ Aside0 (Kd.C (Kd.int .u8) wc Ao34 y168.length y168) ∧ Aside0 (Below w.heap.size w wc))
                                case first =>
                                  have H := HC53.out
                                  clear HC53
                                  by_cases c56 : 0 ≤ x15_40
                                  · rw [if_pos c56] at H
                                    have c56b0 : decide (0 ≤ x15_40) = true := decide_eq_true c56
                                    clear c56
                                    (first | rw [c56b0] | (simp only [i64_w, i32_w]; rw [c56b0]) | skip)
                                    by_cases c57 : x15_40 < (x8_2.length : Int)
                                    · rw [if_pos c57] at H
                                      have c57b0 : decide (x15_40 < (x8_2.length : Int)) = true := decide_eq_true c57
                                      clear c57
                                      by_cases c58 : t173 = (rd x8_2 x15_40)
                                      · rw [if_pos c58] at H
                                        have c58b0 : (t173 == (rd x8_2 x15_40)) = true := beq_iff_eq.mpr c58
                                        have c58b1 : (t173 != (rd x8_2 x15_40)) = false := bne_eq_false_iff_eq.mpr c58
                                        clear c58
                                        have c59b0 := eq_true (of_decide_eq_true (by first | (with_reducible assumption) | assumption) : 0 ≤ x15_40)
                                        by_cases c60 : x15_40 ≤ (l0.length : Int)
                                        · rw [if_pos c60] at H
                                          have c60b0 := eq_true c60
                                          have c60b1 : decide (x15_40 ≤ (l0.length : Int)) = true := decide_eq_true c60
                                          clear c60
                                          obtain ⟨y177, hy177⟩ : ∃ y_ : List (List Int), y_ = (l0.take (x15_40 : Int).toNat) := ⟨_, rfl⟩
                                          replace H : ((bailiwickref20_Same.f kj40 t172 y177).bind fun t181 => (bailiwicklaw20_LogPrefix.j6 kj40 l0 l2 x7_2 (!t181))) = some r := by first | (rw [hy177]; with_reducible exact H) | (have H2_ := (Option.bind_some _ _).symm.trans H; rw [hy177]; with_reducible exact H2_) | (have H2_ := (Option.bind_some _ _).symm.trans H; with_reducible exact H2_) | with_reducible exact H | (rw [hy177]; exact H) | exact H
                                          have Ny177 := Aside0.mk hy177
                                          clear hy177
                                          replace H := Option.bind_eq_some_iff.mp H
                                          obtain ⟨t181, A610, H⟩ := H
                                          replace H : (bailiwicklaw20_LogPrefix.j6 kj40 l0 l2 x7_2 (!t181)) = some r := H
                                          have A61 := Aside0.mk A610
                                          clear A610
                                          have H' := Aside0.mk H
                                          clear H
                                          obtain ⟨Ao62, co62, eo62⟩ := Kd.R_slice HO_8.out
                                          subst eo62
                                          have p176 : 0 ≤ (x15_40 : Int) := of_decide_eq_true (by first | (with_reducible assumption) | assumption)
                                          have q176 : x15_40 < (x8_2.length : Int) := of_decide_eq_true (by first | (with_reducible assumption) | assumption)
                                          obtain ⟨ad176, e176, hx176_0⟩ := Kd.at_int (Kd.R_reads' HO_8.out).2.2 x15_40 p176 q176
                                          cases e176
                                          replace p176 := eq_true p176
                                          replace q176 := eq_true q176
                                          have q63 : (x15_40 : Int) ≤ ((l0.length : Int) : Int) := of_decide_eq_true (by first | (with_reducible assumption) | assumption)
                                          obtain ⟨i063, hi063, _, hsz63, _⟩ := info_parts info24
                                          have hroom63 : l0.length ≤ c0 := HC0.out
                                          have hC63 : Kd.C (Kd.slice 5 (Kd.int .u8)) _ A0 l0.length l0 := HR0.out
                                          have hcut63 := cut_to (P := Try.prog) 22 24 .i64 Try.underlying22 hi063 A0 l0.length c0 x15_40 (of_decide_eq_true (by first | (with_reducible assumption) | assumption)) q63 hroom63
                                          have hr63 := Kd.C_take (m := (x15_40 : Int).toNat) hC63 (by omega)
                                          have hy63 : y177.length = (x15_40 : Int).toNat := (by rw [Ny177.out, List.length_take]; omega)
                                          rw [← Ny177.out] at hr63
                                          rw [← hy63] at hcut63
                                          have HR180 := Aside0.mk hr63
                                          have HC180 := Aside0.mk (show y177.length ≤ c0 from by omega)
                                          clear hr63 hC63 hroom63 hi063 hsz63
                                          have KY63 := Aside0.mk hy63
                                          clear hy63
                                          replace q63 := eq_true q63
                                          obtain ⟨Ao64, co64, eo64⟩ := Kd.S_slice HO175.out
                                          subst eo64
                                          go_wp2_with (first | (go_at_call 11; (with_reducible refine (bailiwickref20_Same.calls kj40 _ _ t172 _ _ y177 t181 _ ?side1 ?side2 ?side3 ?side4 A61.out).mono ?_); (case side1 => repeat (first | exact (Kd.S_reads' HO175.out).2.2 | (with_reducible refine Kd.C_alloc ?_ _) | (with_reducible refine Kd.C_drewN ?_ _) | (with_reducible refine Kd.C_drew ?_))); (case side2 => exact (Kd.S_reads' HO175.out).2.1); (case side3 => repeat (first | exact (Kd.C_below HR180.out HB.out) | (with_reducible refine Kd.C_alloc ?_ _) | (with_reducible refine Kd.C_drewN ?_ _) | (with_reducible refine Kd.C_drew ?_))); (case side4 => exact HC180.out); rintro e w' ⟨rfl, ⟨nd, rfl⟩⟩))
                                          go_meet
                                          case rel => exact ⟨_, (!t181), (by first | rfl | (simp; done) | (simp [*]; done)), H', ⟨by have := HJ5.out; have := HK2.out; have := HJ32.out; have := HJ40.out; first | omega | exact Nat.le_refl _⟩, ⟨by (with_reducible repeat (first | apply Kd.R_alloc | apply Kd.R_drewN | apply Kd.R_drew)); exact HO_7.out⟩, ⟨by repeat (first | (with_reducible exact HR171.out) | (with_reducible refine Kd.C_alloc ?_ _) | (with_reducible refine Kd.C_drewN ?_ _) | (with_reducible refine Kd.C_drew ?_) | exact HR171.out)⟩, ⟨by repeat (first | (with_reducible first | exact HB.out | apply below_alloc | apply pw_below_drewN | apply below_drew1) | exact HB.out)⟩⟩
                                        · rw [if_neg c60] at H
                                          exact absurd H (by simp)
                                      · rw [if_neg c58] at H
                                        have c58b0 : (t173 == (rd x8_2 x15_40)) = false := beq_eq_false_iff_ne.mpr c58
                                        have c58b1 : (t173 != (rd x8_2 x15_40)) = true := bne_iff_ne.mpr c58
                                        have H' := Aside0.mk H
                                        clear H
                                        obtain ⟨Ao65, co65, eo65⟩ := Kd.R_slice HO_8.out
                                        subst eo65
                                        have p176 : 0 ≤ (x15_40 : Int) := of_decide_eq_true (by first | (with_reducible assumption) | assumption)
                                        have q176 : x15_40 < (x8_2.length : Int) := of_decide_eq_true (by first | (with_reducible assumption) | assumption)
                                        obtain ⟨ad176, e176, hx176_0⟩ := Kd.at_int (Kd.R_reads' HO_8.out).2.2 x15_40 p176 q176
                                        cases e176
                                        replace p176 := eq_true p176
                                        replace q176 := eq_true q176
                                        go_wp2
                                        go_meet
                                        case rel => exact ⟨_, (true), (by first | rfl | (simp; done) | (simp [*]; done)), H', ⟨by have := HJ5.out; have := HK2.out; have := HJ32.out; have := HJ40.out; first | omega | exact Nat.le_refl _⟩, ⟨by (with_reducible repeat (first | apply Kd.R_alloc | apply Kd.R_drewN | apply Kd.R_drew)); exact HO_7.out⟩, ⟨by repeat (first | (with_reducible exact HR171.out) | (with_reducible refine Kd.C_alloc ?_ _) | (with_reducible refine Kd.C_drewN ?_ _) | (with_reducible refine Kd.C_drew ?_) | exact HR171.out)⟩, ⟨by repeat (first | (with_reducible first | exact HB.out | apply below_alloc | apply pw_below_drewN | apply below_drew1) | exact HB.out)⟩⟩
                                    · rw [if_neg c57] at H
                                      exact absurd H (by simp)
                                  · rw [if_neg c56] at H
                                    exact absurd H (by simp)
                                case rest =>
                                  clear HC53
                                  try clear c1
                                  try clear p1
                                  try clear q1
                                  try clear hx1
                                  try clear c2
                                  try clear p2
                                  try clear c3
                                  try clear c4
                                  try clear c5
                                  try clear q5
                                  try clear c6
                                  try clear p6
                                  try clear q6
                                  try clear c8
                                  try clear c8b0
                                  try clear c8b1
                                  try clear c9
                                  try clear c10
                                  try clear c12
                                  try clear c12b0
                                  try clear c14
                                  try clear c14b0
                                  try clear c15
                                  try clear c15b0
                                  try clear c15b1
                                  try clear p15
                                  try clear q15
                                  try clear hx15
                                  try clear c16
                                  try clear p16
                                  try clear q16
                                  try clear hx16
                                  try clear c17
                                  try clear c17b0
                                  try clear p17
                                  try clear q17
                                  try clear hx17
                                  try clear c18
                                  try clear c18b0
                                  try clear c20
                                  try clear c20b0
                                  try clear c20b1
                                  try clear c21
                                  try clear c21b0
                                  try clear c21b1
                                  try clear c22
                                  try clear c36
                                  try clear c36b0
                                  try clear c36b1
                                  try clear c39
                                  try clear c40
                                  try clear c40b0
                                  try clear c40b1
                                  try clear c42
                                  try clear c42b0
                                  try clear c44
                                  try clear c44b0
                                  try clear c45
                                  try clear c45b0
                                  try clear c46
                                  try clear c46b0
                                  try clear c50
                                  try clear c50b0
                                  try clear c50b1
                                  try clear c51
                                  try clear c51b0
                                  try clear c51b1
                                  try clear q54
                                  try clear c56
                                  try clear c56b0
                                  try clear c57
                                  try clear c57b0
                                  try clear c58
                                  try clear c58b0
                                  try clear c58b1
                                  try clear c59
                                  try clear c59b0
                                  try clear c60
                                  try clear c60b0
                                  try clear c60b1
                                  try clear q63
                                  try clear p64
                                  try clear hx151_0
                                  try clear hx152_0
                                  try clear hx153_0
                                  try clear hx158_0
                                  try clear hx167_0
                                  try clear hx176_0
                                  try clear p1
                                  try clear p15
                                  try clear p151
                                  try clear p152
                                  try clear p153
                                  try clear p158
                                  try clear p16
                                  try clear p167
                                  try clear p176
                                  try clear p2
                                  try clear p6
                                  try clear q1
                                  try clear q15
                                  try clear q151
                                  try clear q152
                                  try clear q153
                                  try clear q158
                                  try clear q16
                                  try clear q167
                                  try clear q176
                                  try clear q54
                                  try clear q63
                                  obtain ⟨kq, x136_52, rfl, HA, HJ52, HO_7, HR171, HB⟩ := hcut
                                  cases kq with
                                  | zero => exact absurd HA.out (by simp [bailiwicklaw20_LogPrefix.j6])
                                  | succ kj52 =>
                                    have H := HA.out
                                    clear HA
                                    simp only [bailiwicklaw20_LogPrefix.j6] at H
                                    by_cases c66 : x136_52 = true
                                    · subst c66
                                      have H1 : (some false) = some r := by rw [if_pos rfl] at H; exact H
                                      clear H
                                      have H := H1
                                      clear H1
                                      obtain rfl := Option.some.inj H
                                      go_wp2
                                      go_ret
                                      exact ⟨by first | rfl | (simp [errW_none, errW_some] <;> rfl) | (simp only [← hji49]; first | rfl | (simp [errW_none, errW_some] <;> rfl)) | (simp [*, errW_none, errW_some] <;> rfl), by repeat (first | (with_reducible first | exact HB.out | apply below_alloc | apply pw_below_drewN | apply below_drew1) | exact HB.out)⟩
                                    · replace c66 := Bool.eq_false_iff.mpr c66
                                      subst c66
                                      have H1 : ((some (([] : List Int) : List Int)).bind fun y182 => (if y182.length + x7_2.length < 140737488355328 then ((some (y182 ++ x7_2 : List Int)).bind fun y185 => (if y185.length + l2.length < 140737488355328 then ((log_Read.f kj52 (y185 ++ l2)).bind fun bt191 => (if bt191.2 ≥ (x7_2.length : Int) then (if (bt191.1.length : Int) ≥ (l0.length : Int) then (if 0 ≤ (l0.length : Int) then (if (l0.length : Int) ≤ (bt191.1.length : Int) then ((bailiwickref20_Same.f kj52 (bt191.1.take ((l0.length : Int) : Int).toNat) l0).bind fun t199 => (some t199)) else (none)) else (none)) else (some false)) else (some false))) else (none))) else (none))) = some r := by rw [if_neg (show ¬ (false = true) by decide)] at H; exact H
                                      clear H
                                      have H := H1
                                      clear H1
                                      obtain ⟨y182, hy182⟩ : ∃ y_ : List Int, y_ = (([] : List Int)) := ⟨_, rfl⟩
                                      replace H : (if y182.length + x7_2.length < 140737488355328 then ((some (y182 ++ x7_2 : List Int)).bind fun y185 => (if y185.length + l2.length < 140737488355328 then ((log_Read.f kj52 (y185 ++ l2)).bind fun bt191 => (if bt191.2 ≥ (x7_2.length : Int) then (if (bt191.1.length : Int) ≥ (l0.length : Int) then (if 0 ≤ (l0.length : Int) then (if (l0.length : Int) ≤ (bt191.1.length : Int) then ((bailiwickref20_Same.f kj52 (bt191.1.take ((l0.length : Int) : Int).toNat) l0).bind fun t199 => (some t199)) else (none)) else (none)) else (some false)) else (some false))) else (none))) else (none)) = some r := by first | (rw [hy182]; with_reducible exact H) | (have H2_ := (Option.bind_some _ _).symm.trans H; rw [hy182]; with_reducible exact H2_) | (have H2_ := (Option.bind_some _ _).symm.trans H; with_reducible exact H2_) | with_reducible exact H | (rw [hy182]; exact H) | exact H
                                      have Ny182 := Aside0.mk hy182
                                      clear hy182
                                      by_cases c67 : y182.length + x7_2.length < 140737488355328
                                      · rw [if_pos c67] at H
                                        have LMc67 := Aside0.mk c67
                                        clear c67
                                        obtain ⟨y185, hy185⟩ : ∃ y_ : List Int, y_ = (y182 ++ x7_2) := ⟨_, rfl⟩
                                        replace H : (if y185.length + l2.length < 140737488355328 then ((log_Read.f kj52 (y185 ++ l2)).bind fun bt191 => (if bt191.2 ≥ (x7_2.length : Int) then (if (bt191.1.length : Int) ≥ (l0.length : Int) then (if 0 ≤ (l0.length : Int) then (if (l0.length : Int) ≤ (bt191.1.length : Int) then ((bailiwickref20_Same.f kj52 (bt191.1.take ((l0.length : Int) : Int).toNat) l0).bind fun t199 => (some t199)) else (none)) else (none)) else (some false)) else (some false))) else (none)) = some r := by first | (rw [hy185]; with_reducible exact H) | (have H2_ := (Option.bind_some _ _).symm.trans H; rw [hy185]; with_reducible exact H2_) | (have H2_ := (Option.bind_some _ _).symm.trans H; with_reducible exact H2_) | with_reducible exact H | (rw [hy185]; exact H) | exact H
                                        have Ny185 := Aside0.mk hy185
                                        clear hy185
                                        by_cases c68 : y185.length + l2.length < 140737488355328
                                        · rw [if_pos c68] at H
                                          have LMc68 := Aside0.mk c68
                                          clear c68
                                          obtain ⟨y188, hy188⟩ : ∃ y_ : List Int, y_ = (y185 ++ l2) := ⟨_, rfl⟩
                                          replace H : ((log_Read.f kj52 y188).bind fun bt191 => (if bt191.2 ≥ (x7_2.length : Int) then (if (bt191.1.length : Int) ≥ (l0.length : Int) then (if 0 ≤ (l0.length : Int) then (if (l0.length : Int) ≤ (bt191.1.length : Int) then ((bailiwickref20_Same.f kj52 (bt191.1.take ((l0.length : Int) : Int).toNat) l0).bind fun t199 => (some t199)) else (none)) else (none)) else (some false)) else (some false))) = some r := by first | (rw [hy188]; with_reducible exact H) | (have H2_ := (Option.bind_some _ _).symm.trans H; rw [hy188]; with_reducible exact H2_) | (have H2_ := (Option.bind_some _ _).symm.trans H; with_reducible exact H2_) | with_reducible exact H | (rw [hy188]; exact H) | exact H
                                          have Ny188 := Aside0.mk hy188
                                          clear hy188
                                          replace H := Option.bind_eq_some_iff.mp H
                                          obtain ⟨⟨t191, t192⟩, A690, H⟩ := H
                                          replace H : (if t192 ≥ (x7_2.length : Int) then (if (t191.length : Int) ≥ (l0.length : Int) then (if 0 ≤ (l0.length : Int) then (if (l0.length : Int) ≤ (t191.length : Int) then ((bailiwickref20_Same.f kj52 (t191.take ((l0.length : Int) : Int).toNat) l0).bind fun t199 => (some t199)) else (none)) else (none)) else (some false)) else (some false)) = some r := H
                                          have A69 := Aside0.mk A690
                                          clear A690
                                          by_cases c70 : t192 ≥ (x7_2.length : Int)
                                          · rw [if_pos c70] at H
                                            have c70b0 : decide ((x7_2.length : Int) ≤ t192) = true := decide_eq_true c70
                                            clear c70
                                            by_cases c71 : (t191.length : Int) ≥ (l0.length : Int)
                                            · rw [if_pos c71] at H
                                              have c71b0 : decide ((l0.length : Int) ≤ (t191.length : Int)) = true := decide_eq_true c71
                                              have c71b1 : decide (l0.length ≤ t191.length) = true := decide_eq_true (Int.ofNat_le.mp c71)
                                              clear c71
                                              by_cases c72 : 0 ≤ (l0.length : Int)
                                              · rw [if_pos c72] at H
                                                have c72b0 := eq_true c72
                                                have c72b1 : decide (0 ≤ (l0.length : Int)) = true := decide_eq_true c72
                                                clear c72
                                                by_cases c73 : (l0.length : Int) ≤ (t191.length : Int)
                                                · rw [if_pos c73] at H
                                                  have c73b0 := eq_true c73
                                                  have c73b1 : decide ((l0.length : Int) ≤ (t191.length : Int)) = true := decide_eq_true c73
                                                  clear c73
                                                  obtain ⟨y195, hy195⟩ : ∃ y_ : List (List Int), y_ = (t191.take ((l0.length : Int) : Int).toNat) := ⟨_, rfl⟩
                                                  replace H : ((bailiwickref20_Same.f kj52 y195 l0).bind fun t199 => (some t199)) = some r := by first | (rw [hy195]; with_reducible exact H) | (have H2_ := (Option.bind_some _ _).symm.trans H; rw [hy195]; with_reducible exact H2_) | (have H2_ := (Option.bind_some _ _).symm.trans H; with_reducible exact H2_) | with_reducible exact H | (rw [hy195]; exact H) | exact H
                                                  have Ny195 := Aside0.mk hy195
                                                  clear hy195
                                                  replace H := Option.bind_eq_some_iff.mp H
                                                  obtain ⟨t199, A740, H⟩ := H
                                                  replace H : (some t199) = some r := H
                                                  have A74 := Aside0.mk A740
                                                  clear A740
                                                  obtain rfl := Option.some.inj H
                                                  go_wp2_with (first | ((with_reducible refine gate_dst (N := 138) rfl ?_); (try (refine gate_guard (by rfl) ?_; dsimp only)); refine Kd.R_lit (Kd.int .u8) _ 5 ?hg (N := 138) ?hd (xs := ([] : List Int)) (inner := []) (ok := fun _ => True) (okp := fun _ => True) ?hr ?hp (fun _ hk => hk) trivial (Below.refl _ _) (Nat.le_refl _) (by simp) ?_; (case hd => rfl); (case hg => rfl); (case hr => first | (go_simp; done) | (go_simp; rfl)); (case hp => exact (Reps.none _ _)); intro v183 w75 ho76 hb hg_ hnew_; clear hg_ hnew_; (first | rw [← Ny182.out] at ho76 | (simp only [Int.reduceToNat] at ho76; rw [← Ny182.out] at ho76)); have n0_ := Aside0.mk (Kd.R_elder' (by (with_reducible repeat (first | apply Kd.R_alloc | apply Kd.R_drewN | apply Kd.R_drew)); exact HO_7.out) (Kd.R_base ho76) hb); have n1_ := Aside0.mk (Kd.R_lower (Kd.R_new' ho76 (Kd.R_lt (by (with_reducible repeat (first | apply Kd.R_alloc | apply Kd.R_drewN | apply Kd.R_drew)); exact HO_7.out))) (below_size (by repeat (first | (with_reducible first | exact HB.out | apply below_alloc | apply pw_below_drewN | apply below_drew1) | exact HB.out)))); have n2_ := Aside0.mk (Kd.C_below (by repeat (first | (with_reducible exact HR171.out) | (with_reducible refine Kd.C_alloc ?_ _) | (with_reducible refine Kd.C_drewN ?_ _) | (with_reducible refine Kd.C_drew ?_) | exact HR171.out)) hb); have n3_ := Aside0.mk (below_step (by repeat (first | (with_reducible first | exact HB.out | apply below_alloc | apply pw_below_drewN | apply below_drew1) | exact HB.out)) hb); clear HO_7; clear HR171; clear HB; have HO_7 := n0_; have HO184 := n1_; have HR171 := n2_; have HB := n3_; clear n0_ n1_ n2_ n3_; clear hb ho76) | ((with_reducible refine gate_builtin (b := .append) (xs := #[.tmp 138, .tmp 139]) rfl ?_); (try (refine gate_guard (by rfl) ?_; dsimp only)); at_builtin; refine Kd.R_append_rows (Kd.int .u8) (w0 := w) w.heap.size rfl (.tmp 138) (.tmp 139) 24 5 (.int .u8 0) 1 rfl Try.underlying24 info5 rfl (by decide) (by omega) v183 y182 x7_2 _ _ _ (fun k_ => some k_ ≠ (.slice Ao34 x7_2.length co34 : Value).ownBlock) (fun _ => False) rfl rfl ?aO ?aR (fun _ _ h => h) (fun _ h => h.elim) ?aF ?aB ?aS ?aL ?_; (case aR => repeat (first | exact (Kd.R_reads' HO_7.out).2.2 | (with_reducible refine Kd.C_alloc ?_ _) | (with_reducible refine Kd.C_drewN ?_ _) | (with_reducible refine Kd.C_drew ?_))); (case aB => exact (by repeat (first | (with_reducible first | exact HB.out | apply below_alloc | apply pw_below_drewN | apply below_drew1) | exact HB.out))); (case aF => exact (fun k_ hk => Kd.fresh' (Kd.R_lt (by (with_reducible repeat (first | apply Kd.R_alloc | apply Kd.R_drewN | apply Kd.R_drew)); exact HO_7.out)) k_ hk)); (case aO => exact (by (with_reducible repeat (first | apply Kd.R_alloc | apply Kd.R_drewN | apply Kd.R_drew)); exact Kd.R_mono HO184.out (fun _ hk => hk.2))); (case aS => exact (below_size (by repeat (first | (with_reducible first | exact HB.out | apply below_alloc | apply pw_below_drewN | apply below_drew1) | exact HB.out)))); (case aL => have := LMc67.out; omega); intro v186 w77 ho hb hg hat; rw [← Ny185.out] at ho; have n0_ := Aside0.mk (Kd.R_after (ok := (fun _ => True)) (by (with_reducible repeat (first | apply Kd.R_alloc | apply Kd.R_drewN | apply Kd.R_drew)); exact HO_7.out) hg hat); have n1_ := Aside0.mk (hb); have n2_ := Aside0.mk ((show Kd.C (Kd.int .u8) w77 Ao34 y168.length y168 from by rw [Ny168.out]; exact Kd.C_take (m := ((ji49) : Int).toNat) ((Kd.R_reads' (Kd.R_after (ok := (fun _ => True)) (by (with_reducible repeat (first | apply Kd.R_alloc | apply Kd.R_drewN | apply Kd.R_drew)); exact HO_7.out) hg hat)).2.2) KL54.out)); have n3_ := Aside0.mk (ho); clear HO_7; clear HB; clear HR171; clear HO184; have HO_7 := n0_; have HB := n1_; have HR171 := n2_; have HO187 := n3_; clear n0_ n1_ n2_ n3_; clear ho hb hg hat) | ((with_reducible refine gate_builtin (b := .append) (xs := #[.tmp 140, .tmp 141]) rfl ?_); (try (refine gate_guard (by rfl) ?_; dsimp only)); at_builtin; refine Kd.R_append_rows (Kd.int .u8) (w0 := w) w.heap.size rfl (.tmp 140) (.tmp 141) 24 5 (.int .u8 0) 1 rfl Try.underlying24 info5 rfl (by decide) (by omega) v186 y185 l2 _ _ _ (fun k_ => some k_ ≠ (.slice Ao34 x7_2.length co34 : Value).ownBlock) (fun _ => False) rfl rfl ?aO ?aR (fun _ _ h => h) (fun _ h => h.elim) ?aF ?aB ?aS ?aL ?_; (case aR => repeat (first | exact (Kd.C_below HR2.out HB.out) | (with_reducible refine Kd.C_alloc ?_ _) | (with_reducible refine Kd.C_drewN ?_ _) | (with_reducible refine Kd.C_drew ?_))); (case aB => exact (by repeat (first | (with_reducible first | exact HB.out | apply below_alloc | apply pw_below_drewN | apply below_drew1) | exact HB.out))); (case aF => exact (fun k_ hk => Kd.fresh' (Kd.R_lt (by (with_reducible repeat (first | apply Kd.R_alloc | apply Kd.R_drewN | apply Kd.R_drew)); exact HO_7.out)) k_ hk)); (case aO => exact (by (with_reducible repeat (first | apply Kd.R_alloc | apply Kd.R_drewN | apply Kd.R_drew)); exact HO187.out)); (case aS => exact (below_size (by repeat (first | (with_reducible first | exact HB.out | apply below_alloc | apply pw_below_drewN | apply below_drew1) | exact HB.out)))); (case aL => have := LMc68.out; omega); intro v189 w78 ho hb hg hat; rw [← Ny188.out] at ho; have n0_ := Aside0.mk (Kd.R_after (ok := (fun _ => True)) (by (with_reducible repeat (first | apply Kd.R_alloc | apply Kd.R_drewN | apply Kd.R_drew)); exact HO_7.out) hg hat); have n1_ := Aside0.mk (hb); have n2_ := Aside0.mk ((show Kd.C (Kd.int .u8) w78 Ao34 y168.length y168 from by rw [Ny168.out]; exact Kd.C_take (m := ((ji49) : Int).toNat) ((Kd.R_reads' (Kd.R_after (ok := (fun _ => True)) (by (with_reducible repeat (first | apply Kd.R_alloc | apply Kd.R_drewN | apply Kd.R_drew)); exact HO_7.out) hg hat)).2.2) KL54.out)); have n3_ := Aside0.mk (ho); clear HO_7; clear HB; clear HR171; clear HO187; have HO_7 := n0_; have HB := n1_; have HR171 := n2_; have HO190 := n3_; clear n0_ n1_ n2_ n3_; clear ho hb hg hat; obtain ⟨Ao79, co79, eo79⟩ := Kd.R_slice HO190.out; subst eo79) | ((with_reducible refine gate_callee (f := 10) rfl ?_); refine goesL_ (some 143) rfl rfl Try.func10 (by kernel_rfl) rfl #[.slice Ao79 y188.length co79] rfl (by (try simp only [List.map_toArray, List.map_cons, List.map_nil]); first | done | rfl | (simp only [List.length_drop, List.length_take]; rfl)) ?_; (with_reducible refine (log_Read.calls kj52 _ _ y188 t191 t192 _ ?side1 ?side2 A69.out).mono ?_); (case side1 => repeat (first | exact (Kd.R_reads' HO190.out).2.2 | (with_reducible refine Kd.C_alloc ?_ _) | (with_reducible refine Kd.C_drewN ?_ _) | (with_reducible refine Kd.C_drew ?_))); (case side2 => exact (Kd.R_reads' HO190.out).2.1); rintro e w80 ⟨v193, rfl, ho0, hb⟩; refine ⟨_, rfl, ?_⟩; have n0_ := Aside0.mk (Kd.R_below (by (with_reducible repeat (first | apply Kd.R_alloc | apply Kd.R_drewN | apply Kd.R_drew)); exact HO_7.out) hb); have n1_ := Aside0.mk (Kd.R_below (by (with_reducible repeat (first | apply Kd.R_alloc | apply Kd.R_drewN | apply Kd.R_drew)); exact HO190.out) hb); have n2_ := Aside0.mk (Kd.S_lower (Kd.S_new' (Kd.S_new' ho0 (Kd.R_lt (by (with_reducible repeat (first | apply Kd.R_alloc | apply Kd.R_drewN | apply Kd.R_drew)); exact HO_7.out))) (Kd.R_lt (by (with_reducible repeat (first | apply Kd.R_alloc | apply Kd.R_drewN | apply Kd.R_drew)); exact HO190.out))) (below_size (by repeat (first | (with_reducible first | exact HB.out | apply below_alloc | apply pw_below_drewN | apply below_drew1) | exact HB.out)))); have n3_ := Aside0.mk (Kd.C_below (by repeat (first | (with_reducible exact HR171.out) | (with_reducible refine Kd.C_alloc ?_ _) | (with_reducible refine Kd.C_drewN ?_ _) | (with_reducible refine Kd.C_drew ?_) | exact HR171.out)) hb); have n4_ := Aside0.mk (below_step (by repeat (first | (with_reducible first | exact HB.out | apply below_alloc | apply pw_below_drewN | apply below_drew1) | exact HB.out)) hb); clear HO_7; clear HO190; clear HR171; clear HB; have HO_7 := n0_; have HO190 := n1_; have HO194 := n2_; have HR171 := n3_; have HB := n4_; clear n0_ n1_ n2_ n3_ n4_; (try clear hb); (try clear hb2); (try clear hk); (try clear hi); (try clear ho0); obtain ⟨Ao81, co81, eo81⟩ := Kd.S_slice HO194.out; subst eo81; have q82 : ((l0.length : Int) : Int) ≤ ((t191.length : Int) : Int) := of_decide_eq_true (by first | (with_reducible assumption) | assumption); obtain ⟨i082, hi082, _, hsz82, _⟩ := info_parts info24; have hroom82 : t191.length ≤ co81 := (Kd.S_reads' HO194.out).2.1; have hC82 : Kd.C (Kd.slice 5 (Kd.int .u8)) _ Ao81 t191.length t191 := (Kd.S_reads' HO194.out).2.2; have hcut82 := cut_to (P := Try.prog) 22 24 .i64 Try.underlying22 hi082 Ao81 t191.length co81 (l0.length : Int) (of_decide_eq_true (by first | (with_reducible assumption) | assumption)) q82 hroom82; have hr82 := Kd.C_take (m := ((l0.length : Int) : Int).toNat) hC82 (by omega); have hy82 : y195.length = ((l0.length : Int) : Int).toNat := (by rw [Ny195.out, List.length_take]; omega); rw [← Ny195.out] at hr82; rw [← hy82] at hcut82; have HR198 := Aside0.mk hr82; have HC198 := Aside0.mk (show y195.length ≤ co81 from by omega); clear hr82 hC82 hroom82 hi082 hsz82; have KY82 := Aside0.mk hy82; clear hy82; have KL82 := Aside0.mk (show ((l0.length : Int) : Int).toNat ≤ t191.length from by omega); replace q82 := eq_true q82) | (go_at_call 11; (with_reducible refine (bailiwickref20_Same.calls kj52 _ _ y195 _ _ l0 t199 _ ?side1 ?side2 ?side3 ?side4 A74.out).mono ?_); (case side1 => repeat (first | exact (by repeat (first | (with_reducible exact HR198.out) | (with_reducible refine Kd.C_alloc ?_ _) | (with_reducible refine Kd.C_drewN ?_ _) | (with_reducible refine Kd.C_drew ?_) | exact HR198.out)) | (with_reducible refine Kd.C_alloc ?_ _) | (with_reducible refine Kd.C_drewN ?_ _) | (with_reducible refine Kd.C_drew ?_))); (case side2 => exact HC198.out); (case side3 => repeat (first | exact (Kd.C_below HR0.out HB.out) | (with_reducible refine Kd.C_alloc ?_ _) | (with_reducible refine Kd.C_drewN ?_ _) | (with_reducible refine Kd.C_drew ?_))); (case side4 => exact HC0.out); rintro e w' ⟨rfl, ⟨nd, rfl⟩⟩))
                                                  go_ret
                                                  exact ⟨by first | rfl | (simp [errW_none, errW_some] <;> rfl) | (simp only [← hji49]; first | rfl | (simp [errW_none, errW_some] <;> rfl)) | (simp [*, errW_none, errW_some] <;> rfl), by repeat (first | (with_reducible first | exact HB.out | apply below_alloc | apply pw_below_drewN | apply below_drew1) | exact HB.out)⟩
                                                · rw [if_neg c73] at H
                                                  exact absurd H (by simp)
                                              · rw [if_neg c72] at H
                                                exact absurd H (by simp)
                                            · rw [if_neg c71] at H
                                              have c71b0 : decide ((l0.length : Int) ≤ (t191.length : Int)) = false := decide_eq_false c71
                                              have c71b1 : decide (l0.length ≤ t191.length) = false := decide_eq_false (fun h => c71 (Int.ofNat_le.mpr h))
                                              clear c71
                                              obtain rfl := Option.some.inj H
                                              go_wp2_with (first | ((with_reducible refine gate_dst (N := 138) rfl ?_); (try (refine gate_guard (by rfl) ?_; dsimp only)); refine Kd.R_lit (Kd.int .u8) _ 5 ?hg (N := 138) ?hd (xs := ([] : List Int)) (inner := []) (ok := fun _ => True) (okp := fun _ => True) ?hr ?hp (fun _ hk => hk) trivial (Below.refl _ _) (Nat.le_refl _) (by simp) ?_; (case hd => rfl); (case hg => rfl); (case hr => first | (go_simp; done) | (go_simp; rfl)); (case hp => exact (Reps.none _ _)); intro v183 w83 ho84 hb hg_ hnew_; clear hg_ hnew_; (first | rw [← Ny182.out] at ho84 | (simp only [Int.reduceToNat] at ho84; rw [← Ny182.out] at ho84)); have n0_ := Aside0.mk (Kd.R_elder' (by (with_reducible repeat (first | apply Kd.R_alloc | apply Kd.R_drewN | apply Kd.R_drew)); exact HO_7.out) (Kd.R_base ho84) hb); have n1_ := Aside0.mk (Kd.R_lower (Kd.R_new' ho84 (Kd.R_lt (by (with_reducible repeat (first | apply Kd.R_alloc | apply Kd.R_drewN | apply Kd.R_drew)); exact HO_7.out))) (below_size (by repeat (first | (with_reducible first | exact HB.out | apply below_alloc | apply pw_below_drewN | apply below_drew1) | exact HB.out)))); have n2_ := Aside0.mk (Kd.C_below (by repeat (first | (with_reducible exact HR171.out) | (with_reducible refine Kd.C_alloc ?_ _) | (with_reducible refine Kd.C_drewN ?_ _) | (with_reducible refine Kd.C_drew ?_) | exact HR171.out)) hb); have n3_ := Aside0.mk (below_step (by repeat (first | (with_reducible first | exact HB.out | apply below_alloc | apply pw_below_drewN | apply below_drew1) | exact HB.out)) hb); clear HO_7; clear HR171; clear HB; have HO_7 := n0_; have HO184 := n1_; have HR171 := n2_; have HB := n3_; clear n0_ n1_ n2_ n3_; clear hb ho84) | ((with_reducible refine gate_builtin (b := .append) (xs := #[.tmp 138, .tmp 139]) rfl ?_); (try (refine gate_guard (by rfl) ?_; dsimp only)); at_builtin; refine Kd.R_append_rows (Kd.int .u8) (w0 := w) w.heap.size rfl (.tmp 138) (.tmp 139) 24 5 (.int .u8 0) 1 rfl Try.underlying24 info5 rfl (by decide) (by omega) v183 y182 x7_2 _ _ _ (fun k_ => some k_ ≠ (.slice Ao34 x7_2.length co34 : Value).ownBlock) (fun _ => False) rfl rfl ?aO ?aR (fun _ _ h => h) (fun _ h => h.elim) ?aF ?aB ?aS ?aL ?_; (case aR => repeat (first | exact (Kd.R_reads' HO_7.out).2.2 | (with_reducible refine Kd.C_alloc ?_ _) | (with_reducible refine Kd.C_drewN ?_ _) | (with_reducible refine Kd.C_drew ?_))); (case aB => exact (by repeat (first | (with_reducible first | exact HB.out | apply below_alloc | apply pw_below_drewN | apply below_drew1) | exact HB.out))); (case aF => exact (fun k_ hk => Kd.fresh' (Kd.R_lt (by (with_reducible repeat (first | apply Kd.R_alloc | apply Kd.R_drewN | apply Kd.R_drew)); exact HO_7.out)) k_ hk)); (case aO => exact (by (with_reducible repeat (first | apply Kd.R_alloc | apply Kd.R_drewN | apply Kd.R_drew)); exact Kd.R_mono HO184.out (fun _ hk => hk.2))); (case aS => exact (below_size (by repeat (first | (with_reducible first | exact HB.out | apply below_alloc | apply pw_below_drewN | apply below_drew1) | exact HB.out)))); (case aL => have := LMc67.out; omega); intro v186 w85 ho hb hg hat; rw [← Ny185.out] at ho; have n0_ := Aside0.mk (Kd.R_after (ok := (fun _ => True)) (by (with_reducible repeat (first | apply Kd.R_alloc | apply Kd.R_drewN | apply Kd.R_drew)); exact HO_7.out) hg hat); have n1_ := Aside0.mk (hb); have n2_ := Aside0.mk ((show Kd.C (Kd.int .u8) w85 Ao34 y168.length y168 from by rw [Ny168.out]; exact Kd.C_take (m := ((ji49) : Int).toNat) ((Kd.R_reads' (Kd.R_after (ok := (fun _ => True)) (by (with_reducible repeat (first | apply Kd.R_alloc | apply Kd.R_drewN | apply Kd.R_drew)); exact HO_7.out) hg hat)).2.2) KL54.out)); have n3_ := Aside0.mk (ho); clear HO_7; clear HB; clear HR171; clear HO184; have HO_7 := n0_; have HB := n1_; have HR171 := n2_; have HO187 := n3_; clear n0_ n1_ n2_ n3_; clear ho hb hg hat) | ((with_reducible refine gate_builtin (b := .append) (xs := #[.tmp 140, .tmp 141]) rfl ?_); (try (refine gate_guard (by rfl) ?_; dsimp only)); at_builtin; refine Kd.R_append_rows (Kd.int .u8) (w0 := w) w.heap.size rfl (.tmp 140) (.tmp 141) 24 5 (.int .u8 0) 1 rfl Try.underlying24 info5 rfl (by decide) (by omega) v186 y185 l2 _ _ _ (fun k_ => some k_ ≠ (.slice Ao34 x7_2.length co34 : Value).ownBlock) (fun _ => False) rfl rfl ?aO ?aR (fun _ _ h => h) (fun _ h => h.elim) ?aF ?aB ?aS ?aL ?_; (case aR => repeat (first | exact (Kd.C_below HR2.out HB.out) | (with_reducible refine Kd.C_alloc ?_ _) | (with_reducible refine Kd.C_drewN ?_ _) | (with_reducible refine Kd.C_drew ?_))); (case aB => exact (by repeat (first | (with_reducible first | exact HB.out | apply below_alloc | apply pw_below_drewN | apply below_drew1) | exact HB.out))); (case aF => exact (fun k_ hk => Kd.fresh' (Kd.R_lt (by (with_reducible repeat (first | apply Kd.R_alloc | apply Kd.R_drewN | apply Kd.R_drew)); exact HO_7.out)) k_ hk)); (case aO => exact (by (with_reducible repeat (first | apply Kd.R_alloc | apply Kd.R_drewN | apply Kd.R_drew)); exact HO187.out)); (case aS => exact (below_size (by repeat (first | (with_reducible first | exact HB.out | apply below_alloc | apply pw_below_drewN | apply below_drew1) | exact HB.out)))); (case aL => have := LMc68.out; omega); intro v189 w86 ho hb hg hat; rw [← Ny188.out] at ho; have n0_ := Aside0.mk (Kd.R_after (ok := (fun _ => True)) (by (with_reducible repeat (first | apply Kd.R_alloc | apply Kd.R_drewN | apply Kd.R_drew)); exact HO_7.out) hg hat); have n1_ := Aside0.mk (hb); have n2_ := Aside0.mk ((show Kd.C (Kd.int .u8) w86 Ao34 y168.length y168 from by rw [Ny168.out]; exact Kd.C_take (m := ((ji49) : Int).toNat) ((Kd.R_reads' (Kd.R_after (ok := (fun _ => True)) (by (with_reducible repeat (first | apply Kd.R_alloc | apply Kd.R_drewN | apply Kd.R_drew)); exact HO_7.out) hg hat)).2.2) KL54.out)); have n3_ := Aside0.mk (ho); clear HO_7; clear HB; clear HR171; clear HO187; have HO_7 := n0_; have HB := n1_; have HR171 := n2_; have HO190 := n3_; clear n0_ n1_ n2_ n3_; clear ho hb hg hat; obtain ⟨Ao87, co87, eo87⟩ := Kd.R_slice HO190.out; subst eo87) | ((with_reducible refine gate_callee (f := 10) rfl ?_); refine goesL_ (some 143) rfl rfl Try.func10 (by kernel_rfl) rfl #[.slice Ao87 y188.length co87] rfl (by (try simp only [List.map_toArray, List.map_cons, List.map_nil]); first | done | rfl | (simp only [List.length_drop, List.length_take]; rfl)) ?_; (with_reducible refine (log_Read.calls kj52 _ _ y188 t191 t192 _ ?side1 ?side2 A69.out).mono ?_); (case side1 => repeat (first | exact (Kd.R_reads' HO190.out).2.2 | (with_reducible refine Kd.C_alloc ?_ _) | (with_reducible refine Kd.C_drewN ?_ _) | (with_reducible refine Kd.C_drew ?_))); (case side2 => exact (Kd.R_reads' HO190.out).2.1); rintro e w88 ⟨v193, rfl, ho0, hb⟩; refine ⟨_, rfl, ?_⟩; have n0_ := Aside0.mk (Kd.R_below (by (with_reducible repeat (first | apply Kd.R_alloc | apply Kd.R_drewN | apply Kd.R_drew)); exact HO_7.out) hb); have n1_ := Aside0.mk (Kd.R_below (by (with_reducible repeat (first | apply Kd.R_alloc | apply Kd.R_drewN | apply Kd.R_drew)); exact HO190.out) hb); have n2_ := Aside0.mk (Kd.S_lower (Kd.S_new' (Kd.S_new' ho0 (Kd.R_lt (by (with_reducible repeat (first | apply Kd.R_alloc | apply Kd.R_drewN | apply Kd.R_drew)); exact HO_7.out))) (Kd.R_lt (by (with_reducible repeat (first | apply Kd.R_alloc | apply Kd.R_drewN | apply Kd.R_drew)); exact HO190.out))) (below_size (by repeat (first | (with_reducible first | exact HB.out | apply below_alloc | apply pw_below_drewN | apply below_drew1) | exact HB.out)))); have n3_ := Aside0.mk (Kd.C_below (by repeat (first | (with_reducible exact HR171.out) | (with_reducible refine Kd.C_alloc ?_ _) | (with_reducible refine Kd.C_drewN ?_ _) | (with_reducible refine Kd.C_drew ?_) | exact HR171.out)) hb); have n4_ := Aside0.mk (below_step (by repeat (first | (with_reducible first | exact HB.out | apply below_alloc | apply pw_below_drewN | apply below_drew1) | exact HB.out)) hb); clear HO_7; clear HO190; clear HR171; clear HB; have HO_7 := n0_; have HO190 := n1_; have HO194 := n2_; have HR171 := n3_; have HB := n4_; clear n0_ n1_ n2_ n3_ n4_; (try clear hb); (try clear hb2); (try clear hk); (try clear hi); (try clear ho0); obtain ⟨Ao89, co89, eo89⟩ := Kd.S_slice HO194.out; subst eo89))
                                              go_ret
                                              exact ⟨by first | rfl | (simp [errW_none, errW_some] <;> rfl) | (simp only [← hji49]; first | rfl | (simp [errW_none, errW_some] <;> rfl)) | (simp [*, errW_none, errW_some] <;> rfl), by repeat (first | (with_reducible first | exact HB.out | apply below_alloc | apply pw_below_drewN | apply below_drew1) | exact HB.out)⟩
                                          · rw [if_neg c70] at H
                                            have c70b0 : decide ((x7_2.length : Int) ≤ t192) = false := decide_eq_false c70
                                            clear c70
                                            obtain rfl := Option.some.inj H
                                            go_wp2_with (first | ((with_reducible refine gate_dst (N := 138) rfl ?_); (try (refine gate_guard (by rfl) ?_; dsimp only)); refine Kd.R_lit (Kd.int .u8) _ 5 ?hg (N := 138) ?hd (xs := ([] : List Int)) (inner := []) (ok := fun _ => True) (okp := fun _ => True) ?hr ?hp (fun _ hk => hk) trivial (Below.refl _ _) (Nat.le_refl _) (by simp) ?_; (case hd => rfl); (case hg => rfl); (case hr => first | (go_simp; done) | (go_simp; rfl)); (case hp => exact (Reps.none _ _)); intro v183 w90 ho91 hb hg_ hnew_; clear hg_ hnew_; (first | rw [← Ny182.out] at ho91 | (simp only [Int.reduceToNat] at ho91; rw [← Ny182.out] at ho91)); have n0_ := Aside0.mk (Kd.R_elder' (by (with_reducible repeat (first | apply Kd.R_alloc | apply Kd.R_drewN | apply Kd.R_drew)); exact HO_7.out) (Kd.R_base ho91) hb); have n1_ := Aside0.mk (Kd.R_lower (Kd.R_new' ho91 (Kd.R_lt (by (with_reducible repeat (first | apply Kd.R_alloc | apply Kd.R_drewN | apply Kd.R_drew)); exact HO_7.out))) (below_size (by repeat (first | (with_reducible first | exact HB.out | apply below_alloc | apply pw_below_drewN | apply below_drew1) | exact HB.out)))); have n2_ := Aside0.mk (Kd.C_below (by repeat (first | (with_reducible exact HR171.out) | (with_reducible refine Kd.C_alloc ?_ _) | (with_reducible refine Kd.C_drewN ?_ _) | (with_reducible refine Kd.C_drew ?_) | exact HR171.out)) hb); have n3_ := Aside0.mk (below_step (by repeat (first | (with_reducible first | exact HB.out | apply below_alloc | apply pw_below_drewN | apply below_drew1) | exact HB.out)) hb); clear HO_7; clear HR171; clear HB; have HO_7 := n0_; have HO184 := n1_; have HR171 := n2_; have HB := n3_; clear n0_ n1_ n2_ n3_; clear hb ho91) | ((with_reducible refine gate_builtin (b := .append) (xs := #[.tmp 138, .tmp 139]) rfl ?_); (try (refine gate_guard (by rfl) ?_; dsimp only)); at_builtin; refine Kd.R_append_rows (Kd.int .u8) (w0 := w) w.heap.size rfl (.tmp 138) (.tmp 139) 24 5 (.int .u8 0) 1 rfl Try.underlying24 info5 rfl (by decide) (by omega) v183 y182 x7_2 _ _ _ (fun k_ => some k_ ≠ (.slice Ao34 x7_2.length co34 : Value).ownBlock) (fun _ => False) rfl rfl ?aO ?aR (fun _ _ h => h) (fun _ h => h.elim) ?aF ?aB ?aS ?aL ?_; (case aR => repeat (first | exact (Kd.R_reads' HO_7.out).2.2 | (with_reducible refine Kd.C_alloc ?_ _) | (with_reducible refine Kd.C_drewN ?_ _) | (with_reducible refine Kd.C_drew ?_))); (case aB => exact (by repeat (first | (with_reducible first | exact HB.out | apply below_alloc | apply pw_below_drewN | apply below_drew1) | exact HB.out))); (case aF => exact (fun k_ hk => Kd.fresh' (Kd.R_lt (by (with_reducible repeat (first | apply Kd.R_alloc | apply Kd.R_drewN | apply Kd.R_drew)); exact HO_7.out)) k_ hk)); (case aO => exact (by (with_reducible repeat (first | apply Kd.R_alloc | apply Kd.R_drewN | apply Kd.R_drew)); exact Kd.R_mono HO184.out (fun _ hk => hk.2))); (case aS => exact (below_size (by repeat (first | (with_reducible first | exact HB.out | apply below_alloc | apply pw_below_drewN | apply below_drew1) | exact HB.out)))); (case aL => have := LMc67.out; omega); intro v186 w92 ho hb hg hat; rw [← Ny185.out] at ho; have n0_ := Aside0.mk (Kd.R_after (ok := (fun _ => True)) (by (with_reducible repeat (first | apply Kd.R_alloc | apply Kd.R_drewN | apply Kd.R_drew)); exact HO_7.out) hg hat); have n1_ := Aside0.mk (hb); have n2_ := Aside0.mk ((show Kd.C (Kd.int .u8) w92 Ao34 y168.length y168 from by rw [Ny168.out]; exact Kd.C_take (m := ((ji49) : Int).toNat) ((Kd.R_reads' (Kd.R_after (ok := (fun _ => True)) (by (with_reducible repeat (first | apply Kd.R_alloc | apply Kd.R_drewN | apply Kd.R_drew)); exact HO_7.out) hg hat)).2.2) KL54.out)); have n3_ := Aside0.mk (ho); clear HO_7; clear HB; clear HR171; clear HO184; have HO_7 := n0_; have HB := n1_; have HR171 := n2_; have HO187 := n3_; clear n0_ n1_ n2_ n3_; clear ho hb hg hat) | ((with_reducible refine gate_builtin (b := .append) (xs := #[.tmp 140, .tmp 141]) rfl ?_); (try (refine gate_guard (by rfl) ?_; dsimp only)); at_builtin; refine Kd.R_append_rows (Kd.int .u8) (w0 := w) w.heap.size rfl (.tmp 140) (.tmp 141) 24 5 (.int .u8 0) 1 rfl Try.underlying24 info5 rfl (by decide) (by omega) v186 y185 l2 _ _ _ (fun k_ => some k_ ≠ (.slice Ao34 x7_2.length co34 : Value).ownBlock) (fun _ => False) rfl rfl ?aO ?aR (fun _ _ h => h) (fun _ h => h.elim) ?aF ?aB ?aS ?aL ?_; (case aR => repeat (first | exact (Kd.C_below HR2.out HB.out) | (with_reducible refine Kd.C_alloc ?_ _) | (with_reducible refine Kd.C_drewN ?_ _) | (with_reducible refine Kd.C_drew ?_))); (case aB => exact (by repeat (first | (with_reducible first | exact HB.out | apply below_alloc | apply pw_below_drewN | apply below_drew1) | exact HB.out))); (case aF => exact (fun k_ hk => Kd.fresh' (Kd.R_lt (by (with_reducible repeat (first | apply Kd.R_alloc | apply Kd.R_drewN | apply Kd.R_drew)); exact HO_7.out)) k_ hk)); (case aO => exact (by (with_reducible repeat (first | apply Kd.R_alloc | apply Kd.R_drewN | apply Kd.R_drew)); exact HO187.out)); (case aS => exact (below_size (by repeat (first | (with_reducible first | exact HB.out | apply below_alloc | apply pw_below_drewN | apply below_drew1) | exact HB.out)))); (case aL => have := LMc68.out; omega); intro v189 w93 ho hb hg hat; rw [← Ny188.out] at ho; have n0_ := Aside0.mk (Kd.R_after (ok := (fun _ => True)) (by (with_reducible repeat (first | apply Kd.R_alloc | apply Kd.R_drewN | apply Kd.R_drew)); exact HO_7.out) hg hat); have n1_ := Aside0.mk (hb); have n2_ := Aside0.mk ((show Kd.C (Kd.int .u8) w93 Ao34 y168.length y168 from by rw [Ny168.out]; exact Kd.C_take (m := ((ji49) : Int).toNat) ((Kd.R_reads' (Kd.R_after (ok := (fun _ => True)) (by (with_reducible repeat (first | apply Kd.R_alloc | apply Kd.R_drewN | apply Kd.R_drew)); exact HO_7.out) hg hat)).2.2) KL54.out)); have n3_ := Aside0.mk (ho); clear HO_7; clear HB; clear HR171; clear HO187; have HO_7 := n0_; have HB := n1_; have HR171 := n2_; have HO190 := n3_; clear n0_ n1_ n2_ n3_; clear ho hb hg hat; obtain ⟨Ao94, co94, eo94⟩ := Kd.R_slice HO190.out; subst eo94) | ((with_reducible refine gate_callee (f := 10) rfl ?_); refine goesL_ (some 143) rfl rfl Try.func10 (by kernel_rfl) rfl #[.slice Ao94 y188.length co94] rfl (by (try simp only [List.map_toArray, List.map_cons, List.map_nil]); first | done | rfl | (simp only [List.length_drop, List.length_take]; rfl)) ?_; (with_reducible refine (log_Read.calls kj52 _ _ y188 t191 t192 _ ?side1 ?side2 A69.out).mono ?_); (case side1 => repeat (first | exact (Kd.R_reads' HO190.out).2.2 | (with_reducible refine Kd.C_alloc ?_ _) | (with_reducible refine Kd.C_drewN ?_ _) | (with_reducible refine Kd.C_drew ?_))); (case side2 => exact (Kd.R_reads' HO190.out).2.1); rintro e w95 ⟨v193, rfl, ho0, hb⟩; refine ⟨_, rfl, ?_⟩; have n0_ := Aside0.mk (Kd.R_below (by (with_reducible repeat (first | apply Kd.R_alloc | apply Kd.R_drewN | apply Kd.R_drew)); exact HO_7.out) hb); have n1_ := Aside0.mk (Kd.R_below (by (with_reducible repeat (first | apply Kd.R_alloc | apply Kd.R_drewN | apply Kd.R_drew)); exact HO190.out) hb); have n2_ := Aside0.mk (Kd.S_lower (Kd.S_new' (Kd.S_new' ho0 (Kd.R_lt (by (with_reducible repeat (first | apply Kd.R_alloc | apply Kd.R_drewN | apply Kd.R_drew)); exact HO_7.out))) (Kd.R_lt (by (with_reducible repeat (first | apply Kd.R_alloc | apply Kd.R_drewN | apply Kd.R_drew)); exact HO190.out))) (below_size (by repeat (first | (with_reducible first | exact HB.out | apply below_alloc | apply pw_below_drewN | apply below_drew1) | exact HB.out)))); have n3_ := Aside0.mk (Kd.C_below (by repeat (first | (with_reducible exact HR171.out) | (with_reducible refine Kd.C_alloc ?_ _) | (with_reducible refine Kd.C_drewN ?_ _) | (with_reducible refine Kd.C_drew ?_) | exact HR171.out)) hb); have n4_ := Aside0.mk (below_step (by repeat (first | (with_reducible first | exact HB.out | apply below_alloc | apply pw_below_drewN | apply below_drew1) | exact HB.out)) hb); clear HO_7; clear HO190; clear HR171; clear HB; have HO_7 := n0_; have HO190 := n1_; have HO194 := n2_; have HR171 := n3_; have HB := n4_; clear n0_ n1_ n2_ n3_ n4_; (try clear hb); (try clear hb2); (try clear hk); (try clear hi); (try clear ho0)))
                                            go_ret
                                            exact ⟨by first | rfl | (simp [errW_none, errW_some] <;> rfl) | (simp only [← hji49]; first | rfl | (simp [errW_none, errW_some] <;> rfl)) | (simp [*, errW_none, errW_some] <;> rfl), by repeat (first | (with_reducible first | exact HB.out | apply below_alloc | apply pw_below_drewN | apply below_drew1) | exact HB.out)⟩
                                        · rw [if_neg c68] at H
                                          exact absurd H (by simp)
                                      · rw [if_neg c67] at H
                                        exact absurd H (by simp)
                              · rw [if_neg c51] at H
                                exact absurd H (by simp)
                            · rw [if_neg c50] at H
                              exact absurd H (by simp)
  · replace c5 := Bool.eq_false_iff.mpr c5
    subst c5
    have H1 : (some false) = some r := by rw [if_neg (show ¬ (false = true) by decide)] at H; exact H
    clear H
    have H := H1
    clear H1
    obtain rfl := Option.some.inj H
    go_enter Try.func3, Try.ntmps3
    go_wp2_with (first | ((with_reducible refine gate_callee (f := 8) rfl ?_); refine goesL_ (some 18) rfl rfl Try.func8 (by kernel_rfl) rfl #[] rfl (by (try simp only [List.map_toArray, List.map_cons, List.map_nil]); first | done | rfl | (simp only [List.length_drop, List.length_take]; rfl)) ?_; (with_reducible refine (bailiwicklaw20_awake.calls  false _ A4.out).mono ?_); rintro e w96 ⟨rfl, hb⟩; refine ⟨_, rfl, ?_⟩; have n0_ := Aside0.mk (below_step (by repeat (first | (with_reducible first | exact HB.out | apply below_alloc | apply pw_below_drewN | apply below_drew1) | exact HB.out)) hb); clear HB; have HB := n0_; clear n0_; (try clear hb); (try clear hb2); (try clear hk); (try clear hi)))
    go_ret
    exact ⟨by first | rfl | (simp [errW_none, errW_some] <;> rfl) | (simp [*, errW_none, errW_some] <;> rfl), by repeat (first | (with_reducible first | exact HB.out | apply below_alloc | apply pw_below_drewN | apply below_drew1) | exact HB.out)⟩

/-- THE ONE PURE STATEMENT of bailiwicklaw20_LogPrefix. -/
def bailiwicklaw20_LogPrefix.Pure : Prop := ∀ (l0 : List (List Int)) (a1 : Int) (l2 : List Int), (l0.length * 24 ≤ 140737488351232 ∧ l0.length ≤ maxLen ∧ ∀ x0_ ∈ l0, (x0_.length * 1 ≤ 140737488351232 ∧ x0_.length ≤ maxLen ∧ ∀ x1_ ∈ x0_, (Lit.int .u8 x1_).wf = true)) → (Lit.int .u16 a1).wf = true → (l2.length * 1 ≤ 140737488351232 ∧ l2.length ≤ maxLen ∧ ∀ x0_ ∈ l2, (Lit.int .u8 x0_).wf = true) → ∃ k, bailiwicklaw20_LogPrefix.f k l0 a1 l2 = some true


end Go.Proofs.Ytpnfmaphlfobpaa.F
