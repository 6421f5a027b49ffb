-- Written by gprint.py (this repo's own driver over the kit's printer); Lean checks it.
import Derived.Test.YtimllhflecippaaF0
import Derived.Test.YtimllhflecippaaF6
namespace Go.Proofs.Ytimllhflecippaa.F
open Go.RowKit Go.Proofs.YtimllhflecippaaW.PrintWords Go.Proofs.YtimllhflecippaaW.PrintLast Go.Proofs.YtimllhflecippaaW.PrintMore
attribute [local go_sem] max2_int min2_int max_two min_two max_three min_three max_four min_four   -- for this text's walks alone
set_option linter.unusedVariables false
set_option linter.unusedSimpArgs false

/-! ### when_Meets: function 70 -/
def when_Meets.f (a0 : Int) (a1 : Int) (a2 : Int) (a3 : Int) : Option (Bool) := some (decide ((mx a0 a2) < (mn a1 a3)))
set_option maxHeartbeats 8000000 in
set_option maxRecDepth 100000 in
theorem when_Meets.calls (a0 : Int) (a1 : Int) (a2 : Int) (a3 : Int) (r : Bool) (w : World) (h : when_Meets.f a0 a1 a2 a3 = some r) :
  Calls Try.prog 70 #[.int .i64 a0, .int .i64 a1, .int .i64 a2, .int .i64 a3] w fun e w' => e = .returned (.bool r) ∧ Below w.heap.size w w' := by
 have HB := Aside0.mk (Below.refl w.heap.size w)
 have H : (some (decide ((mx a0 a2) < (mn a1 a3)))) = some r := h
 clear h
 obtain ⟨ji5, hji5⟩ : ∃ j_ : Int, (mx a0 a2) = j_ := ⟨_, rfl⟩
 replace H : (some (decide ((ji5) < (mn a1 a3)))) = some r := by first | (rw [hji5] at H; exact H) | (simp only [hji5] at H ⊢; exact H)
 have hji5_ : (if a0 < a2 then a2 else a0) = ji5 := hji5
 obtain ⟨ji6, hji6⟩ : ∃ j_ : Int, (mn a1 a3) = j_ := ⟨_, rfl⟩
 replace H : (some (decide ((ji5) < (ji6)))) = some r := by first | (rw [hji6] at H; exact H) | (simp only [hji6] at H ⊢; exact H)
 have hji6_ : (if a3 < a1 then a3 else a1) = ji6 := hji6
 obtain rfl := Option.some.inj H
 go_enter Try.func70, Try.ntmps70
 go_wp2
 go_ret
 exact ⟨by first | rfl | (simp [errW_none, errW_some] <;> rfl) | (simp only [← hji5, ← hji6]; first | rfl | (simp [errW_none, errW_some] <;> rfl)) | (simp [*, errW_none, errW_some] <;> rfl), by repeat (first | (with_reducible first | exact HB.out | apply below_alloc | apply pw_below_drewN | apply below_drew1) | exact HB.out)⟩

/-! ### step_plus: function 65 -/
/-- A step is added, if it says something else. -/
def addS (out : List S45) (at_ free : Int) : List S45 := if out.getLast?.map (·.f1) = some free then out else out ++ [⟨at_, free⟩]
theorem addS_len (out : List S45) (a f : Int) : (addS out a f).length ≤ out.length + 1 := by unfold addS; split <;> simp
/-- What the literal that adds leaves: the variable's block g, and the row. -/
def AddPost (base : Nat) (ok : Nat → Prop) (g : Nat) (v : Value) (xs : List S45) (w0 w : World) (e : Ending) (w' : World) : Prop :=
 e = .returned (.tuple #[]) ∧ ∃ v', w'.heap[g]? = some (.cells #[v'] 22 (0, 0)) ∧ Kd.R k45 45 w' base ok v' xs ∧ Below base w0 w' ∧ Kept w w' (fun k => k = g ∨ some k = v.ownBlock)
set_option maxHeartbeats 8000000 in
set_option maxRecDepth 100000 in
theorem add_calls (at_ free : Int) (g base : Nat) (ok : Nat → Prop) (v : Value) (xs : List S45) (w0 w : World) (hcell : w.heap[g]? = some (.cells #[v] 22 (0, 0))) (hR : Kd.R k45 45 w base ok v xs) (hok : ∀ k, ok k → k ≠ g) (hfr : ∀ k, w.heap.size ≤ k → ok k)
  (hB : Below base w0 w) (hbase : base ≤ w.heap.size) (hg : base ≤ g) (hl : xs.length < 8796093022200) :
  Calls Try.prog 69 #[.int .i64 at_, .int .i64 free, .pointer (some ⟨g, 0, none⟩)] w (AddPost base ok g v (addS xs at_ free) w0 w) := by
 obtain ⟨A, c, rfl, hc, hC⟩ := Kd.R_reads hR
 have HC := Aside0.mk hC
 have HB := Aside0.mk hB
 have HR := Aside0.mk hR
 have hc0 : w.cell? ⟨g, 0, none⟩ = some (.slice A xs.length c) := (blk_cell hcell 0).trans rfl
 have hfz : w.frozen? ⟨g, 0, none⟩ = false := blk_frozen hcell 0
 have HH := Aside0.mk hcell
 have HOK := Aside0.mk hok
 have HFR := Aside0.mk hfr
 have HL := Aside0.mk hl
 have HX := Aside0.mk hbase
 have HG := Aside0.mk hg
 clear hcell hok hfr hl hbase hg hB hR hC
 by_cases h0 : xs.length = 0
 ·have hx : xs = [] := List.eq_nil_of_length_eq_zero h0
  subst hx
  clear h0
  go_enter Try.func69, Try.ntmps69
  go_wp2_with (first | ((with_reducible refine gate_builtin (b := .append) (xs := #[.tmp 19, .tmp 23]) rfl ?_); at_builtin; (refine Kd.R_append k45 (w0 := w0) base rfl (.tmp 19) (.tmp 23) 22 45 (.agg #[(.int .i64 0), (.int .i64 0)]) 16 rfl Try.underlying22 info45 rfl (by decide) (by omega) (.slice A 0 c) ([] : List S45) (⟨at_, free⟩ : S45) [.int .i64 at_, .int .i64 free] ok (fun _ => False) rfl rfl ?aP (fun _ hk => hk.elim) ?aF ?aO ?aB ?aS ?aL ?_; (case aP => exact k45_mkM _ _ _ (⟨at_, free⟩ : S45)); (case aB => exact HB.out); (case aF => exact HFR.out); (case aO => exact HR.out); (case aS => exact HX.out); (case aL => have := HL.out; (try simp only [List.length_nil] at this ⊢); omega); intro v1 w1 ho hb hg_ hat; have HO1 := Aside0.mk ho; have HB1 := Aside0.mk hb; have HG1 := Aside0.mk hg_; have hne_ := Kd.R_away HR.out HOK.out; have hh1 := blk_grown HH.out hg_ hne_; have hc1 : w1.cell? ⟨g, 0, none⟩ = some (.slice A 0 c) := (blk_cell hh1 0).trans rfl; have hf1 : w1.frozen? ⟨g, 0, none⟩ = false := blk_frozen hh1 0; have HH1 := Aside0.mk hh1; clear ho hb hg_ hat hne_ hh1; obtain ⟨A1, c1, ev1⟩ := Kd.R_slice HO1.out; subst ev1)))
  go_end0
  exact ⟨rfl, _, by simpa using blk_set HH1.out 0 _, by rw [show addS [] at_ free = [] ++ [⟨at_, free⟩] from rfl]; exact Kd.R_far (p := ⟨g, 0, none⟩) HO1.out HOK.out _, HB1.out.setCell HG.out _, Nat.le_trans HG1.out.size (by simp), fun i hi hn => by
   rw [Below.heap_setCell w1 ⟨g, 0, none⟩ _ i (fun e => hn (.inl e))]
   exact HG1.out.block i hi (fun e => hn (.inr e))⟩
 ·have p1 : (0 : Int) ≤ (xs.length : Int) - 1 := by omega
  have q1 : (xs.length : Int) - 1 < (xs.length : Int) := by omega
  obtain ⟨ad, e, hx0, hx1⟩ := at_T45 HC.out ((xs.length : Int) - 1) p1 q1
  cases e
  rw [show ((xs.length : Int) - 1).toNat = xs.length - 1 by omega] at hx0 hx1
  replace p1 := eq_true p1
  replace q1 := eq_true q1
  have hne0 : ((xs.length : Int) == 0) = false := by simpa using h0
  have hn0 : 0 < xs.length := by omega
  have hlast : xs.getLast? = some (rd_T45 xs ((xs.length : Int) - 1)) := by
   unfold rd_T45
   rw [List.getLast?_eq_getElem?, List.getD_eq_getElem?_getD, show ((xs.length : Int) - 1).toNat = xs.length - 1 by omega, List.getElem?_eq_getElem (by omega)]
   rfl
  have HLs := Aside0.mk hlast
  clear hlast h0
  have hb1 := HL.out
  by_cases hf : (rd_T45 xs ((xs.length : Int) - 1)).f1 = free
  ·have hfb : ((rd_T45 xs ((xs.length : Int) - 1)).f1 != free) = false := by simpa using hf
   have EQ := Aside0.mk (show addS xs at_ free = xs by unfold addS; rw [HLs.out, if_pos (by simp [hf])])
   clear hf
   go_enter Try.func69, Try.ntmps69
   go_wp2
   go_end0
   exact ⟨rfl, _, HH.out, by rw [EQ.out]; exact HR.out, HB.out, Kept.refl _ _⟩
  ·have hfb : ((rd_T45 xs ((xs.length : Int) - 1)).f1 != free) = true := by simpa using hf
   have EQ := Aside0.mk (show addS xs at_ free = xs ++ [⟨at_, free⟩] by unfold addS; rw [HLs.out, if_neg (by simp [hf])])
   clear hf
   go_enter Try.func69, Try.ntmps69
   go_wp2_with (first | ((with_reducible refine gate_builtin (b := .append) (xs := #[.tmp 19, .tmp 23]) rfl ?_); at_builtin; refine Kd.R_append k45 (w0 := w0) base rfl (.tmp 19) (.tmp 23) 22 45 (.agg #[(.int .i64 0), (.int .i64 0)]) 16 rfl Try.underlying22 info45 rfl (by decide) (by omega) (.slice (some ad) xs.length c) xs (⟨at_, free⟩ : S45) [.int .i64 at_, .int .i64 free] ok (fun _ => False) rfl rfl ?aP (fun _ hk => hk.elim) ?aF ?aO ?aB ?aS ?aL ?_; (case aP => exact k45_mkM _ _ _ (⟨at_, free⟩ : S45)); (case aB => exact HB.out); (case aF => exact HFR.out); (case aO => exact HR.out); (case aS => exact HX.out); (case aL => have := HL.out; (try simp only [List.length_nil] at this ⊢); omega); intro v1 w1 ho hb hg_ hat; have HO1 := Aside0.mk ho; have HB1 := Aside0.mk hb; have HG1 := Aside0.mk hg_; have hne_ := Kd.R_away HR.out HOK.out; have hh1 := blk_grown HH.out hg_ hne_; have hc1 : w1.cell? ⟨g, 0, none⟩ = some (.slice (some ad) xs.length c) := (blk_cell hh1 0).trans rfl; have hf1 : w1.frozen? ⟨g, 0, none⟩ = false := blk_frozen hh1 0; have HH1 := Aside0.mk hh1; clear ho hb hg_ hat hne_ hh1; obtain ⟨A1, c1, ev1⟩ := Kd.R_slice HO1.out; subst ev1; rw [show (xs ++ [(⟨at_, free⟩ : S45)]).length = xs.length + 1 by simp] at HO1))
   go_end0
   exact ⟨rfl, _, by simpa using blk_set HH1.out 0 _, by rw [EQ.out]; exact Kd.R_far (p := ⟨g, 0, none⟩) HO1.out HOK.out _, HB1.out.setCell HG.out _, Nat.le_trans HG1.out.size (by simp), fun i hi hn => by
   rw [Below.heap_setCell w1 ⟨g, 0, none⟩ _ i (fun e => hn (.inl e))]
   exact HG1.out.block i hi (fun e => hn (.inr e))⟩

/-- One step of the change: the part ahead of the span, that in it, that behind it. -/
def plusE (l : List S45) (i : Nat) : Int := if (i : Int) + 1 < (l.length : Int) then (rd_T45 l ((i : Int) + 1)).f0 else 4611686018427387905
def plus1 (l : List S45) (f t n : Int) (i : Nat) (out : List S45) : List S45 := if (rd_T45 l i).f0 < f then addS out (rd_T45 l i).f0 (rd_T45 l i).f1 else out
def plus2 (l : List S45) (f t n : Int) (i : Nat) (out : List S45) : List S45 := if mx (rd_T45 l i).f0 f < mn (plusE l i) t then addS out (mx (rd_T45 l i).f0 f) (wrap64 ((rd_T45 l i).f1 + n)) else out
def plus3 (l : List S45) (f t n : Int) (i : Nat) (out : List S45) : List S45 := if t < plusE l i then addS out (mx (rd_T45 l i).f0 t) (rd_T45 l i).f1 else out
def plusS (l : List S45) (f t n : Int) (i : Nat) (out : List S45) : List S45 := plus3 l f t n i (plus2 l f t n i (plus1 l f t n i out))
def plusN (l : List S45) (f t n : Int) : Nat → List S45
 | 0 => []
 | i + 1 => plusS l f t n i (plusN l f t n i)
theorem plusS_len (l : List S45) (f t n : Int) (i : Nat) (out : List S45) : (plus1 l f t n i out).length ≤ out.length + 1 ∧ (plus2 l f t n i (plus1 l f t n i out)).length ≤ out.length + 2 ∧ (plusS l f t n i out).length ≤ out.length + 3 := by
 have h1 : (plus1 l f t n i out).length ≤ out.length + 1 := by
  unfold plus1
  split
  ·exact addS_len _ _ _
  ·omega
 have h2 : (plus2 l f t n i (plus1 l f t n i out)).length ≤ out.length + 2 := by
  generalize plus1 l f t n i out = o at h1
  unfold plus2
  split
  ·have := addS_len o (mx (rd_T45 l i).f0 f) (wrap64 ((rd_T45 l i).f1 + n)); omega
  ·omega
 refine ⟨h1, h2, ?_⟩
 unfold plusS
 generalize plus2 l f t n i (plus1 l f t n i out) = o at h2
 unfold plus3
 split
 ·have := addS_len o (mx (rd_T45 l i).f0 t) (rd_T45 l i).f1; omega
 ·omega
theorem plusN_len (l : List S45) (f t n : Int) : ∀ i, (plusN l f t n i).length ≤ 3 * i
 | 0 => by simp [plusN]
 | i + 1 => by
  have h1 := plusN_len l f t n i
  have h2 := (plusS_len l f t n i (plusN l f t n i)).2.2
  show (plusS l f t n i (plusN l f t n i)).length ≤ _
  omega
def step_plus.f (l0 : List S45) (a1 a2 a3 : Int) : Option (List S45) := if l0.length < 2000000000000 then some (plusN l0 a1 a2 a3 l0.length) else none
/-- The variable that the literal writes, and its row. -/
def PlusAt (g : Nat) (w0 w : World) (xs : List S45) : Prop := ∃ v, w.heap[g]? = some (.cells #[v] 22 (0, 0)) ∧ Kd.R k45 45 w g (fun k => k ≠ g) v xs ∧ Below g w0 w ∧ g < w.heap.size
theorem PlusAt.below {g : Nat} {w0 w w1 : World} {xs : List S45} (h : PlusAt g w0 w xs) (hb : Below w.heap.size w w1) : PlusAt g w0 w1 xs := by
 obtain ⟨v, h1, h2, h3, h4⟩ := h
 exact ⟨v, blk_below h1 hb, Kd.R_below h2 hb, below_then h3 (Nat.le_of_lt h4) hb, Nat.lt_of_lt_of_le h4 hb.size⟩
/-- The same beside a step's variable at block h. -/
def PlusBox (g h : Nat) (w0 w : World) (xs : List S45) (s0 s1 : Int) : Prop := ∃ v, w.heap[g]? = some (.cells #[v] 22 (0, 0)) ∧ Kd.R k45 45 w g (fun k => k ≠ g ∧ k ≠ h) v xs ∧ Below g w0 w ∧ g < h ∧ w.heap[h]? = some (.cells #[.int .i64 s0, .int .i64 s1] 45 (0, 0))
theorem PlusBox.mk_ {g : Nat} {w0 w : World} {xs : List S45} (h : PlusAt g w0 w xs) (s0 s1 : Int) : PlusBox g w.heap.size w0 (w.alloc (.cells #[.int .i64 s0, .int .i64 s1] 45)) xs s0 s1 := by
 obtain ⟨v, h1, h2, h3, h4⟩ := h
 refine ⟨v, blk_alloc h1 _, Kd.R_alloc (Kd.R_mono (Kd.R_bound h2) (fun k hk => ⟨hk.1, by have := hk.2.2.1; omega⟩)) _, below_then h3 (Nat.le_of_lt h4) (below_alloc (Below.refl _ _) _), h4, blk_new _ _⟩
theorem PlusBox.below {g h : Nat} {w0 w w1 : World} {xs : List S45} {s0 s1 : Int} (hp : PlusBox g h w0 w xs s0 s1) (hb : Below w.heap.size w w1) : PlusBox g h w0 w1 xs s0 s1 := by
 obtain ⟨v, h1, h2, h3, h4, h5⟩ := hp
 exact ⟨v, blk_below h1 hb, Kd.R_below h2 hb, below_then h3 (Nat.le_of_lt (blk_lt h1)) hb, h4, blk_below h5 hb⟩
theorem PlusBox.cells {g h : Nat} {w0 w : World} {xs : List S45} {s0 s1 : Int} (hp : PlusBox g h w0 w xs s0 s1) : w.cell? ⟨h, 0, none⟩ = some (.int .i64 s0) ∧ w.cell? ⟨h, 1, none⟩ = some (.int .i64 s1) := by
 obtain ⟨v, h1, h2, h3, h4, h5⟩ := hp
 exact ⟨(blk_cell h5 0).trans rfl, (blk_cell h5 1).trans rfl⟩
theorem PlusBox.forget {g h : Nat} {w0 w : World} {xs : List S45} {s0 s1 : Int} (hp : PlusBox g h w0 w xs s0 s1) : PlusAt g w0 w xs := by
 obtain ⟨v, h1, h2, h3, h4, h5⟩ := hp
 exact ⟨v, h1, Kd.R_mono h2 (fun _ hk => hk.1), h3, blk_lt h1⟩
theorem add_at (at_ free : Int) (g h : Nat) (xs : List S45) (w0 w : World) (s0 s1 : Int) (hp : PlusBox g h w0 w xs s0 s1) (hl : xs.length < 8796093022200) :
  Calls Try.prog 69 #[.int .i64 at_, .int .i64 free, .pointer (some ⟨g, 0, none⟩)] w fun e w' => e = .returned (.tuple #[]) ∧ PlusBox g h w0 w' (addS xs at_ free) s0 s1 := by
 obtain ⟨v, h1, h2, h3, h4, h5⟩ := hp
 have hlt := blk_lt h5
 refine (add_calls at_ free g g (fun k => k ≠ g ∧ k ≠ h) v xs w0 w h1 h2 (fun k hk => hk.1) (fun k hk => ⟨by omega, by omega⟩) h3 (by omega) (Nat.le_refl _) hl).mono ?_
 rintro e w' ⟨rfl, v', k1, k2, k3, k4⟩
 refine ⟨rfl, v', k1, k2, k3, h4, (k4.2 h hlt (fun hs => ?_)).trans h5⟩
 rcases hs with hs | hs
 ·omega
 ·exact (h2.1 h hs.symm).2 rfl
set_option maxHeartbeats 8000000 in
set_option maxRecDepth 100000 in
theorem step_plus.calls (A0 : Option Addr) (c0 : Nat) (l0 : List S45) (a1 : Int) (a2 : Int) (a3 : Int) (r : List S45) (w : World) (hr0 : Kd.C k45 w A0 l0.length l0) (hc0 : l0.length ≤ c0) (h : step_plus.f l0 a1 a2 a3 = some r) :
  Calls Try.prog 65 #[.slice A0 l0.length c0, .int .i64 a1, .int .i64 a2, .int .i64 a3] w fun e w' => ∃ v0_ : Value, e = .returned (v0_) ∧ Kd.R k45 45 w' w.heap.size (fun _ => True) v0_ r ∧ Below w.heap.size w w' := by
 unfold step_plus.f at h
 by_cases hl : ¬ l0.length < 2000000000000
 ·rw [if_neg hl] at h; cases h
 replace hl : l0.length < 2000000000000 := by omega
 rw [if_pos hl] at h
 obtain rfl := Option.some.inj h
 clear h
 have HR0 := Aside0.mk hr0
 have HL := Aside0.mk hl
 clear hr0 hc0 hl
 have hb := HL.out
 have hmf : ∀ (fn : Fn) (first cap : Array Value) (w : World), (Instr.makeFunc fn first cap).run Try.prog w = .ok (.func fn first cap) w := fun _ _ _ _ => rfl
 go_enter Try.func65, Try.ntmps65
 go_wp2
 go_loopg [17] l0.length (fun kq v17 w' => ∃ i : Nat, v17 = .int .i64 i ∧ Aside0 (kq + i = l0.length) ∧ Aside0 (PlusAt w.heap.size w w' (plusN l0 a1 a2 a3 i)))
 case atStart =>
  exact ⟨0, rfl, ⟨rfl⟩, ⟨⟨_, blk_new _ _, Kd.R_nil _ _ _ _ _, below_alloc (Below.refl _ _) _, by simp⟩⟩⟩
 case round =>
  obtain ⟨i, rfl, HK, HP⟩ := hrel
  have hk := HK.out
  by_cases hlt : (i : Int) < (l0.length : Int)
  ·have p1 : (0 : Int) ≤ (i : Int) := by omega
   have hCr : Kd.C k45 wr A0 l0.length l0 := by
    obtain ⟨v, q1, q2, q3, q4⟩ := HP.out
    exact Kd.C_below HR0.out q3
   obtain ⟨ad, e, hx0, hx1⟩ := at_T45 hCr (i : Int) p1 hlt
   cases e
   rw [Int.toNat_natCast] at hx0 hx1
   obtain ⟨gm, rfl⟩ : ∃ m, gk = m + 1 := ⟨gk - 1, by omega⟩
   have hHB := PlusBox.mk_ HP.out (rd_T45 l0 (i : Int)).f0 (rd_T45 l0 (i : Int)).f1
   have hCr2 := Kd.C_alloc hCr (.cells #[.int .i64 (rd_T45 l0 (i : Int)).f0, .int .i64 (rd_T45 l0 (i : Int)).f1] 45)
   have hB0 : (plusN l0 a1 a2 a3 i).length < 8796093022200 ∧ (plus1 l0 a1 a2 a3 i (plusN l0 a1 a2 a3 i)).length < 8796093022200 ∧ (plus2 l0 a1 a2 a3 i (plus1 l0 a1 a2 a3 i (plusN l0 a1 a2 a3 i))).length < 8796093022200 := by
    have z1 := plusN_len l0 a1 a2 a3 i
    have z2 := plusS_len l0 a1 a2 a3 i (plusN l0 a1 a2 a3 i)
    omega
   have hS : plusN l0 a1 a2 a3 (i + 1) = plus3 l0 a1 a2 a3 i (plus2 l0 a1 a2 a3 i (plus1 l0 a1 a2 a3 i (plusN l0 a1 a2 a3 i))) := rfl
   have h1 := show plus1 l0 a1 a2 a3 i (plusN l0 a1 a2 a3 i) = (if (rd_T45 l0 i).f0 < a1 then addS (plusN l0 a1 a2 a3 i) (rd_T45 l0 i).f0 (rd_T45 l0 i).f1 else (plusN l0 a1 a2 a3 i)) from rfl
   generalize plusN l0 a1 a2 a3 i = o0 at hHB hB0 hS h1
   generalize plus1 l0 a1 a2 a3 i o0 = o1 at hB0 hS h1
   have h2 := show plus2 l0 a1 a2 a3 i o1 = (if mx (rd_T45 l0 i).f0 a1 < mn (plusE l0 i) a2 then addS o1 (mx (rd_T45 l0 i).f0 a1) (wrap64 ((rd_T45 l0 i).f1 + a3)) else o1) from rfl
   generalize plus2 l0 a1 a2 a3 i o1 = o2 at hB0 hS h2
   have h3 := show plus3 l0 a1 a2 a3 i o2 = (if a2 < plusE l0 i then addS o2 (mx (rd_T45 l0 i).f0 a2) (rd_T45 l0 i).f1 else o2) from rfl
   generalize plus3 l0 a1 a2 a3 i o2 = o3 at hS h3
   have B0 := Aside0.mk hB0.1
   have B1 := Aside0.mk hB0.2.1
   have B2 := Aside0.mk hB0.2.2
   have HS := Aside0.mk hS
   clear hS hB0 HP
   have hltb := decide_eq_true hlt
   have hE : (if (i : Int) + 1 < (l0.length : Int) then (rd_T45 l0 ((i : Int) + 1)).f0 else 4611686018427387905) = plusE l0 i := rfl
   generalize plusE l0 i = pe at h2 h3 hE
   have HCx : Aside0 (Kd.C k45 (wr.alloc (.cells #[.int .i64 (rd_T45 l0 (i : Int)).f0, .int .i64 (rd_T45 l0 (i : Int)).f1] 45)) (some ad) l0.length l0) := ⟨hCr2⟩
   clear hCr hCr2 hk
   generalize hs0 : (rd_T45 l0 (i : Int)).f0 = s0 at hx0 hHB HCx h1 h2 h3
   generalize hs1 : (rd_T45 l0 (i : Int)).f1 = s1 at hx1 hHB HCx h1 h2 h3
   clear hs0 hs1
   by_cases c1 : (i : Int) + 1 < (l0.length : Int)
   ·rw [if_pos c1] at hE
    have q1 : (0 : Int) ≤ (i : Int) + 1 := by omega
    obtain ⟨ad2, e2, hy0, hy1⟩ := at_T45 HCx.out ((i : Int) + 1) q1 c1
    cases e2
    rw [show ((i : Int) + 1).toNat = i + 1 by omega] at hy0
    rw [hE] at hy0
    clear hy1 hE HCx
    have c1b := decide_eq_true c1
    by_cases c2 : s0 < a1 <;> by_cases c3 : mx s0 a1 < mn pe a2 <;> by_cases c4 : a2 < pe
    all_goals
     (first | (have hm1 : (if s0 < a1 then a1 else s0) = a1 := if_pos c2; rw [if_pos c2] at h1) | (have hm1 : (if s0 < a1 then a1 else s0) = s0 := if_neg c2; rw [if_neg c2] at h1))
     (first | rw [if_pos c3] at h2 | rw [if_neg c3] at h2)
     (first | rw [if_pos c4] at h3 | rw [if_neg c4] at h3)
     (first | have c2b : decide (s0 < a1) = true := decide_eq_true c2 | have c2b : decide (s0 < a1) = false := decide_eq_false c2)
     (first | have c4b : decide (a2 < pe) = true := decide_eq_true c4 | have c4b : decide (a2 < pe) = false := decide_eq_false c4)
     have hM : when_Meets.f s0 pe a1 a2 = some (decide (mx s0 a1 < mn pe a2)) := rfl
     (first | rw [decide_eq_true c3] at hM | rw [decide_eq_false c3] at hM)
     have HM := Aside0.mk hM
     (try first | rw [show mx s0 a1 = a1 by unfold mx; rw [if_pos c2]] at h2 | rw [show mx s0 a1 = s0 by unfold mx; rw [if_neg c2]] at h2)
     obtain ⟨m2, hm2⟩ : ∃ m, (if s0 < a2 then a2 else s0) = m := ⟨_, rfl⟩
     (try rw [show mx s0 a2 = m2 from hm2] at h3)
     have E1 := Aside0.mk h1.symm
     have E2 := Aside0.mk h2.symm
     have E3 := Aside0.mk h3.symm
     clear h1 h2 h3 hM c2 c3 c4
     (first | (rw [E1.out] at hHB; have HBx := Aside0.mk hHB) | have HBx := Aside0.mk hHB)
     clear hHB
     go_wp2_with (first | (go_at_call 69; refine (add_at _ _ _ _ _ _ _ _ _ HBx.out (by first | exact B0.out | exact B1.out | exact B2.out)).mono ?_; rintro e w2 ⟨rfl, hp⟩; (first | rw [E1.out] at hp | rw [E2.out] at hp | rw [E3.out] at hp); clear HBx; have HBx := Aside0.mk hp; have hcc := PlusBox.cells hp; obtain ⟨hcA, hcB⟩ := hcc; clear hp) | (go_at_call 70; refine (when_Meets.calls _ _ _ _ _ _ HM.out).mono ?_; rintro e w2 ⟨rfl, hb⟩; have hp := PlusBox.below HBx.out hb; (try rw [E2.out] at hp); clear HBx; have HBx := Aside0.mk hp; have hcc := PlusBox.cells hp; obtain ⟨hcA, hcB⟩ := hcc; clear hp hb))
     go_roundg gm
     case measure => omega
     case rel => exact ⟨i + 1, by first | rfl | go_num, ⟨by have := HK.out; omega⟩, ⟨by rw [HS.out]; first | exact PlusBox.forget HBx.out | (rw [← E3.out]; exact PlusBox.forget HBx.out)⟩⟩
   ·rw [if_neg c1] at hE
    subst hE
    clear HCx
    have c1b := decide_eq_false c1
    by_cases c2 : s0 < a1 <;> by_cases c3 : mx s0 a1 < mn 4611686018427387905 a2 <;> by_cases c4 : a2 < 4611686018427387905
    all_goals
     (first | (have hm1 : (if s0 < a1 then a1 else s0) = a1 := if_pos c2; rw [if_pos c2] at h1) | (have hm1 : (if s0 < a1 then a1 else s0) = s0 := if_neg c2; rw [if_neg c2] at h1))
     (first | rw [if_pos c3] at h2 | rw [if_neg c3] at h2)
     (first | rw [if_pos c4] at h3 | rw [if_neg c4] at h3)
     (first | have c2b : decide (s0 < a1) = true := decide_eq_true c2 | have c2b : decide (s0 < a1) = false := decide_eq_false c2)
     (first | have c4b : decide (a2 < 4611686018427387905) = true := decide_eq_true c4 | have c4b : decide (a2 < 4611686018427387905) = false := decide_eq_false c4)
     have hM : when_Meets.f s0 4611686018427387905 a1 a2 = some (decide (mx s0 a1 < mn 4611686018427387905 a2)) := rfl
     (first | rw [decide_eq_true c3] at hM | rw [decide_eq_false c3] at hM)
     have HM := Aside0.mk hM
     (try first | rw [show mx s0 a1 = a1 by unfold mx; rw [if_pos c2]] at h2 | rw [show mx s0 a1 = s0 by unfold mx; rw [if_neg c2]] at h2)
     obtain ⟨m2, hm2⟩ : ∃ m, (if s0 < a2 then a2 else s0) = m := ⟨_, rfl⟩
     (try rw [show mx s0 a2 = m2 from hm2] at h3)
     have E1 := Aside0.mk h1.symm
     have E2 := Aside0.mk h2.symm
     have E3 := Aside0.mk h3.symm
     clear h1 h2 h3 hM c2 c3 c4
     (first | (rw [E1.out] at hHB; have HBx := Aside0.mk hHB) | have HBx := Aside0.mk hHB)
     clear hHB
     go_wp2_with (first | (go_at_call 69; refine (add_at _ _ _ _ _ _ _ _ _ HBx.out (by first | exact B0.out | exact B1.out | exact B2.out)).mono ?_; rintro e w2 ⟨rfl, hp⟩; (first | rw [E1.out] at hp | rw [E2.out] at hp | rw [E3.out] at hp); clear HBx; have HBx := Aside0.mk hp; have hcc := PlusBox.cells hp; obtain ⟨hcA, hcB⟩ := hcc; clear hp) | (go_at_call 70; refine (when_Meets.calls _ _ _ _ _ _ HM.out).mono ?_; rintro e w2 ⟨rfl, hb⟩; have hp := PlusBox.below HBx.out hb; (try rw [E2.out] at hp); clear HBx; have HBx := Aside0.mk hp; have hcc := PlusBox.cells hp; obtain ⟨hcA, hcB⟩ := hcc; clear hp hb))
     go_roundg gm
     case measure => omega
     case rel => exact ⟨i + 1, by first | rfl | go_num, ⟨by have := HK.out; omega⟩, ⟨by rw [HS.out]; first | exact PlusBox.forget HBx.out | (rw [← E3.out]; exact PlusBox.forget HBx.out)⟩⟩
  ·have hil : i = l0.length := by omega
   subst hil
   have hfin := HP.out
   obtain ⟨v, q1, q2, q3, q4⟩ := hfin
   have hc9 : wr.cell? ⟨w.heap.size, 0, none⟩ = some v := (blk_cell q1 0).trans rfl
   have Q2 := Aside0.mk (Kd.R_mono (ok' := fun _ => True) q2 (fun _ _ => trivial))
   have Q3 := Aside0.mk q3
   clear q1 q2 q3 q4 HP HK hk hlt
   obtain ⟨A1, c1, e1⟩ := Kd.R_slice Q2.out
   subst e1
   go_wp2
   go_ret
   exact ⟨_, rfl, Q2.out, Q3.out⟩


/-! ### step_change: function 54 -/
def step_change.f (l0 : List (S45)) (a1 : Int) (a2 : Int) (a3 : Int) : Option ((List (S45)) × Int) := (step_plus.f l0 a1 a2 a3).bind fun t140 => (if (t140.length : Int) > 1024 then ((slices_Clone_api_Step_api_Step.f l0).bind fun t143 => (some (t143, 4))) else (some (t140, 0)))
set_option maxHeartbeats 8000000 in
set_option maxRecDepth 100000 in
theorem step_change.calls (A0 : Option Addr) (c0 : Nat) (l0 : List (S45)) (a1 : Int) (a2 : Int) (a3 : Int) (r1 : List (S45)) (r2 : Int) (w : World) (hr0 : Kd.C k45 w A0 l0.length l0) (hc0 : l0.length ≤ c0) (h : step_change.f l0 a1 a2 a3 = some (r1, r2)) :
  Calls Try.prog 54 #[.slice A0 l0.length c0, .int .i64 a1, .int .i64 a2, .int .i64 a3] w fun e w' => ∃ v0_ : Value, e = .returned (.tuple #[v0_, .int .i64 r2]) ∧ Kd.R k45 45 w' w.heap.size (fun _ => True) v0_ r1 ∧ Below w.heap.size w w' := by
 have HR0 := Aside0.mk hr0
 have HC0 := Aside0.mk hc0
 clear hr0 hc0
 have HB := Aside0.mk (Below.refl w.heap.size w)
 have H : ((step_plus.f l0 a1 a2 a3).bind fun t140 => (if (t140.length : Int) > 1024 then ((slices_Clone_api_Step_api_Step.f l0).bind fun t143 => (some (t143, 4))) else (some (t140, 0)))) = some (r1, r2) := h
 clear h
 replace H := Option.bind_eq_some_iff.mp H
 obtain ⟨t140, A50, H⟩ := H
 replace H : (if (t140.length : Int) > 1024 then ((slices_Clone_api_Step_api_Step.f l0).bind fun t143 => (some (t143, 4))) else (some (t140, 0))) = some (r1, r2) := H
 have A5 := Aside0.mk A50
 clear A50
 by_cases c6 : (t140.length : Int) > 1024
 ·rw [if_pos c6] at H
  have c6b0 : decide (1024 < (t140.length : Int)) = true := decide_eq_true c6
  have c6b1 : decide (1024 < t140.length) = true := decide_eq_true (by omega)
  clear c6
  replace H := Option.bind_eq_some_iff.mp H
  obtain ⟨t143, A70, H⟩ := H
  replace H : (some (t143, 4)) = some (r1, r2) := H
  have A7 := Aside0.mk A70
  clear A70
  simp only [Option.some.injEq, Prod.mk.injEq] at H
  obtain ⟨rfl, rfl⟩ := H
  go_enter Try.func54, Try.ntmps54
  go_wp2_with (first | ((with_reducible refine gate_callee (f := 65) rfl ?_); refine goesL_ (some 15) rfl rfl Try.func65 (by kernel_rfl) rfl #[.slice A0 l0.length c0, .int .i64 a1, .int .i64 a2, .int .i64 a3] rfl (by (try simp only [List.map_toArray, List.map_cons, List.map_nil]); first | done | rfl | (simp only [List.length_drop, List.length_take]; rfl)) ?_; (with_reducible refine (step_plus.calls _ _ l0 a1 a2 a3 t140 _ ?side1 ?side2 A5.out).mono ?_); (case side1 => repeat (first | exact HR0.out | (with_reducible refine Kd.C_alloc ?_ _) | (with_reducible refine Kd.C_drewN ?_ _) | (with_reducible refine Kd.C_drew ?_))); (case side2 => exact HC0.out); rintro e w8 ⟨v141, rfl, ho0, hb⟩; refine ⟨_, rfl, ?_⟩; have n0_ := Aside0.mk (Kd.R_lower ho0 (below_size (by repeat (first | (with_reducible first | exact HB.out | apply below_alloc | apply pw_below_drewN | apply below_drew1) | exact HB.out)))); have n1_ := Aside0.mk (below_step (by repeat (first | (with_reducible first | exact HB.out | apply below_alloc | apply pw_below_drewN | apply below_drew1) | exact HB.out)) hb); clear HB; have HO142 := n0_; have HB := n1_; clear n0_ n1_; (try clear hb); (try clear hb2); (try clear hk); (try clear hi); (try clear ho0); obtain ⟨Ao9, co9, eo9⟩ := Kd.R_slice HO142.out; subst eo9) | ((with_reducible refine gate_callee (f := 53) rfl ?_); refine goesL_ (some 20) rfl rfl Try.func53 (by kernel_rfl) rfl #[.slice A0 l0.length c0] rfl (by (try simp only [List.map_toArray, List.map_cons, List.map_nil]); first | done | rfl | (simp only [List.length_drop, List.length_take]; rfl)) ?_; (with_reducible refine (slices_Clone_api_Step_api_Step.calls _ _ l0 t143 _ ?side1 ?side2 A7.out).mono ?_); (case side1 => repeat (first | exact (Kd.C_below HR0.out HB.out) | (with_reducible refine Kd.C_alloc ?_ _) | (with_reducible refine Kd.C_drewN ?_ _) | (with_reducible refine Kd.C_drew ?_))); (case side2 => exact HC0.out); rintro e w10 ⟨v144, rfl, ho0, hb⟩; refine ⟨_, rfl, ?_⟩; have n0_ := Aside0.mk (Kd.R_elder' (by (with_reducible repeat (first | apply Kd.R_alloc | apply Kd.R_drewN | apply Kd.R_drew)); exact HO142.out) (Kd.R_base ho0) hb); have n1_ := Aside0.mk (Kd.R_lower (Kd.R_new' ho0 (Kd.R_lt (by (with_reducible repeat (first | apply Kd.R_alloc | apply Kd.R_drewN | apply Kd.R_drew)); exact HO142.out))) (below_size (by repeat (first | (with_reducible first | exact HB.out | apply below_alloc | apply pw_below_drewN | apply below_drew1) | exact HB.out)))); have n2_ := Aside0.mk (below_step (by repeat (first | (with_reducible first | exact HB.out | apply below_alloc | apply pw_below_drewN | apply below_drew1) | exact HB.out)) hb); clear HO142; clear HB; have HO142 := n0_; have HO145 := n1_; have HB := n2_; clear n0_ n1_ n2_; (try clear hb); (try clear hb2); (try clear hk); (try clear hi); (try clear ho0)))
  go_ret2
  exact ⟨_, by first | rfl | (simp [errW_none, errW_some] <;> rfl) | (simp [*, errW_none, errW_some] <;> rfl), by (with_reducible repeat (first | apply Kd.R_alloc | apply Kd.R_drewN | apply Kd.R_drew)); exact Kd.R_mono HO145.out (fun _ hk => trivial), by repeat (first | (with_reducible first | exact HB.out | apply below_alloc | apply pw_below_drewN | apply below_drew1) | exact HB.out)⟩
 ·rw [if_neg c6] at H
  have c6b0 : decide (1024 < (t140.length : Int)) = false := decide_eq_false c6
  have c6b1 : decide (1024 < t140.length) = false := decide_eq_false (by omega)
  clear c6
  simp only [Option.some.injEq, Prod.mk.injEq] at H
  obtain ⟨rfl, rfl⟩ := H
  go_enter Try.func54, Try.ntmps54
  go_wp2_with (first | ((with_reducible refine gate_callee (f := 65) rfl ?_); refine goesL_ (some 15) rfl rfl Try.func65 (by kernel_rfl) rfl #[.slice A0 l0.length c0, .int .i64 a1, .int .i64 a2, .int .i64 a3] rfl (by (try simp only [List.map_toArray, List.map_cons, List.map_nil]); first | done | rfl | (simp only [List.length_drop, List.length_take]; rfl)) ?_; (with_reducible refine (step_plus.calls _ _ l0 a1 a2 a3 t140 _ ?side1 ?side2 A5.out).mono ?_); (case side1 => repeat (first | exact HR0.out | (with_reducible refine Kd.C_alloc ?_ _) | (with_reducible refine Kd.C_drewN ?_ _) | (with_reducible refine Kd.C_drew ?_))); (case side2 => exact HC0.out); rintro e w11 ⟨v141, rfl, ho0, hb⟩; refine ⟨_, rfl, ?_⟩; have n0_ := Aside0.mk (Kd.R_lower ho0 (below_size (by repeat (first | (with_reducible first | exact HB.out | apply below_alloc | apply pw_below_drewN | apply below_drew1) | exact HB.out)))); have n1_ := Aside0.mk (below_step (by repeat (first | (with_reducible first | exact HB.out | apply below_alloc | apply pw_below_drewN | apply below_drew1) | exact HB.out)) hb); clear HB; have HO142 := n0_; have HB := n1_; clear n0_ n1_; (try clear hb); (try clear hb2); (try clear hk); (try clear hi); (try clear ho0); obtain ⟨Ao12, co12, eo12⟩ := Kd.R_slice HO142.out; subst eo12))
  go_ret2
  exact ⟨_, by first | rfl | (simp [errW_none, errW_some] <;> rfl) | (simp [*, errW_none, errW_some] <;> rfl), by (with_reducible repeat (first | apply Kd.R_alloc | apply Kd.R_drewN | apply Kd.R_drew)); exact HO142.out, by repeat (first | (with_reducible first | exact HB.out | apply below_alloc | apply pw_below_drewN | apply below_drew1) | exact HB.out)⟩

end Go.Proofs.Ytimllhflecippaa.F
