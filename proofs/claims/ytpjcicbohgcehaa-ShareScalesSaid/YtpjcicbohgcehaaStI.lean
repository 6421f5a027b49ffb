/- slices.SortStableFunc at []Int: insertion, the passes. -/
import Derived.Test.YtpjcicbohgcehaaSoI
namespace Go.Proofs.Ytpjcicbohgcehaa.Ab
open Go.RowKit
set_option linter.unusedVariables false
set_option linter.unusedSimpArgs false

set_option maxHeartbeats 8000000 in
set_option maxRecDepth 100000 in
theorem insSI_c (f : FuncId) (caps : List SV) (c : Int → Int → Int) (S : Int → Prop) (hp : ∀ a b, S a → S b → ACalls Try.prog f ([iv a, iv b] ++ caps) (· = .one (.sv (iv (c a b)))))
    (A l C g0 g1 : List Int) (a b : Nat) (ha : a = A.length) (hb : b = A.length + l.length) (hg0 : g0 = A ++ l ++ C) (hg1 : g1 = A ++ srt (fun a b => decide (c a b < 0)) l ++ C) (hS : ∀ z ∈ l, S z) (hlen : A.length + l.length + C.length ≤ 1000000000) :
    ACallsI Try.prog 47 [.own, .sv (iv a), .sv (iv b), .sv (.fn f caps)] (.row 1 (g0.map iv)) (fun r o => r = .many [] ∧ o = .row 1 (g1.map iv)) := by
  refine ACallsI.of_body (fun _ _ => Try.call47 _ _) Try.func47 rfl Try.ntmps47 (by simp) rfl ?_
  refine Tr.ex ?_
  have hw0 : IntKind.i64.wrap ((a : Int) + 1) = (a : Int) + 1 := by rw [i64w] <;> omega
  have hlt0 : ∀ x y, (fun a b => decide (c a b < 0)) x y = decide (c x y < 0) := fun x y => rfl
  generalize (fun a b => decide (c a b < 0)) = lt at *
  have hgl1 : g1.length = g0.length := by rw [hg0, hg1]; simp [srt_len]
  rw [← srtL_one lt A l C] at hg0
  simp [go_sem, hw0]
  refine LoopW.of (fun p : Nat => ⟨53, [(0, .own 1000000), (1, .sv (iv a)), (2, .sv (iv b)), (3, .sv (.fn f caps)), (8, .sv (iv p))], [(1000000, .row 1 ((srtL lt A l C (p - a)).map iv))]⟩)
    (fun p => a + 1 ≤ p ∧ p ≤ max (a + 1) b) (fun p => b - p) (a + 1) ⟨by omega, by omega⟩ (Ent.chk (by simp [go_sem, ← hg0])) ?_
  rintro p ⟨hm1, hm2⟩
  by_cases hlt : p < b
  · have hlt' : (p : Int) < b := by omega
    have hw : IntKind.i64.wrap ((p : Int) + 1) = (p : Int) + 1 := by rw [i64w] <;> omega
    obtain ⟨x, hx⟩ : ∃ x, l[p - a]? = some x := ⟨_, List.getElem?_eq_getElem (by omega)⟩
    have hmid := srtL_mid (lt := lt) (A := A) (C := C) hx
    have hend := fun k => srtL_end (lt := lt) (A := A) (C := C) (k := k) hx
    have hrl : (srtR lt (l.take (p - a))).length = p - a := by rw [srtR_len, List.length_take]; omega
    have hrS : ∀ z ∈ srtR lt (l.take (p - a)), S z := fun z hz => hS z (List.mem_of_mem_take ((srtR_perm lt _).mem_iff.1 hz))
    have hxS := hS x (List.mem_of_getElem? hx)
    have hCl : (l.drop (p - a + 1) ++ C).length = l.length - (p - a + 1) + C.length := by simp
    rw [hmid]
    rw [show p - a + 1 = p + 1 - a by omega] at *
    generalize hnx : srtL lt A l C (p + 1 - a) = nxt at *
    generalize srtR lt (l.take (p - a)) = rp at *
    generalize l.drop (p + 1 - a) ++ C = C' at *
    simp [go_sem, hlt, hlt']
    refine LoopW.of (fun i : Nat => ⟨53, [(0, .own 1000000), (1, .sv (iv a)), (2, .sv (iv b)), (3, .sv (.fn f caps)), (8, .sv (iv p)), (9, .sv (iv i))], [(1000000, .row 1 ((midL A rp x (p - i) C').map iv))]⟩)
      (fun i => a ≤ i ∧ i ≤ p ∧ insR lt x rp = rp.take (p - i) ++ insR lt x (rp.drop (p - i))) (fun i => i) p ⟨by omega, by omega, by simp⟩ (Ent.chk (by simp [go_sem])) ?_
    rintro i ⟨hi1, hi2, hins⟩
    have hk : p - i ≤ rp.length := by omega
    have hml := midL_len A rp x (p - i) C' hk
    by_cases hkr : a < i
    · have hkr' : (a : Int) < i := by omega
      obtain ⟨y, hy⟩ : ∃ y, rp[p - i]? = some y := ⟨_, List.getElem?_eq_getElem (by omega)⟩
      obtain ⟨hs1, hs2⟩ := insR_step hy hins
      rw [hlt0] at hs1 hs2
      have hg1 := midL_at (A := A) (x := x) (C := C') hk (i := i) (by omega)
      have hg2 := midL_pre (A := A) (x := x) (C := C') hy (i := i - 1) (by omega)
      have hst := midL_step (A := A) (x := x) (C := C') hy (i := i) (j := i - 1) (by omega) (by omega)
      have hst2 := congrArg (List.map iv) hst
      rw [show p - i + 1 = p - (i - 1) by omega] at *
      have hwi : IntKind.i64.wrap ((i : Int) - 1) = ((i - 1 : Nat) : Int) := by rw [i64w] <;> omega
      have hb1 : i < (midL A rp x (p - i) C').length := by omega
      have hb2 : i - 1 < (midL A rp x (p - i) C').length := by omega
      have hcl := hp x y hxS (hrS y (List.mem_of_getElem? hy))
      have e := hend (p - i)
      generalize hgg : midL A rp x (p - (i - 1)) C' = g' at *
      generalize midL A rp x (p - i) C' = g at *
      have hb1' : (i : Int) < g.length := by omega
      have hb2' : ((i - 1 : Nat) : Int) < g.length := by omega
      have hg3 : ((g.map iv).set i (iv y))[i - 1]? = some (iv y) := by
        rw [List.getElem?_set_ne (by omega), List.getElem?_map, hg2]; rfl
      simp only [List.map_set, iv] at hst2
      simp only [iv] at hg3
      simp [go_sem, hkr, hkr']
      refine DrawW.rd rfl ?_
      simp [go_sem, hkr, hkr', hwi, hb1, hb1', hb2, hb2', hg1, gE hg1, hg2, gE hg2]
      refine OpD.callF (g := f) (caps := caps) (ys := [iv x, iv y]) true hcl rfl rfl (by simp [go_sem]) (by simp [go_sem]) (by intro _; simp [go_sem]) (by simp [go_sem]) (by simp [go_sem]) ?_
      simp [go_sem]
      refine ⟨by kernel_rfl, ?_⟩
      by_cases hc : c x y < 0
      · have h1 := hs1 (by simpa using hc)
        simp [go_sem, hc]
        refine DrawW.rd rfl ?_
        simp [go_sem, hkr, hkr', hwi, hb1, hb1', hb2, hb2', hg1, gE hg1, hg2, gE hg2, hg3, gE hg3]
        rw [hst2]
        refine ⟨by kernel_rfl, ?_⟩
        exact ⟨i - 1, ⟨by omega, by omega, h1⟩, by omega, Ent.chk (by simp [go_sem, hwi, hgg])⟩
      · have h2 := hs2 (by simpa using hc)
        have e := e h2
        subst e
        simp [go_sem, hc]
        exact ⟨p + 1, ⟨by omega, by omega⟩, by omega, Ent.chk (by simp [go_sem, hw, hnx])⟩
    · have hke : i = a := by omega
      have hkr' : ¬ (a : Int) < i := by omega
      have e := hend (p - i) (by rw [hins, show p - i = rp.length by omega]; simp [insR])
      rw [e]
      simp [go_sem, hkr, hkr']
      refine DrawW.rd rfl ?_
      simp [go_sem, hkr, hkr']
      refine ⟨by kernel_rfl, ?_⟩
      exact ⟨p + 1, ⟨by omega, by omega⟩, by omega, Ent.chk (by simp [go_sem, hw, hnx])⟩
  · have hlt' : ¬ (p : Int) < b := by omega
    have hall := srtL_all (lt := lt) (A := A) (C := C) (l := l) (m := p - a) (by omega)
    rw [hall, ← hg1]
    simp [go_sem, hlt, hlt', hgl1]
theorem fl1_const {k : Nat} : ∀ {ps : List (List Int × List Int)}, (∀ p ∈ ps, p.1.length = k) → (fl1 ps).length = k * ps.length
  | [], _ => by simp [fl1]
  | p :: ps, h => by
    rw [fl1_cons, List.length_append, h p List.mem_cons_self, fl1_const (ps := ps) fun q hq => h q (List.mem_cons_of_mem _ hq), List.length_cons, Nat.mul_succ, Nat.add_comm]
def LenAll (k : Nat) (ds : List (List Int × List Int)) : Prop := ∀ p ∈ ds, p.1.length = k
def SortedOf (R : Int → Int → Prop) (l g : List Int) : Prop := g.Perm l ∧ g.Pairwise R
/-- Blocks that are sorted, and what is still to be sorted. -/
def stL (ds : List (List Int × List Int)) (rest : List Int) : List Int := fl1 ds ++ rest
set_option maxHeartbeats 16000000 in
set_option maxRecDepth 100000 in
theorem stableSI_c (R : Int → Int → Prop) (ht : ∀ a b c, R a b → R b c → R a c) (f : FuncId) (caps : List SV) (c : Int → Int → Int) (S : Int → Prop) (hp : ∀ a b, S a → S b → ACalls Try.prog f ([iv a, iv b] ++ caps) (· = .one (.sv (iv (c a b)))))
    (l : List Int) (ho : Ord R c l) (hS : ∀ z ∈ l, S z) (hlen : l.length ≤ 100000000) :
    ACallsI Try.prog 39 [.own, .sv (iv l.length), .sv (.fn f caps)] (.row 1 (l.map iv)) (fun r o => r = .many [] ∧ ∃ g, SortedOf R l g ∧ o = .row 1 (g.map iv)) := by
  refine ACallsI.of_body (fun _ _ => Try.call39 _ _) Try.func39 rfl Try.ntmps39 (by simp) rfl ?_
  refine Tr.ex ?_
  have hs0 : stL [] l = l := by simp [stL, fl1]
  simp [go_sem]
  refine LoopW.halt ?_
  refine LoopW.of (fun z : List (List Int × List Int) × List Int => ⟨63, [(0, .own 1000000), (1, .sv (iv l.length)), (2, .sv (.fn f caps)), (6, .sv (iv 20)), (7, .sv (iv (20 * (z.1.length : Int)))), (8, .sv (iv (20 * (z.1.length : Int) + 20)))], [(1000000, .row 1 ((stL z.1 z.2).map iv))]⟩)
    (fun z => Runs R z.1 ∧ LenAll 20 z.1 ∧ fl2 z.1 ++ z.2 = l) (fun z => z.2.length) ([], l) ⟨fun p hp => (by cases hp), fun p hp => (by cases hp), rfl⟩ (Ent.chk (by simp [go_sem, hs0])) ?_
  rintro ⟨ds, rest⟩ ⟨hr, hd, hfl⟩
  simp only at hr hd hfl ⊢
  have hdl := fl1_const hd
  have hpl := hr.perm.length_eq
  have hll := congrArg List.length hfl
  rw [List.length_append] at hll
  by_cases hge : 20 ≤ rest.length
  · have hge' : 20 * (ds.length : Int) + 20 ≤ l.length := by omega
    have hw : IntKind.i64.wrap (20 * (ds.length : Int) + 20 + 20) = 20 * (ds.length : Int) + 20 + 20 := by rw [i64w] <;> omega
    have htd : rest.take 20 ++ rest.drop 20 = rest := List.take_append_drop _ _
    have hlt : (rest.take 20).length = 20 := by simp; omega
    have hld : (rest.drop 20).length = rest.length - 20 := by simp
    have hord : Ord R c (rest.take 20) := ho.sub (by rw [← hfl]; exact (List.take_sublist _ _).trans (List.sublist_append_right _ _))
    have hrun := run_srt ht hord
    have hsl := srt_len (fun a b => decide (c a b < 0)) (rest.take 20)
    have hSt : ∀ z ∈ rest.take 20, S z := fun z hz => hS z (by rw [← hfl]; exact List.mem_append_right _ (List.mem_of_mem_take hz))
    generalize rest.take 20 = T at *
    generalize rest.drop 20 = D at *
    subst htd
    have hins := insSI_c f caps c S hp (fl1 ds) T D (stL ds (T ++ D)) (stL (ds ++ [(srt (fun a b => decide (c a b < 0)) T, T)]) D) (20 * ds.length) (20 * ds.length + 20) (by omega) (by omega) (by simp [stL]) (by simp [stL, fl1_app, fl1_cons, fl1_nil]) hSt (by omega)
    have hgl : (stL (ds ++ [(srt (fun a b => decide (c a b < 0)) T, T)]) D).length = (stL ds (T ++ D)).length := by simp [stL, fl1_app, fl1_cons, fl1_nil, hsl]
    have hI2 : Runs R (ds ++ [(srt (fun a b => decide (c a b < 0)) T, T)]) ∧ LenAll 20 (ds ++ [(srt (fun a b => decide (c a b < 0)) T, T)]) ∧ fl2 (ds ++ [(srt (fun a b => decide (c a b < 0)) T, T)]) ++ D = l := by
      refine ⟨fun p hp => ?_, fun p hp => ?_, ?_⟩
      · rcases List.mem_append.1 hp with hp | hp
        · exact hr p hp
        · rw [List.mem_singleton.1 hp]; exact hrun
      · rcases List.mem_append.1 hp with hp | hp
        · exact hd p hp
        · rw [List.mem_singleton.1 hp]; show (srt _ T).length = 20; omega
      · rw [← hfl]; simp [fl2_app, fl2_cons, fl2_nil]
    have hdl2 : (ds ++ [(srt (fun a b => decide (c a b < 0)) T, T)]).length = ds.length + 1 := by simp
    generalize ds ++ [(srt (fun a b => decide (c a b < 0)) T, T)] = ds' at *
    have hc2 : 20 * (ds'.length : Int) = 20 * (ds.length : Int) + 20 := by omega
    simp [go_sem, hge']
    refine OpW.callI 1000000 hins rfl (by simp [go_sem]) (by simp [go_sem]) (by simp [go_sem]) (by simp [go_sem]) ?_
    rintro r o ⟨rfl, rfl⟩
    simp [go_sem, hgl]
    exact ⟨ds', D, hI2, by omega, Ent.chk (by simp [go_sem, hw, hc2])⟩
  · have hge' : ¬ 20 * (ds.length : Int) + 20 ≤ l.length := by omega
    have hord : Ord R c rest := ho.sub (by rw [← hfl]; exact List.sublist_append_right _ _)
    have hrun := run_srt ht hord
    have hsl := srt_len (fun a b => decide (c a b < 0)) rest
    have hSt : ∀ z ∈ rest, S z := fun z hz => hS z (by rw [← hfl]; exact List.mem_append_right _ hz)
    obtain ⟨ps, hps⟩ : ∃ ps, ps = ds ++ (if rest = [] then [] else [(srt (fun a b => decide (c a b < 0)) rest, rest)]) := ⟨_, rfl⟩
    have hf1 : fl1 ps = fl1 ds ++ srt (fun a b => decide (c a b < 0)) rest := by
      rw [hps, fl1_app]
      by_cases h0 : rest = []
      · subst h0; rfl
      · rw [if_neg h0, fl1_cons, fl1_nil]; simp
    have hf2 : fl2 ps = l := by
      rw [hps, fl2_app, ← hfl]
      by_cases h0 : rest = []
      · subst h0; rfl
      · rw [if_neg h0, fl2_cons, fl2_nil]; simp
    have hrP : Runs R ps := fun p hp => by
      rw [hps] at hp
      rcases List.mem_append.1 hp with hp | hp
      · exact hr p hp
      · by_cases h0 : rest = []
        · rw [if_pos h0] at hp; cases hp
        · rw [if_neg h0] at hp; rw [List.mem_singleton.1 hp]; exact hrun
    have hsz : Sized 20 ps := by
      rw [hps]
      refine sized_app hd (by decide) ?_
      by_cases h0 : rest = []
      · rw [if_pos h0]; trivial
      · rw [if_neg h0]
        have := List.length_pos_iff.2 h0
        exact ⟨by show 0 < (srt _ rest).length; omega, by show (srt _ rest).length ≤ 20; omega⟩
    have hins := insSI_c f caps c S hp (fl1 ds) rest [] (stL ds rest) (fl1 ps) (20 * ds.length) l.length (by omega) (by omega) (by simp [stL]) (by rw [hf1]; simp) hSt (by simp; omega)
    have hgl : (fl1 ps).length = (stL ds rest).length := by rw [hf1]; simp [stL, hsl]
    have hgl2 : (stL ds rest).length = l.length := by simp [stL]; omega
    clear hps hf1 hrun hsl
    simp [go_sem, hge']
    refine HaltW.cut (σ := Unit) (fun _ => ⟨63, [(0, .own 1000000), (1, .sv (iv l.length)), (2, .sv (.fn f caps)), (6, .sv (iv 20))], [(1000000, .row 1 ((fl1 ps).map iv))]⟩) (fun _ => True) ?_ (fun _ _ => ?_)
    · simp [go_sem]
      refine OpW.callI 1000000 hins rfl (by simp [go_sem]) (by simp [go_sem]) (by simp [go_sem]) (by simp [go_sem]) ?_
      rintro r o ⟨rfl, rfl⟩
      simp [go_sem, hgl]
      exact Ent.chk (by simp [go_sem])
    refine HaltW.go ?_
    simp [go_sem]
    refine LoopW.of (fun z : Nat × List (List Int × List Int) => ⟨63, [(0, .own 1000000), (1, .sv (iv l.length)), (2, .sv (.fn f caps)), (6, .sv (iv z.1))], [(1000000, .row 1 ((fl1 z.2).map iv))]⟩)
      (fun z => Runs R z.2 ∧ Sized z.1 z.2 ∧ fl2 z.2 = l ∧ 20 ≤ z.1) (fun z => l.length - z.1) (20, ps) ⟨hrP, hsz, hf2, Nat.le_refl _⟩ (Ent.chk (by simp [go_sem])) ?_
    clear hgl hgl2 hins hf2 hrP hsz ps hge hge' hord hSt hll hpl hdl hfl hd hr rest ds
    rintro ⟨k, ps⟩ ⟨hr, hsz, hf2, hk⟩
    simp only at hr hsz hf2 hk ⊢
    have hpl := hr.perm.length_eq
    rw [hf2] at hpl
    by_cases hkn : k < l.length
    · have hkn' : (k : Int) < l.length := by omega
      have hw2 : IntKind.i64.wrap (2 * (k : Int)) = 2 * (k : Int) := by rw [i64w] <;> omega
      have hw3 : IntKind.i64.wrap ((k : Int) * 2) = ((k * 2 : Nat) : Int) := by rw [i64w] <;> omega
      simp [go_sem, hkn, hkn', hw2]
      refine LoopW.of (fun z : List (List Int × List Int) × List (List Int × List Int) => ⟨63, [(0, .own 1000000), (1, .sv (iv l.length)), (2, .sv (.fn f caps)), (6, .sv (iv k)), (7, .sv (iv (fl1 z.1).length)), (8, .sv (iv ((fl1 z.1).length + 2 * (k : Int))))], [(1000000, .row 1 ((fl1 (z.1 ++ z.2)).map iv))]⟩)
        (fun z => Runs R (z.1 ++ z.2) ∧ LenAll (2 * k) z.1 ∧ Sized k z.2 ∧ fl2 (z.1 ++ z.2) = l) (fun z => z.2.length) ([], ps) ⟨hr, fun p hp => (by cases hp), hsz, hf2⟩ (Ent.chk (by simp [go_sem, fl1])) ?_
      clear hr hsz hf2 hpl ps
      rintro ⟨ds, ts⟩ ⟨hr, hd, hsz, hf2⟩
      simp only at hr hd hsz hf2 ⊢
      have hpl := hr.perm.length_eq
      rw [hf2, fl1_app, List.length_append] at hpl
      have hord : Ord R c (fl2 (ds ++ ts)) := by rw [hf2]; exact ho
      have hSm : ∀ (A B : List (List Int × List Int)) (p q : List Int × List Int), ds ++ ts = A ++ p :: q :: B → ∀ z, z ∈ p.1 ∨ z ∈ q.1 → S z := fun A B p q e z hz => hS z (by
        rw [← hf2, e, fl2_app, fl2_cons, fl2_cons]
        rw [e] at hr
        have hp1 := (hr p (by simp)).1
        have hq1 := (hr q (by simp)).1
        rcases hz with hz | hz
        · exact List.mem_append_right _ (List.mem_append_left _ (hp1.mem_iff.1 hz))
        · exact List.mem_append_right _ (List.mem_append_right _ (List.mem_append_left _ (hq1.mem_iff.1 hz))))
      by_cases hge : 2 * k ≤ (fl1 ts).length
      · have hge' : ((fl1 ds).length : Int) + 2 * k ≤ l.length := by omega
        obtain ⟨p, q, r, rfl, hp1, hq1, hsr⟩ := sized_two (by omega) hsz hge
        rw [fl1_cons, fl1_cons, List.length_append, List.length_append] at hpl
        have hM := mrgI_c R ht f caps c S hp (p.1.length + q.1.length) (fl1 ds) p.1 q.1 (fl1 r) (fl1 (ds ++ p :: q :: r)) (fl1 ds).length ((fl1 ds).length + k) ((fl1 ds).length + 2 * k) rfl (by omega) (by omega) rfl (by omega) (by omega) (by rw [fl1_app, fl1_cons, fl1_cons]; simp only [List.append_assoc]) (Runs.merge hr hord) (hSm ds r p q rfl) (by rw [fl1_app, fl1_cons, fl1_cons]; simp only [List.length_append]; omega)
        have hwk : IntKind.i64.wrap (((fl1 ds).length : Int) + k) = ((fl1 ds).length : Int) + k := by rw [i64w] <;> omega
        have hwb : IntKind.i64.wrap (((fl1 ds).length : Int) + 2 * k + 2 * k) = ((fl1 ds).length : Int) + 2 * k + 2 * k := by rw [i64w] <;> omega
        simp [go_sem, hge', hwk]
        refine OpW.callI 1000000 hM rfl (by simp [go_sem]) (by simp [go_sem]) (by simp [go_sem]) (by simp [go_sem]) ?_
        rintro r0 o0 ⟨rfl, g, ⟨Z, hZ, hg⟩, rfl⟩
        have hZl := hZ.1.length_eq
        rw [List.length_append] at hZl
        have hgl : g.length = (fl1 (ds ++ p :: q :: r)).length := by rw [hg, fl1_app, fl1_cons, fl1_cons]; simp only [List.length_append]; omega
        have hge2 : g = fl1 ((ds ++ [(Z, p.2 ++ q.2)]) ++ r) := by rw [hg, fl1_app, fl1_app, fl1_cons, fl1_nil, List.append_nil]
        have hI2 : Runs R ((ds ++ [(Z, p.2 ++ q.2)]) ++ r) ∧ LenAll (2 * k) (ds ++ [(Z, p.2 ++ q.2)]) ∧ Sized k r ∧ fl2 ((ds ++ [(Z, p.2 ++ q.2)]) ++ r) = l := by
          refine ⟨?_, fun p' hp' => ?_, hsr, ?_⟩
          · rw [List.append_assoc]; exact Runs.merged hr hZ
          · rcases List.mem_append.1 hp' with hp' | hp'
            · exact hd p' hp'
            · rw [List.mem_singleton.1 hp']; show Z.length = _; omega
          · rw [List.append_assoc, ← hf2]; exact merged_fl2 ds r p q Z
        have hdl2 : ((fl1 (ds ++ [(Z, p.2 ++ q.2)])).length : Int) = (fl1 ds).length + 2 * k := by rw [fl1_app, fl1_cons, fl1_nil, List.append_nil, List.length_append]; show (((fl1 ds).length + Z.length : Nat) : Int) = _; omega
        rw [hge2] at hgl ⊢
        generalize ds ++ [(Z, p.2 ++ q.2)] = ds' at *
        simp [go_sem, hgl, hw2]
        exact ⟨ds', r, hI2, by omega, Ent.chk (by simp [go_sem, hwb, hdl2])⟩
      · have hge' : ¬ ((fl1 ds).length : Int) + 2 * k ≤ l.length := by omega
        have hwk : IntKind.i64.wrap (((fl1 ds).length : Int) + k) = ((fl1 ds).length : Int) + k := by rw [i64w] <;> omega
        rcases sized_small hsz (by omega) with rfl | ⟨p, rfl, hp1, hp2⟩ | ⟨p, q, rfl, hp1, hq1, hq2⟩
        · simp [fl1] at hpl
          have hlt : ¬ ((fl1 ds).length : Int) + k < l.length := by have : (fl1 ds).length = l.length := by simpa [fl1] using hpl
                                                                    omega
          have hI2 : Runs R (ds ++ []) ∧ Sized (k * 2) (ds ++ []) ∧ fl2 (ds ++ []) = l ∧ 20 ≤ k * 2 := ⟨hr, sized_app (fun p hp => by rw [hd p hp]; omega) (by omega) trivial, hf2, by omega⟩
          generalize ds ++ [] = ps' at *
          simp [go_sem, hge', hwk, hlt]
          exact ⟨k * 2, ps', hI2, by omega, Ent.chk (by simp [go_sem, hw3])⟩
        · rw [fl1_cons, fl1_nil, List.append_nil] at hpl
          have hlt : ¬ ((fl1 ds).length : Int) + k < l.length := by omega
          have hI2 : Runs R (ds ++ [p]) ∧ Sized (k * 2) (ds ++ [p]) ∧ fl2 (ds ++ [p]) = l ∧ 20 ≤ k * 2 := ⟨hr, sized_app (fun p hp => by rw [hd p hp]; omega) (by omega) ⟨hp1, by omega⟩, hf2, by omega⟩
          generalize ds ++ [p] = ps' at *
          simp [go_sem, hge', hwk, hlt]
          exact ⟨k * 2, ps', hI2, by omega, Ent.chk (by simp [go_sem, hw3])⟩
        · rw [fl1_cons, fl1_cons, fl1_nil, List.append_nil, List.length_append] at hpl
          have hlt : ((fl1 ds).length : Int) + k < l.length := by omega
          have hM := mrgI_c R ht f caps c S hp (p.1.length + q.1.length) (fl1 ds) p.1 q.1 [] (fl1 (ds ++ [p, q])) (fl1 ds).length ((fl1 ds).length + k) l.length rfl (by omega) (by omega) rfl (by omega) (by omega) (by rw [fl1_app, fl1_cons, fl1_cons, fl1_nil]; simp only [List.append_assoc]) (Runs.merge hr hord) (hSm ds [] p q rfl) (by rw [fl1_app, fl1_cons, fl1_cons, fl1_nil, List.append_nil]; simp only [List.length_append]; omega)
          simp [go_sem, hge', hwk, hlt]
          refine OpW.callI 1000000 hM rfl (by simp [go_sem]) (by simp [go_sem]) (by simp [go_sem]) (by simp [go_sem]) ?_
          rintro r0 o0 ⟨rfl, g, ⟨Z, hZ, hg⟩, rfl⟩
          have hZl := hZ.1.length_eq
          rw [List.length_append] at hZl
          have hgl : g.length = (fl1 (ds ++ [p, q])).length := by rw [hg, fl1_app, fl1_cons, fl1_cons, fl1_nil]; simp only [List.length_append, List.length_nil]; omega
          have hge2 : g = fl1 (ds ++ [(Z, p.2 ++ q.2)]) := by rw [hg, fl1_app, fl1_cons, fl1_nil]; simp
          have hI2 : Runs R (ds ++ [(Z, p.2 ++ q.2)]) ∧ Sized (k * 2) (ds ++ [(Z, p.2 ++ q.2)]) ∧ fl2 (ds ++ [(Z, p.2 ++ q.2)]) = l ∧ 20 ≤ k * 2 := by
            refine ⟨Runs.merged hr hZ, sized_app (fun p hp => by rw [hd p hp]; omega) (by omega) ⟨by show 0 < Z.length; omega, by show Z.length ≤ _; omega⟩, ?_, by omega⟩
            rw [← hf2]; exact merged_fl2 ds [] p q Z
          rw [hge2] at hgl ⊢
          generalize ds ++ [(Z, p.2 ++ q.2)] = ps' at *
          simp [go_sem, hgl]
          exact ⟨k * 2, ps', hI2, by omega, Ent.chk (by simp [go_sem, hw3])⟩
    · have hkn' : ¬ (k : Int) < l.length := by omega
      have hso : SortedOf R l (fl1 ps) := ⟨by rw [← hf2]; exact hr.perm, sized_end hsz (by omega) hr⟩
      generalize fl1 ps = g at *
      simp [go_sem, hkn, hkn', hpl]
      exact ⟨g, hso, rfl⟩
theorem sortStableSI_c (R : Int → Int → Prop) (ht : ∀ a b c, R a b → R b c → R a c) (f : FuncId) (caps : List SV) (c : Int → Int → Int) (S : Int → Prop) (hp : ∀ a b, S a → S b → ACalls Try.prog f ([iv a, iv b] ++ caps) (· = .one (.sv (iv (c a b)))))
    (l : List Int) (ho : Ord R c l) (hS : ∀ z ∈ l, S z) (hlen : l.length ≤ 100000000) :
    ACallsI Try.prog 25 [.own, .sv (.fn f caps)] (.row 1 (l.map iv)) (fun r o => r = .many [] ∧ ∃ g, SortedOf R l g ∧ o = .row 1 (g.map iv)) := by
  refine ACallsI.of_body (fun _ _ => Try.call25 _ _) Try.func25 rfl Try.ntmps25 (by simp) rfl ?_
  refine Tr.ex ?_
  simp [go_sem]
  refine OpW.callI 1000000 (stableSI_c R ht f caps c S hp l ho hS hlen) rfl (by simp [go_sem]) (by simp [go_sem]) (by simp [go_sem]) (by simp [go_sem]) ?_
  rintro r o ⟨rfl, g, hg, rfl⟩
  have hgl := hg.1.length_eq
  simp [go_sem, hgl]
  exact ⟨g, hg, rfl⟩
end Go.Proofs.Ytpjcicbohgcehaa.Ab
