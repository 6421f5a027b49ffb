/- Layer 20: Add, Read, Good; the reference. -/
import Derived.Test.YtpnfmaphlfobpaaLoA
namespace Go.Proofs.Ytpnfmaphlfobpaa.Ab
open Go.RowKit LogP
set_option linter.unusedVariables false
set_option linter.unusedSimpArgs false

def addL (b e : List Int) : List Int × Int := if e.length < 1 ∨ 4096 < e.length then (b, 1) else (b ++ enc e, 0)
theorem Add_o (b e : List Int) (hB : Bs b) (hE : Bs e) (hb : b.length ≤ 35184372088832) (h1 : ¬ e.length < 1) (h2 : ¬ 4096 < e.length) : ACalls Try.prog 9 [bytesV b, bytesV e] (· = .many [.own 1 ((b ++ enc e).map b8), .sv (iv 0)]) := by
  refine ACalls.of_body (fun _ _ => Try.call9 _ _) Try.func9 rfl Try.ntmps9 (by simp) ?_
  refine Tr.ex ?_
  simp [go_sem]
  refine OpW.fn false (Clone_b b (by omega)) rfl rfl (by simp [go_sem]) (fun h => by cases h) ?_
  have hw : Bs (two e.length ++ e) := (two_bs _).append hE
  have hk := ck_rng (two e.length ++ e)
  intro r hr
  have h1' : ¬ (e.length : Int) < 1 := by omega
  have h2' : ¬ (4096 : Int) < e.length := by omega
  rcases hr with ⟨rfl, rfl⟩ | rfl
  · simp [go_sem, h1, h1', h2, h2']
    refine OpW.fn false (two_c e.length (by omega) (by omega)) rfl rfl (by simp [go_sem]) (fun h => by cases h) ?_
    rintro r rfl
    simp [go_sem]
    refine ⟨by simp [two]; omega, ⟨by rintro u (⟨a, _, rfl⟩ | ⟨a, _, rfl⟩) <;> simp, by simp [two]; omega⟩, ?_⟩
    refine OpW.fn true (Check_c (two e.length ++ e) hw (by simp [two]; omega)) rfl rfl (by simp [go_sem]) (by rintro _ r rfl; simp [go_sem]) ?_
    rintro r rfl
    simp [go_sem]
    refine OpW.fn false (two_c _ hk.1 hk.2) rfl rfl (by simp [go_sem]) (fun h => by cases h) ?_
    rintro r rfl
    simp [go_sem, enc]
    simp [two]; omega
  · simp [go_sem, h1, h1', h2, h2']
    refine OpW.fn false (two_c e.length (by omega) (by omega)) rfl rfl (by simp [go_sem]) (fun h => by cases h) ?_
    rintro r rfl
    simp [go_sem]
    refine ⟨by simp [two]; omega, ⟨by rintro u (⟨a, _, rfl⟩ | ⟨a, _, rfl⟩) <;> simp, by simp [two]; omega⟩, ?_⟩
    refine OpW.fn true (Check_c (two e.length ++ e) hw (by simp [two]; omega)) rfl rfl (by simp [go_sem]) (by rintro _ r rfl; simp [go_sem]) ?_
    rintro r rfl
    simp [go_sem]
    refine OpW.fn false (two_c _ hk.1 hk.2) rfl rfl (by simp [go_sem]) (fun h => by cases h) ?_
    rintro r rfl
    simp [go_sem, enc]
    simp [two]; omega

theorem Add_c (b e : List Int) (hB : Bs b) (hE : Bs e) (hb : b.length ≤ 35184372088832) (he : e.length ≤ 35184372088832) : ACalls Try.prog 9 [bytesV b, bytesV e] (· = .many [.sv (bytesV (addL b e).1), .sv (iv (addL b e).2)]) := by
  by_cases hok : ¬ e.length < 1 ∧ ¬ 4096 < e.length
  · refine (Add_o b e hB hE hb hok.1 hok.2).shr.mono ?_
    rintro r ⟨r', rfl, rfl⟩
    unfold addL
    rw [if_neg (by omega)]
    rfl
  refine ACalls.of_bodyS (fun _ _ => Try.call9 _ _) Try.func9 rfl Try.ntmps9 (by simp) ?_
  refine Tr.ex ?_
  simp [go_sem]
  refine OpW.fn false (Clone_b b (by omega)) rfl rfl (by simp [go_sem]) (fun h => by cases h) ?_
  intro r hr
  unfold addL
  by_cases h1 : e.length < 1
  · have h1' : (e.length : Int) < 1 := by omega
    rcases hr with ⟨rfl, rfl⟩ | rfl <;> simp [go_sem, h1, h1']
  by_cases h2 : 4096 < e.length
  · have h1' : ¬ (e.length : Int) < 1 := by omega
    have h2' : (4096 : Int) < e.length := by omega
    rcases hr with ⟨rfl, rfl⟩ | rfl <;> simp [go_sem, h1, h1', h2, h2']
  exact absurd ⟨h1, h2⟩ hok
/-- Lists of bytes. -/
def logs (es : List (List Int)) : SV := .lst (es.map bytesV)
attribute [go_sem] logs
theorem nok_next {l : List Int} (h : nok l) : nextL l = ((l.take (nlen l + 2).toNat).drop 2, nlen l + 4) := if_pos h
theorem not_next {l : List Int} (h : ¬ nok l) : nextL l = ([], 0) := if_neg h
theorem Read_c (l : List Int) (hB : Bs l) (hl : l.length ≤ 100000) {es : List (List Int)} {n : Nat} (hR : LogP.Rd l es n) : ACalls Try.prog 10 [bytesV l] (· = .many [.sv (logs es), .sv (iv n)]) := by
  refine ACalls.of_bodyS (fun _ _ => Try.call10 _ _) Try.func10 rfl Try.ntmps10 (by simp) ?_
  refine Tr.ex ?_
  simp [go_sem]
  refine LoopW.ent (Ent.thaw 4 4 1 (by simp [go_sem]) (by simp [go_sem]) (by decide) (Ent.refl _)) ?_
  refine LoopW.of (fun p : List (List Int) × Nat => ⟨26, [(0, .sv (bytesV l)), (2, .nil), (3, .sv (iv 0)), (4, .own 4), (5, .sv (iv p.2))], [(4, .row 1 (p.1.map bytesV))]⟩)
    (fun p => p.2 ≤ l.length ∧ p.1.length ≤ p.2 ∧ ∃ es' n', es = p.1 ++ es' ∧ n = p.2 + n' ∧ LogP.Rd (l.drop p.2) es' n') (fun p => l.length - p.2) ([], 0) ⟨by simp, by simp, es, n, by simp, by simp, by simpa using hR⟩ (Ent.chk (by simp [go_sem])) ?_
  rintro ⟨out, at_⟩ ⟨hi, ho, es', n', rfl, rfl, hr⟩
  simp only at hi ho hr hR ⊢
  have hi' : (at_ : Int) ≤ l.length := by omega
  have htl : (l.map b8).take l.length = l.map b8 := List.take_of_length_le (by simp)
  simp [go_sem, hi', hi, htl]
  refine OpW.fn false (next_c (l.drop at_) (hB.drop _) (by simp; omega)) rfl rfl (by simp [go_sem]) (fun h => by cases h) ?_
  rintro r rfl
  cases hr with
  | stop hn =>
    rw [not_next hn]
    simp [go_sem]
  | @more _ es2 n2 hk ht =>
    rw [nok_next hk]
    have h1 := hk.2.1
    have h4 := hk.2.2.2.1
    rw [List.length_drop] at h4
    have htr : LogP.Rd (l.drop (at_ + (nlen (l.drop at_) + 4).toNat)) es2 n2 := by rw [← List.drop_drop]; exact ht
    generalize nlen (l.drop at_) = k at *
    generalize ((l.drop at_).take (k + 2).toNat).drop 2 = x at *
    obtain ⟨m, rfl⟩ : ∃ m : Nat, k = m := ⟨k.toNat, by omega⟩
    have hne : ((m : Int) + 4 == 0) = false := by simp; omega
    have hm : ((m : Int) + 4).toNat = m + 4 := by omega
    rw [hm] at htr
    have hw : IntKind.i64.wrap ((at_ : Int) + ((m : Int) + 4)) = ((at_ + (m + 4) : Nat) : Int) := by rw [i64w] <;> omega
    simp [go_sem, hne, hw, hm, -Int.natCast_add]
    refine ⟨by omega, out ++ [x], at_ + (m + 4), ⟨by omega, by simp; omega, es2, by simp, n2, by omega, htr⟩, by omega, ?_⟩
    refine Ent.rename2 22 4 (by simp [go_sem]) (Ent.chk (by simp [go_sem]))
theorem Good_c (l : List Int) (hB : Bs l) (hl : l.length ≤ 100000) {es : List (List Int)} {n : Nat} (hR : LogP.Rd l es n) : ACalls Try.prog 14 [bytesV l] (· = .one (.sv (bytesV (l.take n)))) := by
  refine ACalls.of_bodyS (fun _ _ => Try.call14 _ _) Try.func14 rfl Try.ntmps14 (by simp) ?_
  refine Tr.ex ?_
  simp [go_sem]
  refine OpW.fn false (Read_c l hB hl hR) rfl rfl (by simp [go_sem]) (fun h => by cases h) ?_
  rintro r rfl
  have hle := hR.le.1
  have h1 : (n : Int) ≤ l.length := by omega
  simp [go_sem, hle, h1]
  refine OpW.fn false (Clone_s (l.take n) (by simp; omega)) rfl rfl (by simp [go_sem]) (fun h => by cases h) ?_
  rintro r rfl
  simp [go_sem]

theorem refAdd_c (b e : List Int) (hB : Bs b) (hE : Bs e) (hb : b.length ≤ 35184372088832) (he : e.length ≤ 35184372088832) : ACalls Try.prog 13 [bytesV b, bytesV e] (· = .many [.sv (bytesV (addL b e).1), .sv (iv (addL b e).2)]) := by
  refine ACalls.of_bodyS (fun _ _ => Try.call13 _ _) Try.func13 rfl Try.ntmps13 (by simp) ?_
  refine Tr.ex ?_
  have hw : Bs (two e.length ++ e) := (two_bs _).append hE
  have hk := ck_rng (two e.length ++ e)
  unfold addL
  by_cases h1 : e.length = 0
  · have h1' : e.length < 1 := by omega
    simp [go_sem, h1, h1']
  have h1' : ¬ e.length < 1 := by omega
  have h1i : ((e.length : Int) == 0) = false := by simpa using h1
  by_cases h2 : 4096 < e.length
  · have h2' : (4096 : Int) < e.length := by omega
    simp [go_sem, h1, h1i, h1', h2, h2']
  have h2' : ¬ (4096 : Int) < e.length := by omega
  have q1 : (e.length : Int).tdiv 256 = e.length / 256 := Int.tdiv_eq_ediv_of_nonneg (by omega)
  have q2 : (e.length : Int).tmod 256 = e.length % 256 := Int.tmod_eq_emod_of_nonneg (by omega)
  have q3 : IntKind.i64.wrap ((e.length : Int) / 256) = e.length / 256 := by
    have : 0 ≤ (e.length : Int) / 256 ∧ (e.length : Int) / 256 ≤ e.length := by omega
    rw [i64w] <;> omega
  have q5 : IntKind.u8.wrap ((e.length : Int) / 256) = e.length / 256 % 256 := by simp [IntKind.wrap, IntKind.bits, IntKind.signed]
  have q6 : IntKind.u8.wrap ((e.length : Int) % 256) = e.length % 256 := by rw [u8w] <;> omega
  have two_eq : [b8 ((e.length : Int) / 256 % 256), b8 ((e.length : Int) % 256)] = (two e.length).map b8 := rfl
  simp [go_sem, h1, h1i, h1', h2, h2', q1, q2, q3, q5, q6]
  refine ⟨by omega, ?_⟩
  refine OpW.fn true (refCheck_c (two e.length ++ e) hw (by simp [two]; omega)) rfl rfl (by simp [go_sem, two]) (by rintro _ r rfl; simp [go_sem]) ?_
  rintro r rfl
  have henc : enc e = two e.length ++ e ++ two (ck (two e.length ++ e)) := rfl
  rw [henc]
  generalize ck (two e.length ++ e) = c at *
  have r1 : c.tdiv 256 = c / 256 := Int.tdiv_eq_ediv_of_nonneg (by omega)
  have r2 : c.tmod 256 = c % 256 := Int.tmod_eq_emod_of_nonneg (by omega)
  have r3 : IntKind.i64.wrap (c / 256) = c / 256 := by rw [i64w] <;> omega
  have r5 : IntKind.u8.wrap (c / 256) = c / 256 % 256 := by simp [IntKind.wrap, IntKind.bits, IntKind.signed]
  have r6 : IntKind.u8.wrap (c % 256) = c % 256 := by rw [u8w] <;> omega
  simp [go_sem, r1, r2, r3, r5, r6, two]
  omega

theorem take_drop_at (l : List Int) (a j k : Nat) : ((l.drop a).take k).drop j = (l.take (a + k)).drop (a + j) := by
  rw [List.take_drop, List.drop_drop]
/-- An entry stands there just if what it would be put as does. -/
theorem nok_iff {l : List Int} (hB : Bs l) : nok l ↔ 4 < l.length ∧ 1 ≤ nlen l ∧ nlen l ≤ 4096 ∧ nlen l + 4 ≤ l.length ∧ enc ((l.take (nlen l + 2).toNat).drop 2) = l.take (nlen l + 4).toNat := by
  by_cases h0 : 2 ≤ l.length
  case neg => exact ⟨fun h => absurd h.1 h0, fun h => by omega⟩
  obtain ⟨a, b, l', rfl⟩ : ∃ a b l', l = a :: b :: l' := by
    match l, h0 with
    | a :: b :: l', _ => exact ⟨a, b, l', rfl⟩
  have ha := hB a (by simp)
  have hb := hB b (by simp)
  have hnl : nlen (a :: b :: l') = a * 256 + b := rfl
  by_cases h3 : 1 ≤ nlen (a :: b :: l') ∧ nlen (a :: b :: l') ≤ 4096 ∧ nlen (a :: b :: l') + 4 ≤ ((a :: b :: l').length : Nat)
  case neg => exact ⟨fun h => absurd ⟨h.2.1, h.2.2.1, h.2.2.2.1⟩ h3, fun h => absurd ⟨h.2.1, h.2.2.1, h.2.2.2.1⟩ h3⟩
  obtain ⟨h3, h4, h5⟩ := h3
  obtain ⟨k, hk⟩ : ∃ k : Nat, nlen (a :: b :: l') = k := ⟨(nlen (a :: b :: l')).toNat, by omega⟩
  unfold nok
  rw [hk] at h3 h4 h5 hnl ⊢
  have hkk : ((k : Int) + 2).toNat = k + 2 := by omega
  have hk4 : ((k : Int) + 4).toNat = k + 4 := by omega
  rw [hkk, hk4]
  have hlen : ((a :: b :: l').take (k + 2)).length = k + 2 := by rw [List.length_take]; omega
  have e1 : ((a :: b :: l').take (k + 2)).drop 2 = l'.take k := by simp
  have e2 : (a :: b :: l').take (k + 2) = a :: b :: l'.take k := by simp
  have e3 : (a :: b :: l').take (k + 4) = (a :: b :: l').take (k + 2) ++ ((a :: b :: l').take (k + 4)).drop (k + 2) := by
    have := (List.take_append_drop (k + 2) ((a :: b :: l').take (k + 4))).symm
    rw [List.take_take, Nat.min_eq_left (by omega)] at this
    exact this
  have e4 : two ((((a :: b :: l').take (k + 2)).drop 2).length : Int) ++ ((a :: b :: l').take (k + 2)).drop 2 = (a :: b :: l').take (k + 2) := by
    rw [e1, e2]
    have : (l'.take k).length = k := by rw [List.length_take]; simp at h5; omega
    rw [this]
    have q1 : (k : Int) / 256 % 256 = a := by omega
    have q2 : (k : Int) % 256 = b := by omega
    simp [two, q1, q2]
  unfold enc
  rw [e4]
  constructor
  · rintro ⟨_, _, _, _, h⟩
    refine ⟨by omega, h3, h4, h5, ?_⟩
    rw [h]; exact e3.symm
  · rintro ⟨_, _, _, _, h⟩
    refine ⟨h0, h3, h4, h5, ?_⟩
    rw [e3] at h
    exact List.append_cancel_left h
set_option maxHeartbeats 2000000 in
set_option maxRecDepth 100000 in
theorem refRead_c (l : List Int) (hB : Bs l) (hl : l.length ≤ 100000) {es : List (List Int)} {n : Nat} (hR : LogP.Rd l es n) : ACalls Try.prog 12 [bytesV l] (· = .many [.sv (logs es), .sv (iv n)]) := by
  refine ACalls.of_bodyS (fun _ _ => Try.call12 _ _) Try.func12 rfl Try.ntmps12 (by simp) ?_
  refine Tr.ex ?_
  simp [go_sem]
  refine LoopW.ent (Ent.thaw 4 4 1 (by simp [go_sem]) (by simp [go_sem]) (by decide) (Ent.refl _)) ?_
  refine LoopW.of (fun p : List (List Int) × Nat => ⟨86, [(0, .sv (bytesV l)), (2, .nil), (3, .sv (iv 0)), (4, .own 4), (5, .sv (iv p.2))], [(4, .row 1 (p.1.map bytesV))]⟩)
    (fun p => p.2 ≤ l.length ∧ p.1.length ≤ p.2 ∧ ∃ es' n', es = p.1 ++ es' ∧ n = p.2 + n' ∧ LogP.Rd (l.drop p.2) es' n') (fun p => l.length - p.2) ([], 0) ⟨by simp, by simp, es, n, by simp, by simp, by simpa using hR⟩ (Ent.chk (by simp [go_sem])) ?_
  rintro ⟨out, at_⟩ ⟨hi, ho, es', n', rfl, rfl, hr⟩
  simp only at hi ho hr hR ⊢
  have hw4 : IntKind.i64.wrap ((at_ : Int) + 4) = (at_ : Int) + 4 := by rw [i64w] <;> omega
  have hiff := nok_iff (hB.drop at_)
  by_cases h4 : (at_ : Int) + 4 < l.length
  case neg =>
    have hn : ¬ nok (l.drop at_) := fun h => by have := (hiff.1 h).1; rw [List.length_drop] at this; omega
    cases hr with
    | more h _ => exact absurd h hn
    | stop _ => simp [go_sem, hw4, h4]
  have h0 : at_ < l.length := by omega
  have h0i : (at_ : Int) < l.length := by omega
  have h1 : at_ + 1 < l.length := by omega
  have h1i : (at_ : Int) + 1 < l.length := by omega
  obtain ⟨a, hg0⟩ : ∃ a, l[at_]? = some a := ⟨_, List.getElem?_eq_getElem h0⟩
  obtain ⟨b, hg1⟩ : ∃ a, l[at_ + 1]? = some a := ⟨_, List.getElem?_eq_getElem h1⟩
  have ha := hB _ (List.mem_of_getElem? hg0)
  have hb := hB _ (List.mem_of_getElem? hg1)
  have hnl : nlen (l.drop at_) = a * 256 + b := by
    unfold nlen LogP.rd
    simp [List.getD_eq_getElem?_getD, hg0, hg1]
  have q1 : IntKind.i64.wrap a = a := by rw [i64w] <;> omega
  have q2 : IntKind.i64.wrap b = b := by rw [i64w] <;> omega
  have q3 : IntKind.i64.wrap (a * 256) = a * 256 := by rw [i64w] <;> omega
  have q4 : IntKind.i64.wrap (a * 256 + b) = a * 256 + b := by rw [i64w] <;> omega
  have q5 : IntKind.i64.wrap ((at_ : Int) + 1) = (at_ : Int) + 1 := by rw [i64w] <;> omega
  have q6 : ((at_ : Int) + 1).toNat = at_ + 1 := by omega
  obtain ⟨k, hk⟩ : ∃ k : Nat, a * 256 + b = k := ⟨(a * 256 + b).toNat, by omega⟩
  rw [hk] at q4 hnl
  have q4' : IntKind.i64.wrap (k : Int) = k := by rw [i64w] <;> omega
  have hlen : ((l.drop at_).length : Int) = l.length - at_ := by rw [List.length_drop]; omega
  have hstop : ¬ nok (l.drop at_) → es' = [] ∧ n' = 0 := fun hn => by
    cases hr with
    | more h _ => exact absurd h hn
    | stop _ => exact ⟨rfl, rfl⟩
  simp [go_sem, hw4, h4]
  refine DrawW.rd rfl ?_
  simp [go_sem, h0, h0i, h1, h1i, hg0, hg1, gE hg0, gE hg1, q1, q2, q3, q4, q5, q6]
  refine ⟨by omega, by kernel_rfl, ?_⟩
  rw [hk, q4']
  by_cases c1 : k = 0
  · obtain ⟨rfl, rfl⟩ := hstop (fun h => by have := h.2.1; omega)
    simp [go_sem, c1]
  have c1i : ((k : Int) == 0) = false := by simpa using c1
  by_cases c2 : (4096 : Int) < k
  · obtain ⟨rfl, rfl⟩ := hstop (fun h => by have := h.2.2.1; omega)
    simp [go_sem, c1i, c2]
  have w1 : IntKind.i64.wrap ((at_ : Int) + 4 + k) = ((at_ + (k + 4) : Nat) : Int) := by rw [i64w] <;> omega
  by_cases c3 : (l.length : Int) < ((at_ + (k + 4) : Nat) : Int)
  · obtain ⟨rfl, rfl⟩ := hstop (fun h => by have := h.2.2.2.1; omega)
    simp [go_sem, c1i, c2, hw4, w1, c3, -Int.natCast_add]
  have w2 : IntKind.i64.wrap ((at_ : Int) + 2) = ((at_ + 2 : Nat) : Int) := by rw [i64w] <;> omega
  have w3 : IntKind.i64.wrap (((at_ + 2 : Nat) : Int) + k) = ((at_ + (k + 2) : Nat) : Int) := by rw [i64w] <;> omega
  have w4 : IntKind.i64.wrap ((at_ : Int) + 4) = ((at_ + 4 : Nat) : Int) := by rw [i64w] <;> omega
  have w5 : IntKind.i64.wrap (((at_ + 4 : Nat) : Int) + k) = ((at_ + (k + 4) : Nat) : Int) := by rw [i64w] <;> omega
  have t1 : ((at_ + 2 : Nat) : Int) ≤ ((at_ + (k + 2) : Nat) : Int) := by omega
  have t2 : ((at_ + (k + 2) : Nat) : Int) ≤ l.length := by omega
  have t3 : (at_ : Int) ≤ ((at_ + (k + 4) : Nat) : Int) := by omega
  have t4 : ((at_ + (k + 4) : Nat) : Int) ≤ l.length := by omega
  obtain ⟨e, he⟩ : ∃ e, e = (l.take (at_ + (k + 2))).drop (at_ + 2) := ⟨_, rfl⟩
  have hem : ((l.map b8).take (at_ + (k + 2))).drop (at_ + 2) = e.map b8 := by rw [he]; simp
  obtain ⟨f, hf⟩ : ∃ f, f = (l.take (at_ + (k + 4))).drop at_ := ⟨_, rfl⟩
  have hfm : ((l.map b8).take (at_ + (k + 4))).drop at_ = f.map b8 := by rw [hf]; simp
  have hel : e.length = k := by rw [he, List.length_drop, List.length_take]; omega
  have heB : Bs e := by rw [he]; exact (hB.take _).drop _
  have hfB : Bs f := by rw [hf]; exact (hB.take _).drop _
  have hn4 : ((k : Int) + 4).toNat = k + 4 := by omega
  have hn2 : ((k : Int) + 2).toNat = k + 2 := by omega
  have he' : ((l.drop at_).take (k + 2)).drop 2 = e := by rw [take_drop_at, he]
  have hf' : (l.drop at_).take (k + 4) = f := by rw [hf, List.take_drop]
  rw [hnl, hn2, hn4, he', hf'] at hiff
  have hadd : addL [] e = (enc e, 0) := by unfold addL; rw [if_neg (by omega)]; rfl
  simp [go_sem, c1i, c2, w2, w3, w4, w5, c3, t1, t2, hem, -Int.natCast_add]
  refine OpW.fn false (refAdd_c [] e Bs.nil heB (by simp) (by omega)) rfl rfl (by simp [go_sem]) (fun h => by cases h) ?_
  rintro r rfl
  rw [hadd]
  simp [go_sem, -Int.natCast_add]
  refine DrawW.rd rfl ?_
  have hbq := ofB_beq (enc_bs heB) hfB
  by_cases hc : enc e = f
  · have hok : nok (l.drop at_) := hiff.2 ⟨by omega, by omega, by omega, by omega, hc⟩
    have hbt : ((ofB (enc e)).toList == (ofB f).toList) = true := by rw [hbq]; simp [hc]
    cases hr with
    | stop h => exact absurd hok h
    | @more _ es2 n2 _ ht =>
      rw [hnl, hn2, he'] at hR ⊢
      rw [hnl, hn4, List.drop_drop] at ht
      rw [hn4] at hR ⊢
      simp [go_sem, w2, w3, w4, w5, t1, t2, t3, t4, hem, hfm, hbt, -Int.natCast_add]
      refine ⟨by kernel_rfl, by omega, out ++ [e], at_ + (k + 4), ⟨by omega, by simp; omega, es2, by simp, n2, by omega, ht⟩, by omega, ?_⟩
      refine Ent.rename2 79 4 (by simp [go_sem]) (Ent.chk (by simp [go_sem, -Int.natCast_add]))
  · have hno : ¬ nok (l.drop at_) := fun h => hc (hiff.1 h).2.2.2.2
    obtain ⟨rfl, rfl⟩ := hstop hno
    have hbt : ((ofB (enc e)).toList == (ofB f).toList) = false := by rw [hbq]; simp [hc]
    simp [go_sem, w2, w3, w4, w5, t1, t2, t3, t4, hem, hfm, hbt, -Int.natCast_add]
    show _ = true
    kernel_rfl
theorem Same_c (a b : List (List Int)) (ha : ∀ e ∈ a, Bs e) (hb : ∀ e ∈ b, Bs e) (hl : a.length ≤ 140737488355328) (hl2 : b.length ≤ 140737488355328) : ACalls Try.prog 11 [logs a, logs b] (· = .one (.sv (bv (decide (a = b))))) := by
  refine ACalls.of_bodyS (fun _ _ => Try.call11 _ _) Try.func11 rfl Try.ntmps11 (by simp) ?_
  refine Tr.ex ?_
  by_cases hlen : a.length = b.length
  case neg =>
    have h1 : ((a.length : Int) == b.length) = false := beq_eq_false_iff_ne.2 (by omega)
    have h2 : a ≠ b := fun h => hlen (by rw [h])
    simp [go_sem, bne, h1, h2]
  simp [go_sem, hlen]
  refine LoopW.of (fun i : Nat => ⟨28, [(0, .sv (logs a)), (1, .sv (logs b)), (4, .sv (bv false)), (5, .sv (iv i))], []⟩)
    (fun i => i ≤ a.length ∧ a.take i = b.take i) (fun i => a.length - i) 0 (by simp) (Ent.chk (by simp [go_sem])) ?_
  rintro i ⟨hi, hp⟩
  by_cases hlt : i < a.length
  · have hlt' : (i : Int) < a.length := by omega
    have hlb : i < b.length := by omega
    have hlb' : (i : Int) < b.length := by omega
    have hx : a[i]? = some a[i] := List.getElem?_eq_getElem hlt
    have hy : b[i]? = some b[i] := List.getElem?_eq_getElem hlb
    have hw : IntKind.i64.wrap ((i : Int) + 1) = (i : Int) + 1 := by rw [i64w] <;> omega
    have hq := ofB_beq (ha _ (List.getElem_mem hlt)) (hb _ (List.getElem_mem hlb))
    by_cases hc : a[i] = b[i]
    · have hq' : ((ofB a[i]).toList == (ofB b[i]).toList) = true := by rw [hq]; simp [hc]
      simp [go_sem, hlt', hlb', hlen]
      refine DrawW.rd rfl ?_
      simp [go_sem, hlt, hlt', hlb, hlb', hx, hy, hq']
      refine ⟨by kernel_rfl, i + 1, ⟨by omega, ?_⟩, by omega, Ent.chk (by simp [go_sem, hw])⟩
      rw [List.take_succ_eq_append_getElem hlt, List.take_succ_eq_append_getElem hlb, hp, hc]
    · have hq' : ((ofB a[i]).toList == (ofB b[i]).toList) = false := by rw [hq]; simp [hc]
      have hne : a ≠ b := by rintro rfl; exact hc rfl
      simp [go_sem, hlt', hlb', hlen]
      refine DrawW.rd rfl ?_
      simp [go_sem, hlt, hlt', hlb, hlb', hx, hy, hq', hne]
      show _ = true
      kernel_rfl
  · have hil : i = a.length := by omega
    have he : a = b := by
      rw [hil, List.take_length, hlen, List.take_length] at hp
      exact hp
    subst he
    simp [go_sem, hil]
end Go.Proofs.Ytpnfmaphlfobpaa.Ab
