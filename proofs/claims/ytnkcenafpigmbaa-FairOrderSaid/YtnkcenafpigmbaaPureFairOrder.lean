/- The law FairOrder. -/
import Derived.Test.YtnkcenafpigmbaaFaK
namespace Go.Proofs.Ytnkcenafpigmbaa.Ab
open Go.RowKit Go.Proofs.Ytnkcenafpigmbaa.Fl
set_option linter.unusedVariables false
set_option linter.unusedSimpArgs false
theorem seen_hit {O : List Int} {x : Int} {k : Nat} (h : O[k]? = some x) : SeenAt O x (k + 1) (k : Int) := .inr ⟨k, rfl, by omega, h⟩
theorem seen_skip {O : List Int} {x y a : Int} {k : Nat} (h : SeenAt O x k a) (hy : O[k]? = some y) (hne : ¬ y = x) : SeenAt O x (k + 1) a := by
  rcases h with ⟨rfl, h⟩ | ⟨j, rfl, hj, hx⟩
  · refine .inl ⟨rfl, fun j hj hx => ?_⟩
    by_cases e : j = k
    · subst e
      rw [hy] at hx
      exact hne (Option.some.inj hx)
    · exact h j (by omega) hx
  · exact .inr ⟨j, rfl, by omega, hx⟩
theorem own_hit {p : Int → Bool} {O : List Int} {y last b : Int} {k : Nat} (h : OwnAt p O last k b) (hb : b < 0) (hy : O[k]? = some y) (hp : p y = true) (hl : last < k) : OwnAt p O last (k + 1) (k : Int) := by
  rcases h with ⟨rfl, h⟩ | ⟨j, z, rfl, _⟩
  · exact .inr ⟨k, y, rfl, by omega, hl, hy, hp, fun i x h1 h2 h3 => h i x h1 h2 h3⟩
  · omega
theorem own_skip {p : Int → Bool} {O : List Int} {y last b : Int} {k : Nat} (h : OwnAt p O last k b) (hy : O[k]? = some y) (hn : ¬ (p y = true ∧ last < k ∧ b < 0)) : OwnAt p O last (k + 1) b := by
  rcases h with ⟨rfl, h⟩ | ⟨j, z, rfl, hj, hr⟩
  · refine .inl ⟨rfl, fun j x h1 h2 h3 => ?_⟩
    by_cases e : j = k
    · subst e
      rw [hy] at h3
      rw [← Option.some.inj h3]
      cases hq : p y with
      | false => rfl
      | true => exact absurd ⟨hq, h1, by decide⟩ hn
    · exact h j x h1 (by omega) h3
  · exact .inr ⟨j, z, rfl, by omega, hr⟩
set_option maxHeartbeats 8000000 in
set_option maxRecDepth 100000 in
theorem law_FairOrder (y0 : List Job) (y1 : List Owned) (y2 : List Use) (G0 : y0.length * 128 ≤ 140737488351232 ∧ y0.length ≤ maxLen ∧ ∀ x ∈ y0, JobOk x) (G1 : y1.length * 16 ≤ 140737488351232 ∧ y1.length ≤ maxLen ∧ ∀ x ∈ y1, OwnedOk x) (G2 : y2.length * 24 ≤ 140737488351232 ∧ y2.length ≤ maxLen ∧ ∀ x ∈ y2, UseOk x) :
    ACalls Try.prog 8 [jobs y0, owneds y1, uses y2] (· = .one (.sv (bv true))) := by
  refine ACalls.of_bodyS (fun _ _ => Try.call8 _ _) Try.func8 rfl Try.ntmps8 (by simp) ?_
  refine Tr.ex ?_
  simp [go_sem]
  refine OpW.fn true awake26_c rfl rfl (by simp [go_sem]) (by rintro _ r rfl; simp [go_sem]) ?_
  rintro r rfl
  simp [go_sem]
  refine OpW.fn true (short26_c y0 y1 y2 (by omega)) rfl rfl (by simp [go_sem]) (by rintro _ r rfl; simp [go_sem]) ?_
  rintro r rfl
  cases hs : short26 y0 y1 y2 with
  | false => simp [go_sem]
  | true =>
    unfold short26 at hs
    simp only [Bool.and_eq_true, decide_eq_true_eq] at hs
    obtain ⟨⟨hs1, h1⟩, h2⟩ := hs
    obtain ⟨hl, _⟩ := shortJ_len hs1
    have hh := shortJ_jobs26 hs1 G0.2.2
    have hw : UsesW y2 := fun u hu => (G2.2.2 u hu).w
    have hrl := readyL_len26 y0
    have f1 := OrderAll_c y0 y1 y2 (by omega) hh (by omega) (by omega) hw
    have f2 := qReady_c y0 (by omega) hh
    have hown := @order_own y0 y1 y2
    have hper := order_perm y0 y1 y2
    have hnd : (orderF y0 y1 y2).Nodup := hper.nodup_iff.2 (readyL_nodup y0)
    have hlen := hper.length_eq
    generalize orderF y0 y1 y2 = O at *
    generalize readyL y0 = R at *
    have fW := fun id => Who_c y1 id (by omega)
    generalize whoO y1 = who at *
    have e0 : ((O.length : Int) != R.length) = false := by simp [hlen]
    simp [go_sem]
    refine OpW.fn false f1 rfl rfl (by simp [go_sem]) (fun h => by cases h) ?_
    rintro r rfl
    simp [go_sem]
    refine OpW.fn false f2 rfl rfl (by simp [go_sem]) (fun h => by cases h) ?_
    rintro r rfl
    simp [go_sem, e0, hlen]
    refine LoopW.of (fun z : Nat × Int => ⟨84, [(1, .sv (owneds y1)), (6, .sv (bv false)), (7, .sv (ints O)), (8, .sv (ints R)), (9, .sv (iv z.2)), (10, .sv (iv z.1))], []⟩)
      (fun z => z.1 ≤ R.length ∧ LastAt (fun id => decide (who id = 0)) O R z.1 z.2) (fun z => R.length - z.1) (0, -1) ⟨by simp, 0, by simp, by simp, by simp⟩ (Ent.chk (by simp [go_sem])) ?_
    rintro ⟨i, last⟩ ⟨hi, hla⟩
    simp only at hi hla ⊢
    by_cases hlt : i < R.length
    case neg =>
      have hil : i = R.length := by omega
      subst hil
      simp [go_sem]
    case pos =>
    have hlt' : (i : Int) < R.length := by omega
    have hwi : IntKind.i64.wrap ((i : Int) + 1) = (i : Int) + 1 := by rw [i64w] <;> omega
    obtain ⟨x, hx⟩ : ∃ x, R[i]? = some x := ⟨_, List.getElem?_eq_getElem hlt⟩
    have hxO : x ∈ O := hper.mem_iff.2 (List.mem_of_getElem? hx)
    simp [go_sem, hlt, hlt']
    refine LoopW.of (fun z : Nat × Int × Int => ⟨84, [(1, .sv (owneds y1)), (6, .sv (bv false)), (7, .sv (ints O)), (8, .sv (ints R)), (9, .sv (iv last)), (10, .sv (iv i)), (11, .sv (iv z.2.1)), (12, .sv (iv z.2.2)), (13, .sv (iv z.1)), (32, .sv (iv i)), (33, .sv (ints R)), (34, .sv (iv R.length)), (35, .sv (bv true))], []⟩)
      (fun z => z.1 ≤ O.length ∧ SeenAt O x z.1 z.2.1 ∧ OwnAt (fun id => decide (who id = 0)) O last z.1 z.2.2) (fun z => O.length - z.1) (0, -1, -1) ⟨by simp, .inl ⟨rfl, fun j h => by simp at h⟩, .inl ⟨rfl, fun j x h1 h2 => by simp at h2⟩⟩ (Ent.chk (by simp [go_sem])) ?_
    rintro ⟨k, a, b⟩ ⟨hk, hse, how⟩
    simp only at hk hse how ⊢
    by_cases hkt : k < O.length
    case neg =>
      have hkl : k = O.length := by omega
      subst hkl
      have ha0 : ¬ a < 0 := by
        rcases hse with ⟨_, h⟩ | ⟨j, rfl, _⟩
        · obtain ⟨j, hj⟩ := List.getElem?_of_mem hxO
          exact absurd hj (h j (List.getElem?_eq_some_iff.1 hj).1)
        · omega
      by_cases hp : who x = 0
      · obtain ⟨e1, e2⟩ := own_eq hown hnd hx (by simpa using hp) hla hse hxO how
        subst e1
        have ew : (who x == 0) = true := by simpa using hp
        have eb : (b != b) = false := by simp
        simp [go_sem, hlen, ha0, hlt, hlt', hx, gE hx]
        refine OpW.fn true (fW x) rfl rfl (by simp [go_sem]) (by rintro _ r rfl; simp [go_sem]) ?_
        rintro r rfl
        simp [go_sem, ew, eb]
        exact ⟨i + 1, b, ⟨by omega, e2⟩, by omega, Ent.chk (by simp [go_sem, hwi])⟩
      · have e2 := last_skip (p := fun id => decide (who id = 0)) hx (by simpa using hp) hla
        have ew : (who x == 0) = false := by simpa using hp
        simp [go_sem, hlen, ha0, hlt, hlt', hx, gE hx]
        refine OpW.fn true (fW x) rfl rfl (by simp [go_sem]) (by rintro _ r rfl; simp [go_sem]) ?_
        rintro r rfl
        simp [go_sem, ew]
        exact ⟨i + 1, last, ⟨by omega, e2⟩, by omega, Ent.chk (by simp [go_sem, hwi])⟩
    case pos =>
    have hkR : k < R.length := by omega
    have hkt' : (k : Int) < O.length := by omega
    have hkR' : (k : Int) < R.length := by omega
    have hwk : IntKind.i64.wrap ((k : Int) + 1) = (k : Int) + 1 := by rw [i64w] <;> omega
    obtain ⟨y, hy⟩ : ∃ y, O[k]? = some y := ⟨_, List.getElem?_eq_getElem hkt⟩
    have key : ∀ a' : Int, SeenAt O x (k + 1) a' → ∃ b' : Int, SeenAt O x (k + 1) a' ∧ OwnAt (fun id => decide (who id = 0)) O last (k + 1) b' ∧ b' = (if who y = 0 ∧ last < k ∧ b < 0 then (k : Int) else b) := fun a' h => by
      by_cases c : who y = 0 ∧ last < k ∧ b < 0
      · exact ⟨k, h, own_hit how c.2.2 hy (by simpa using c.1) c.2.1, by rw [if_pos c]⟩
      · exact ⟨b, h, own_skip how hy (fun ⟨c1, c2, c3⟩ => c ⟨by simpa using c1, c2, c3⟩), by rw [if_neg c]⟩
    by_cases hyx : y = x
    · obtain ⟨b', k1, k2, k3⟩ := key k (seen_hit (by rw [hy, hyx]))
      have ey : (y == x) = true := by simpa using hyx
      simp [go_sem, hkt, hkt', hkR, hkR', hlen]
      refine DrawW.rd rfl ?_
      simp [go_sem, hkt, hkt', hkR, hkR', hlt, hlt', hx, gE hx, hy, gE hy, ey]
      refine ⟨by kernel_rfl, ?_⟩
      refine OpW.fn true (fW y) rfl rfl (by simp [go_sem]) (by rintro _ r rfl; simp [go_sem]) ?_
      rintro r rfl
      by_cases c1 : who y = 0
      · have ew : (who y == 0) = true := by simpa using c1
        by_cases c2 : last < k
        · by_cases c3 : b < 0
          · rw [if_pos ⟨c1, c2, c3⟩] at k3
            subst k3
            simp [go_sem, ew, c2, c3]
            exact ⟨k + 1, k, k, ⟨by omega, k1, k2⟩, by omega, Ent.chk (by simp [go_sem, hwk])⟩
          · rw [if_neg (fun h => c3 h.2.2)] at k3
            subst k3
            simp [go_sem, ew, c2, c3]
            exact ⟨k + 1, k, b', ⟨by omega, k1, k2⟩, by omega, Ent.chk (by simp [go_sem, hwk])⟩
        · rw [if_neg (fun h => c2 h.2.1)] at k3
          subst k3
          simp [go_sem, ew, c2]
          exact ⟨k + 1, k, b', ⟨by omega, k1, k2⟩, by omega, Ent.chk (by simp [go_sem, hwk])⟩
      · have ew : (who y == 0) = false := by simpa using c1
        rw [if_neg (fun h => c1 h.1)] at k3
        subst k3
        simp [go_sem, ew]
        exact ⟨k + 1, k, b', ⟨by omega, k1, k2⟩, by omega, Ent.chk (by simp [go_sem, hwk])⟩
    · obtain ⟨b', k1, k2, k3⟩ := key a (seen_skip hse hy hyx)
      have ey : (y == x) = false := by simpa using hyx
      simp [go_sem, hkt, hkt', hkR, hkR', hlen]
      refine DrawW.rd rfl ?_
      simp [go_sem, hkt, hkt', hkR, hkR', hlt, hlt', hx, gE hx, hy, gE hy, ey]
      refine ⟨by kernel_rfl, ?_⟩
      refine OpW.fn true (fW y) rfl rfl (by simp [go_sem]) (by rintro _ r rfl; simp [go_sem]) ?_
      rintro r rfl
      by_cases c1 : who y = 0
      · have ew : (who y == 0) = true := by simpa using c1
        by_cases c2 : last < k
        · by_cases c3 : b < 0
          · rw [if_pos ⟨c1, c2, c3⟩] at k3
            subst k3
            simp [go_sem, ew, c2, c3]
            exact ⟨k + 1, a, k, ⟨by omega, k1, k2⟩, by omega, Ent.chk (by simp [go_sem, hwk])⟩
          · rw [if_neg (fun h => c3 h.2.2)] at k3
            subst k3
            simp [go_sem, ew, c2, c3]
            exact ⟨k + 1, a, b', ⟨by omega, k1, k2⟩, by omega, Ent.chk (by simp [go_sem, hwk])⟩
        · rw [if_neg (fun h => c2 h.2.1)] at k3
          subst k3
          simp [go_sem, ew, c2]
          exact ⟨k + 1, a, b', ⟨by omega, k1, k2⟩, by omega, Ent.chk (by simp [go_sem, hwk])⟩
      · have ew : (who y == 0) = false := by simpa using c1
        rw [if_neg (fun h => c1 h.1)] at k3
        subst k3
        simp [go_sem, ew]
        exact ⟨k + 1, a, b', ⟨by omega, k1, k2⟩, by omega, Ent.chk (by simp [go_sem, hwk])⟩
end Go.Proofs.Ytnkcenafpigmbaa.Ab
