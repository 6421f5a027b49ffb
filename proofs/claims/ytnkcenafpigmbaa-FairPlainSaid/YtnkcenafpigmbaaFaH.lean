/- fair: the order, plainly; the reference's Order. -/
import Derived.Test.YtnkcenafpigmbaaFaE
import Derived.Test.YtnkcenafpigmbaaQu6
namespace Go.Proofs.Ytnkcenafpigmbaa.Ab
open Go.RowKit Go.Proofs.Ytnkcenafpigmbaa.Fl
set_option linter.unusedVariables false
set_option linter.unusedSimpArgs false

theorem q_prio {l : List Job} (hq : isQ l = true) {i : Nat} {j : Job} (hj : l[i]? = some j) : -1000 ≤ j.spec.prio ∧ j.spec.prio ≤ 1000 := by
  have h1 := (q_row hq hj).1
  unfold isJob isSpec inR at h1
  simp only [Bool.and_eq_true, decide_eq_true_eq] at h1
  omega
def rkJ (ow : List Owned) (us : List Use) (j : Job) : Int := j.spec.prio + (bonusN us (whoO ow j.id) : Int)
instance (rank : Job → Int) (a b : Job) : Decidable (aheadJ rank a b) := by unfold aheadJ; infer_instance
/-- Those that are ready, by a rank. -/
def byRank (rank : Job → Int) (l : List Job) : List Job := srt (fun a b => decide (aheadJ rank a b)) (l.filter (readyB l))
theorem byRank_perm (rank : Job → Int) (l : List Job) : (byRank rank l).Perm (l.filter (readyB l)) := srt_perm _ _
theorem byRank_sorted (rank : Job → Int) {l : List Job} (hs : sortedJ l) : (byRank rank l).Pairwise (aheadJ rank) := by
  unfold byRank
  refine srt_sorted ?_ (fun a b c => aheadJ_trans)
  refine (hs.sublist List.filter_sublist).imp fun {a b} h => ?_
  constructor
  · intro h2; exact of_decide_eq_true h2
  · intro h2
    have h2 := of_decide_eq_false h2
    unfold aheadJ at *
    omega
theorem byRank_uniq {rank : Job → Int} {l g : List Job} (hs : sortedJ l) (hp : g.Perm (l.filter (readyB l))) (hg : g.Pairwise (aheadJ rank)) : g = byRank rank l :=
  sorted_unique aheadJ_irr aheadJ_asym (hp.trans (byRank_perm rank l).symm) hg (byRank_sorted rank hs)
def orderF (l : List Job) (ow : List Owned) (us : List Use) : List Int := if isQ l = true then (byRank (rkJ ow us) l).map (·.id) else []
set_option maxHeartbeats 8000000 in
set_option maxRecDepth 100000 in
theorem r26Order_c (l : List Job) (ow : List Owned) (us : List Use) (hl : l.length ≤ 1000000000) (hh : Jobs l) (ho : ow.length ≤ 1000000) (hu : us.length ≤ 1000000) (hw : UsesW us) : ACalls Try.prog 32 [jobs l, owneds ow, uses us] (· = .one (.sv (ints (orderF l ow us)))) := by
  refine ACalls.of_bodyS (fun _ _ => Try.call32 _ _) Try.func32 rfl Try.ntmps32 (by simp) ?_
  refine Tr.ex ?_
  unfold orderF
  simp [go_sem]
  refine OpW.fn true (r12Right_c l (by omega) hh) rfl rfl (by simp [go_sem]) (by rintro _ r rfl; simp [go_sem]) ?_
  rintro r rfl
  cases hq : isQ l with
  | false => simp [go_sem]
  | true =>
    have hle := q_len hq
    have hso := q_sorted hq
    have hR := byRank_sorted (rkJ ow us) hso
    have hP := byRank_perm (rkJ ow us) l
    have hRl : (byRank (rkJ ow us) l).length ≤ l.length := by rw [hP.length_eq]; exact List.length_filter_le _ _
    have hn0 : (0 : Int) ≤ l.length := by omega
    have ht0 : (toldJ l (byRank (rkJ ow us) l) 0).map bv = List.replicate l.length (SV.val (Value.bool false)) := by unfold toldJ; simp [List.map_const', bv]
    generalize byRank (rkJ ow us) l = R at *
    simp [go_sem, hn0]
    refine ⟨by omega, ?_⟩
    refine LoopW.of (fun m : Nat => ⟨77, [(0, .sv (jobs l)), (1, .sv (owneds ow)), (2, .sv (uses us)), (6, .nil), (7, .own 7), (8, .own 18)], [(7, .row 1 (((R.take m).map (·.id)).map iv)), (18, .row 1 ((toldJ l R m).map bv))]⟩)
      (fun m => m ≤ R.length) (fun m => R.length - m) 0 (by omega) (Ent.thaw 7 7 1 (by simp [go_sem]) (by simp [go_sem]) (by decide) (Ent.chk (by simp [go_sem, ht0]))) ?_
    intro m hm
    simp [go_sem]
    refine LoopW.of (fun z : Nat × Int × Int => ⟨77, [(0, .sv (jobs l)), (1, .sv (owneds ow)), (2, .sv (uses us)), (6, .nil), (7, .own 7), (8, .own 18), (9, .sv (iv z.2.1)), (10, .sv (iv z.2.2)), (11, .sv (iv z.1))], [(7, .row 1 (((R.take m).map (·.id)).map iv)), (18, .row 1 ((toldJ l R m).map bv))]⟩)
      (fun z => z.1 ≤ l.length ∧ bestJ l R (rkJ ow us) (readyB l) m z.1 z.2.1 ∧ ∀ x, 0 ≤ z.2.1 → l[z.2.1.toNat]? = some x → z.2.2 = rkJ ow us x) (fun z => l.length - z.1) (0, -1, 0) ⟨by simp, bestJ_zero m, fun x h => absurd h (by decide)⟩ (Ent.chk (by simp [go_sem])) ?_
    rintro ⟨i, b, top⟩ ⟨hi, hb, htop⟩
    simp only at hi hb htop ⊢
    have htl := toldJ_len (l := l) (R := R) m
    by_cases hlt : i < l.length
    · have hlt' : (i : Int) < l.length := by omega
      have hw1 : IntKind.i64.wrap ((i : Int) + 1) = (i : Int) + 1 := by rw [i64w] <;> omega
      obtain ⟨j, hx⟩ : ∃ h, l[i]? = some h := ⟨_, List.getElem?_eq_getElem hlt⟩
      have htd : (toldJ l R m)[i]? = some (decide (j.id ∈ (R.take m).map (·.id))) := by unfold toldJ; rw [List.getElem?_map, hx]; rfl
      have hleft : leftJ l R (readyB l) m i ↔ readyB l j = true ∧ j.id ∉ (R.take m).map (·.id) := ⟨fun ⟨y, h1, h2⟩ => by rw [hx] at h1; cases h1; exact h2, fun h => ⟨j, hx, h⟩⟩
      have hskip := bestJ_skip hb
      have htake := bestJ_take hso hb hx
      have hkeep := bestJ_keep hso hb hx
      have hget := bestJ_get hb
      have hpr := q_prio hq hx
      have hbl := bonusN_le us (whoO ow j.id)
      have fW := rWho_c ow j.id (by omega)
      have fB := rBonus_c us (whoO ow j.id) (by omega) hw
      have hrk : rkJ ow us j = j.spec.prio + (bonusN us (whoO ow j.id) : Int) := rfl
      have hwb : IntKind.i64.wrap (j.spec.prio + (bonusN us (whoO ow j.id) : Int)) = rkJ ow us j := by rw [hrk, i64w] <;> omega
      generalize hT : toldJ l R m = T at *
      generalize hO : (R.take m).map (·.id) = O at *
      have hlt2 : i < T.length := by omega
      have hlt2' : (i : Int) < T.length := by omega
      by_cases c1 : j.id ∈ O
      · have hn := hskip (fun h => (hleft.1 h).2 c1)
        have hd : decide (j.id ∈ O) = true := by simpa using c1
        rw [hd] at htd
        simp [go_sem, hlt, hlt', hlt2, hlt2', htd, gE htd]
        exact ⟨i + 1, b, top, ⟨by omega, hn, htop⟩, by omega, Ent.chk (by simp [go_sem, hw1, hT, hO])⟩
      have hd : decide (j.id ∈ O) = false := by simpa using c1
      rw [hd] at htd
      simp [go_sem, hlt, hlt', hlt2, hlt2', htd, gE htd, hx, gE hx]
      refine OpW.fn true (isReady_c l (by omega) hq i j hx) rfl rfl (by simp [go_sem]) (by rintro _ r rfl; simp [go_sem]) ?_
      rintro r rfl
      cases hr : readyB l j with
      | false =>
        have hn := hskip (fun h => by have := (hleft.1 h).1; rw [hr] at this; cases this)
        simp [go_sem]
        exact ⟨i + 1, b, top, ⟨by omega, hn, htop⟩, by omega, Ent.chk (by simp [go_sem, hw1, hT, hO])⟩
      | true =>
        have hlf := hleft.2 ⟨hr, c1⟩
        generalize whoO ow j.id = who at *
        simp [go_sem]
        refine DrawW.rd rfl ?_
        simp [go_sem, hlt, hlt', hx, gE hx]
        refine OpD.call true fW rfl rfl (by simp [go_sem]) (by intro _; simp [go_sem]) (by simp [go_sem]) (by simp [go_sem]) ?_
        simp [go_sem]
        refine OpD.call true fB rfl rfl (by simp [go_sem]) (by intro _; simp [go_sem]) (by simp [go_sem]) (by simp [go_sem]) ?_
        simp [go_sem, hwb]
        refine ⟨by kernel_rfl, ?_⟩
        by_cases c2 : b < 0
        · have hn := htake hlf (.inl c2)
          simp [go_sem, c2]
          exact ⟨i + 1, i, rkJ ow us j, ⟨by omega, hn, fun x _ hx2 => by rw [Int.toNat_natCast, hx] at hx2; cases hx2; rfl⟩, by omega, Ent.chk (by simp [go_sem, hw1, hT, hO])⟩
        · obtain ⟨k, x, rfl, hk, hxk⟩ := hget c2
          have ht2 := htop x (by omega) (by simpa using hxk)
          subst ht2
          by_cases c3 : rkJ ow us x < rkJ ow us j
          · have hn := htake hlf (.inr ⟨x, by simpa using hxk, c3⟩)
            simp [go_sem, c2, c3]
            exact ⟨i + 1, i, rkJ ow us j, ⟨by omega, hn, fun x _ hx2 => by rw [Int.toNat_natCast, hx] at hx2; cases hx2; rfl⟩, by omega, Ent.chk (by simp [go_sem, hw1, hT, hO])⟩
          · have hn := hkeep c2 (fun y hy => by
              rw [Int.toNat_natCast, hxk] at hy
              cases hy
              exact c3)
            simp [go_sem, c2, c3]
            exact ⟨i + 1, k, rkJ ow us x, ⟨by omega, hn, fun y _ hy => by rw [Int.toNat_natCast, hxk] at hy; cases hy; rfl⟩, by omega, Ent.chk (by simp [go_sem, hw1, hT, hO])⟩
    · have hil : i = l.length := by omega
      subst hil
      by_cases c : b < 0
      · have hm2 := bestJ_none hso hP hR hb c
        have e : R.take m = R := List.take_of_length_le hm2
        rw [e]
        simp [go_sem, c]
      · obtain ⟨k, x, rfl, hk, hxk⟩ := bestJ_get hb c
        have hRm := bestJ_next hso hP hR hb hxk
        have hmlt := (List.getElem?_eq_some_iff.1 hRm).1
        have hset := toldJ_set hso hxk hRm
        have hset2 := congrArg (List.map bv) hset
        rw [List.map_set] at hset2
        simp only [bv] at hset2
        have htk : ((R.take (m + 1)).map (·.id)).map iv = ((R.take m).map (·.id)).map iv ++ [SV.val (Value.int .i64 x.id)] := by rw [List.take_succ_eq_append_getElem hmlt, gE hRm]; simp [iv]
        generalize hT : toldJ l R m = T at *
        generalize hT' : toldJ l R (m + 1) = T' at *
        generalize hO : (R.take m).map (·.id) = O at *
        generalize hO' : (R.take (m + 1)).map (·.id) = O' at *
        have hkT : k < T.length := by omega
        have hkT' : (k : Int) < T.length := by omega
        have hkl' : (k : Int) < l.length := by omega
        have hOl : O.length ≤ m := by rw [← hO, List.length_map, List.length_take]; omega
        have hO2 : List.take (m + 1) (List.map (iv ∘ fun x => x.id) R) = O'.map iv := by rw [← hO', List.map_map, List.map_take]
        simp [go_sem, c, hk, hkl', hkT, hkT', hxk, gE hxk]
        exact ⟨by omega, m + 1, by omega, by omega, Ent.rename2 76 7 (by simp [go_sem]) (Ent.chk (by simp [go_sem, hT', hO', hO2, hset2, htk]))⟩
/-! ### What fair tells is that order -/
theorem cmpR_lt {a b : Rk} : cmpR a b < 0 ↔ b.rank < a.rank ∨ (a.rank = b.rank ∧ a.id < b.id) := by
  unfold cmpR or2 c3I
  rcases Int.lt_trichotomy b.rank a.rank with h | h | h
  · rw [if_pos h, if_neg (show ¬ (-1 : Int) = 0 by decide)]
    exact ⟨fun _ => .inl h, fun _ => by decide⟩
  · rw [h, if_neg (Int.lt_irrefl _), if_neg (Int.lt_irrefl _), if_pos rfl]
    by_cases h2 : a.id < b.id
    · rw [if_pos h2]; exact ⟨fun _ => .inr ⟨rfl, h2⟩, fun _ => by decide⟩
    · rw [if_neg h2]
      constructor
      · intro h3; split at h3 <;> omega
      · rintro (h3 | ⟨_, h3⟩)
        · omega
        · exact absurd h3 h2
  · rw [if_neg (show ¬ b.rank < a.rank by omega), if_pos h, if_neg (show ¬ (1 : Int) = 0 by decide)]
    exact ⟨fun h2 => absurd h2 (by decide), fun h2 => by omega⟩
def aheadR (a b : Rk) : Prop := b.rank < a.rank ∨ (a.rank = b.rank ∧ a.id < b.id)
def rkOfJ (ow : List Owned) (us : List Use) (j : Job) : Rk := ⟨j.id, rkJ ow us j⟩
theorem getJ_mem {l : List Job} (hq : isQ l = true) {j : Job} (hj : j ∈ l) : getJ l j.id = (j, true) := by
  have hs := q_sorted hq
  have ha : isAtJ l j.id = true := by unfold isAtJ; rw [List.any_eq_true]; exact ⟨j, hj, by simp⟩
  obtain ⟨h, hh, he⟩ := (isAtJ_low hs).1 ha
  obtain ⟨i, hi⟩ := List.getElem?_of_mem hj
  have hij : lowJ l j.id = i := by
    obtain ⟨q1, e1⟩ := List.getElem?_eq_some_iff.1 hh
    obtain ⟨q2, e2⟩ := List.getElem?_eq_some_iff.1 hi
    rcases Nat.lt_trichotomy (lowJ l j.id) i with g | g | g
    · have := List.pairwise_iff_getElem.1 hs _ _ q1 q2 g
      rw [e1, e2] at this; omega
    · exact g
    · have := List.pairwise_iff_getElem.1 hs _ _ q2 q1 g
      rw [e1, e2] at this; omega
  unfold getJ
  rw [if_pos ⟨hq, ha⟩, hij]
  unfold jb
  rw [List.getD_eq_getElem?_getD, hi]
  rfl
/-- A list of ranks that is in order tells the order. -/
theorem order_uniq {l : List Job} {ow : List Owned} {us : List Use} {g : List Rk} (hp : g.Perm (rankL l ow us)) (hg : g.Pairwise fun a b => ¬ cmpR b a < 0) : g.map (·.id) = orderF l ow us := by
  unfold rankL readyL at hp
  unfold orderF
  cases hq : isQ l with
  | false =>
    rw [hq] at hp
    simp at hp
    rw [hp]; rfl
  | true =>
    rw [hq] at hp
    simp only [if_true] at hp ⊢
    have hs := q_sorted hq
    have hrk : ∀ j ∈ l, rkOf l ow us j.id = rkOfJ ow us j := fun j hj => by
      unfold rkOf rkOfJ rkJ
      rw [getJ_mem hq hj]
    have hmem : ∀ j ∈ l.filter (readyB l), j ∈ l := fun j hj => (List.mem_filter.1 hj).1
    have e1 : ((readyJ l).map (·.id)).map (rkOf l ow us) = (readyJ l).map (rkOfJ ow us) := by
      rw [List.map_map]
      refine List.map_congr_left fun j hj => ?_
      exact hrk j (hmem j ((readyJ_perm l).mem_iff.1 hj))
    rw [e1] at hp
    have hp2 : g.Perm ((l.filter (readyB l)).map (rkOfJ ow us)) := hp.trans ((readyJ_perm l).map _)
    have hp3 : ((byRank (rkJ ow us) l).map (rkOfJ ow us)).Perm ((l.filter (readyB l)).map (rkOfJ ow us)) := (byRank_perm _ l).map _
    have hfs : (l.filter (readyB l)).Pairwise fun a b => a.id < b.id := hs.sublist List.filter_sublist
    have hnd : (g.map (·.id)).Nodup := by
      have h1 : (g.map (·.id)).Perm ((l.filter (readyB l)).map (·.id)) := by
        have := hp2.map (fun r : Rk => r.id)
        rwa [List.map_map] at this
      rw [h1.nodup_iff, List.nodup_iff_pairwise_ne, List.pairwise_map]
      exact hfs.imp fun {a b} h => by omega
    have hg2 : g.Pairwise aheadR := by
      rw [List.nodup_iff_pairwise_ne, List.pairwise_map] at hnd
      refine (hg.and hnd).imp fun {a b} ⟨h1, h2⟩ => ?_
      rw [cmpR_lt] at h1
      unfold aheadR
      omega
    have hb2 : ((byRank (rkJ ow us) l).map (rkOfJ ow us)).Pairwise aheadR := by
      rw [List.pairwise_map]
      exact (byRank_sorted (rkJ ow us) hs).imp fun {a b} h => h
    have heq : g = (byRank (rkJ ow us) l).map (rkOfJ ow us) := sorted_unique (R := aheadR) (fun a h => by unfold aheadR at h; omega) (fun a b h h2 => by unfold aheadR at *; omega) (hp2.trans hp3.symm) hg2 hb2
    rw [heq, List.map_map]
    rfl
end Go.Proofs.Ytnkcenafpigmbaa.Ab
