/- ref09.Gets. -/
import Derived.Test.YtfcojlagmmgagaaDoorMaH
namespace Go.Proofs.YtfcojlagmmgagaaDoor.Ab
open Go.RowKit
set_option linter.unusedVariables false
set_option linter.unusedSimpArgs false

theorem here_bad {g : List Thing} {free : List Int} {s : Spec} {u : Nat} (h : nodeOk g free s u = false) : hereL g free s u = ([], false) := by unfold hereL; rw [h]; rfl
theorem here_false {g : List Thing} {free : List Int} {s : Spec} {u : Nat} (h : (hereL g free s u).2 = false) : hereL g free s u = ([], false) := by
  have := here_no h
  revert this h
  cases hereL g free s u with
  | mk a b => intro h1 h2; simp only at h1 h2; rw [h1, h2]
theorem here_true {g : List Thing} {free : List Int} {s : Spec} {u : Nat} {l : List Int} (h : (hereL g free s u).2 = true) (hl : (hereL g free s u).1 = l) : hereL g free s u = (l, true) := by
  revert h hl
  cases hereL g free s u with
  | mk a b => intro h1 h2; simp only at h1 h2; rw [h1, h2]
theorem ofKind_under {g : List Thing} (hg : isGraph g = true) (free : List Int) {u : Nat} (hu : u < g.length) (h2 : (th g u).kind = 2) {k : Int} (hk : k = 3 ∨ k = 4) : ofKind g free k (underL g u) = ofKind g free k (kidsL g u) := by
  rw [under_node hg hu h2]; unfold ofKind
  rw [List.filter_cons]
  have : ((th g ((u : Int)).toNat).kind == k) = false := by simp only [Int.toNat_natCast, h2]; rcases hk with rfl | rfl <;> rfl
  rw [this]; simp
def cntK (g : List Thing) (free : List Int) (k : Int) (l : List Int) : Nat := (ofKind g free k l).length
theorem cntK_snoc (g : List Thing) (free : List Int) (k : Int) (l : List Int) (n : Int) : cntK g free k (l ++ [n]) = if n ∈ free ∧ (th g n.toNat).kind = k then cntK g free k l + 1 else cntK g free k l := by
  unfold cntK; rw [ofKind_snoc]; split
  · simp
  · rfl
theorem cntK_le (g : List Thing) (free : List Int) (k : Int) (l : List Int) : cntK g free k l ≤ l.length := List.length_filter_le _ _
theorem here_all {g : List Thing} (hg : isGraph g = true) {free : List Int} {s : Spec} (hs : isSpec s = true) {u : Nat} (hu : u < g.length) (hn : nodeOk g free s u = true) (hw : s.whole = true) (ha : ∀ n ∈ underL g u, n ∈ free) :
    hereL g free s u = if (cntK g free 3 (underL g u) : Int) < s.cores ∨ (cntK g free 4 (underL g u) : Int) < s.gpus then ([], false) else (underL g u, true) := by
  have h2 := (nodeOk_iff.1 hn).1
  have hsn := spec_nn hs
  unfold cntK
  rw [ofKind_under hg free hu h2 (.inl rfl), ofKind_under hg free hu h2 (.inr rfl)]
  have hok := here_ok (g := g) (free := free) (u := u) hsn.1 hsn.2.1
  rw [under_node hg hu h2] at ha
  split
  · rename_i h
    refine here_false ?_
    rw [Bool.eq_false_iff]; intro hh; have := hok.1 hh; omega
  · rename_i h
    have hh := hok.2 ⟨hn, by omega, by omega, fun _ n hn => ha n (List.mem_cons_of_mem _ hn)⟩
    exact here_true hh (by rw [here_whole hh hw, under_node hg hu h2])
theorem here_miss {g : List Thing} (hg : isGraph g = true) {free : List Int} {s : Spec} (hs : isSpec s = true) {u : Nat} (hu : u < g.length) (hn : nodeOk g free s u = true) (hw : s.whole = true) {n : Int} (hm : n ∈ underL g u) (hf : n ∉ free) : hereL g free s u = ([], false) := by
  have h2 := (nodeOk_iff.1 hn)
  have hsn := spec_nn hs
  have hok := here_ok (g := g) (free := free) (u := u) hsn.1 hsn.2.1
  rw [under_node hg hu h2.1] at hm
  refine here_false ?_
  rw [Bool.eq_false_iff]; intro hh
  have := (hok.1 hh).2.2.2 hw
  rcases List.mem_cons.1 hm with rfl | hm
  · exact hf h2.2.1
  · exact hf (this n hm)
theorem here_some {g : List Thing} (hg : isGraph g = true) {free : List Int} {s : Spec} (hs : isSpec s = true) {u : Nat} (hu : u < g.length) (hn : nodeOk g free s u = true) (hw : s.whole = false) :
    hereL g free s u = if (cntK g free 3 (underL g u) : Int) < s.cores ∨ (cntK g free 4 (underL g u) : Int) < s.gpus then ([], false) else (joinL (coresL g free s u) (gpusL g free s u), true) := by
  have h2 := (nodeOk_iff.1 hn).1
  have hsn := spec_nn hs
  unfold cntK
  rw [ofKind_under hg free hu h2 (.inl rfl), ofKind_under hg free hu h2 (.inr rfl)]
  have hok := here_ok (g := g) (free := free) (u := u) hsn.1 hsn.2.1
  split
  · rename_i h
    refine here_false ?_
    rw [Bool.eq_false_iff]; intro hh; have := hok.1 hh; omega
  · rename_i h
    have hh := hok.2 ⟨hn, by omega, by omega, fun hw2 => by rw [hw] at hw2; cases hw2⟩
    exact here_true hh (here_part hh hw)
set_option maxHeartbeats 16000000 in
set_option maxRecDepth 100000 in
theorem Gets_c (g : List Thing) (free : List Int) (s : Spec) (u : Nat) (hg : isGraph g = true) (ht : Things g) (hf : isSet free = true) (hs : isSpec s = true) (hu : u < g.length) : ACalls Tryd.prog 62 [things g, ints free, specSV s, iv u] (· = .many [.sv (ints (hereL g free s u).1), .sv (bv (hereL g free s u).2)]) := by
  refine ACalls.of_bodyS (fun _ _ => Tryd.call62 _ _) Tryd.func62 rfl Tryd.ntmps62 (by simp) ?_
  refine Tr.ex ?_
  have hlen := isGraph_len hg
  have hfl := set_len hf
  have hu' : (u : Int) < g.length := by omega
  obtain ⟨x, hgx⟩ : ∃ x, g[u]? = some x := ⟨_, List.getElem?_eq_getElem hu⟩
  have hx := th_get hgx
  have hhas := fun n => r1Has_c free n (by omega)
  simp only [hasB_iff hf] at hhas
  have hbad := here_bad (g := g) (free := free) (s := s) (u := u)
  have hnok : nodeOk g free s u = (x.kind == 2 && decide ((u : Int) ∈ free) && (s.tag.toList == [] || x.tag.toList == s.tag.toList)) := by unfold nodeOk; rw [hx]
  simp [go_sem, hu, hu', hgx, gE hgx]
  refine DrawW.rd rfl ?_
  by_cases c1 : x.kind = 2
  case neg =>
    have e1 : (x.kind == 2) = false := by simpa using c1
    rw [hbad (by rw [hnok, e1]; rfl)]
    simp [go_sem, hu, hu', hgx, gE hgx, bne, e1]
    show _ = true
    kernel_rfl
  have e1 : (x.kind == 2) = true := by simpa using c1
  simp [go_sem, hu, hu', hgx, gE hgx, bne, e1]
  refine OpD.call true (hhas u) rfl rfl (by simp [go_sem]) (by intro _; simp [go_sem]) (by simp [go_sem]) (by simp [go_sem]) ?_
  have hcm : (s.tag.toList == x.tag.toList) = (x.tag.toList == s.tag.toList) := by rw [Bool.eq_iff_iff]; simp only [beq_iff_eq]; exact eq_comm
  by_cases c2 : (u : Int) ∈ free
  case neg =>
    rw [hbad (by rw [hnok]; simp [c2])]
    simp [go_sem, c2]
    show _ = true
    kernel_rfl
  have hun := rUnder_c g u (by omega) ht
  have hul := underL_len g u
  have hUm : ∀ n ∈ underL g u, 0 ≤ n ∧ n < g.length := fun n hn => ⟨(underL_mem.1 hn).2.1, (underL_mem.1 hn).2.2.1⟩
  have hsn := spec_nn hs
  have hkx : (th g u).kind = 2 := by rw [hx]; exact c1
  have hta := fun out => taken_all hg (free := free) (s := s) hu hkx (out := out)
  cases c3 : (s.tag.toList == [])
  case' true =>
    have hnode : nodeOk g free s u = true := by rw [hnok, c3]; simp [c1, c2]
    simp [go_sem, bne, c2, c3]
    refine ⟨by kernel_rfl, ?_⟩
  case' false =>
    cases c4 : (x.tag.toList == s.tag.toList)
    case' false =>
      rw [hbad (by rw [hnok, c3, c4]; simp)]
      simp [go_sem, bne, c2, c3, hcm, c4, hu, hu', hgx, gE hgx]
      refine (show _ = true from ?_)
      kernel_rfl
    case' true =>
      have hnode : nodeOk g free s u = true := by rw [hnok, c4]; simp [c1, c2]
      simp [go_sem, bne, c2, c3, hcm, c4, hu, hu', hgx, gE hgx]
      refine ⟨by kernel_rfl, ?_⟩
  all_goals
    refine OpW.fn false (hun) rfl rfl (by simp [go_sem]) (fun h => by cases h) ?_
    rintro r rfl
    simp [go_sem]
    cases hw : s.whole with
    | true =>
      have hall := fun ha => here_all hg hs hu hnode hw ha
      have hmiss := fun n (h1 : n ∈ underL g u) h2 => here_miss hg hs hu hnode hw h1 h2
      generalize underL g u = U at *
      refine LoopW.of (fun i : Nat => ⟨118, [(0, .sv (things g)), (1, .sv (ints free)), (6, .box 6 0), (8, .nil), (9, .sv (bv false)), (10, .sv (ints U)), (11, .nil), (12, .sv (iv (cntK g free 3 (U.take i)))), (13, .sv (iv (cntK g free 4 (U.take i)))), (14, .sv (iv i))],
          [(6, .box ((specCells s).map .sv))]⟩)
        (fun i => i ≤ U.length ∧ ∀ n ∈ U.take i, n ∈ free) (fun i => U.length - i) 0 ⟨by omega, by simp⟩ (Ent.chk (by simp [go_sem, cntK, ofKind, hw])) ?_
      rintro i ⟨hi, hp⟩
      by_cases hlt : i < U.length
      · have hlt' : (i : Int) < U.length := by omega
        obtain ⟨n, hn⟩ : ∃ x, U[i]? = some x := ⟨_, List.getElem?_eq_getElem hlt⟩
        have hw1 : IntKind.i64.wrap ((i : Int) + 1) = (i : Int) + 1 := by rw [i64w] <;> omega
        have hnm := List.mem_of_getElem? hn
        obtain ⟨hn0, hn1⟩ := hUm n hnm
        have hnn : n.toNat < g.length := by omega
        obtain ⟨y, hgy⟩ : ∃ y, g[n.toNat]? = some y := ⟨_, List.getElem?_eq_getElem hnn⟩
        have hy := th_get hgy
        have htk : U.take (i + 1) = U.take i ++ [n] := by rw [List.take_succ_eq_append_getElem hlt, gE hn]
        simp [go_sem, hlt, hlt', hn, gE hn]
        refine OpW.fn true (hhas n) rfl rfl (by simp [go_sem]) (by rintro _ r rfl; simp [go_sem]) ?_
        rintro r rfl
        by_cases f1 : n ∈ free
        · have k3 := cntK_snoc g free 3 (U.take i) n
          have k4 := cntK_snoc g free 4 (U.take i) n
          have b3 := cntK_le g free 3 (U.take i)
          have b4 := cntK_le g free 4 (U.take i)
          have bl : (U.take i).length ≤ 256 := by rw [List.length_take]; omega
          rw [← htk, hy] at k3 k4
          have hp1 : ∀ m ∈ U.take (i + 1), m ∈ free := by
            rw [htk]; intro m hm
            rcases List.mem_append.1 hm with h | h
            · exact hp m h
            · simp at h; subst h; exact f1
          have hw3 : IntKind.i64.wrap ((cntK g free 3 (U.take i) : Int) + 1) = (cntK g free 3 (U.take i) : Int) + 1 := by rw [i64w] <;> omega
          have hw4 : IntKind.i64.wrap ((cntK g free 4 (U.take i) : Int) + 1) = (cntK g free 4 (U.take i) : Int) + 1 := by rw [i64w] <;> omega
          by_cases d3 : y.kind = 3
          · rw [if_pos ⟨f1, d3⟩] at k3
            rw [if_neg (by omega)] at k4
            simp [go_sem, f1, hw, d3, hn0, hn1, hnn, hgy, gE hgy]
            exact ⟨i + 1, ⟨by omega, hp1⟩, by omega, Ent.chk (by simp [go_sem, hw, hw1, hw3, k3, k4])⟩
          · by_cases d4 : y.kind = 4
            · rw [if_pos ⟨f1, d4⟩] at k4
              rw [if_neg (by omega)] at k3
              simp [go_sem, f1, hw, d4, hn0, hn1, hnn, hgy, gE hgy]
              exact ⟨i + 1, ⟨by omega, hp1⟩, by omega, Ent.chk (by simp [go_sem, hw, hw1, hw4, k3, k4])⟩
            · have e3 : (y.kind == 3) = false := by simpa using d3
              have e4 : (y.kind == 4) = false := by simpa using d4
              rw [if_neg (by omega)] at k3 k4
              simp [go_sem, f1, hw, e3, e4, hn0, hn1, hnn, hgy, gE hgy]
              exact ⟨i + 1, ⟨by omega, hp1⟩, by omega, Ent.chk (by simp [go_sem, hw, hw1, k3, k4])⟩
        · rw [hmiss n hnm f1]
          simp [go_sem, f1, hw]
      · have hil : i = U.length := by omega
        subst hil
        rw [List.take_length] at hp ⊢
        rw [hall hp]
        by_cases d3 : (cntK g free 3 U : Int) < s.cores
        · simp [go_sem, hw, d3]
        · by_cases d4 : (cntK g free 4 U : Int) < s.gpus
          · simp [go_sem, hw, d3, d4]
          · simp [go_sem, hw, d3, d4]
    | false =>
      have hsome := here_some hg hs hu hnode hw
      generalize underL g u = U at *
      rw [hsome]
      refine LoopW.of (fun z : Nat × List Int => ⟨118, [(0, .sv (things g)), (1, .sv (ints free)), (6, .box 6 0), (8, .nil), (9, .sv (bv false)), (10, .sv (ints U)), (11, .own 11), (12, .sv (iv (cntK g free 3 (U.take z.1)))), (13, .sv (iv (cntK g free 4 (U.take z.1)))), (14, .sv (iv z.1))],
          [(6, .box ((specCells s).map .sv)), (11, .row 1 (z.2.map iv))]⟩)
        (fun z => z.1 ≤ U.length ∧ taken g free s (U.take z.1) z.2) (fun z => U.length - z.1) (0, []) ⟨by simp, by simpa using taken_nil g free s⟩ (Ent.thaw 11 11 1 (by simp [go_sem]) (by simp [go_sem]) (by decide) (Ent.chk (by simp [go_sem, cntK, ofKind, hw]))) ?_
      rintro ⟨i, out⟩ ⟨hi, hp⟩
      simp only at hi hp ⊢
      by_cases hlt : i < U.length
      · have hlt' : (i : Int) < U.length := by omega
        obtain ⟨n, hn⟩ : ∃ x, U[i]? = some x := ⟨_, List.getElem?_eq_getElem hlt⟩
        have hw1 : IntKind.i64.wrap ((i : Int) + 1) = (i : Int) + 1 := by rw [i64w] <;> omega
        have hnm := List.mem_of_getElem? hn
        obtain ⟨hn0, hn1⟩ := hUm n hnm
        have hnn : n.toNat < g.length := by omega
        obtain ⟨y, hgy⟩ : ∃ y, g[n.toNat]? = some y := ⟨_, List.getElem?_eq_getElem hnn⟩
        have hy := th_get hgy
        have htk : U.take (i + 1) = U.take i ++ [n] := by rw [List.take_succ_eq_append_getElem hlt, gE hn]
        have o3 := ofKind_snoc g free 3 (U.take i) n
        have o4 := ofKind_snoc g free 4 (U.take i) n
        have k3 := cntK_snoc g free 3 (U.take i) n
        have k4 := cntK_snoc g free 4 (U.take i) n
        have b3 := cntK_le g free 3 (U.take i)
        have b4 := cntK_le g free 4 (U.take i)
        have bl : (U.take i).length ≤ 256 := by rw [List.length_take]; omega
        have bo := hp.1.length_le
        have hskip := taken_skip (n := n) hp
        have hput := taken_put (n := n) hp
        have hc3 : (ofKind g free 3 (U.take i)).length = cntK g free 3 (U.take i) := rfl
        have hc4 : (ofKind g free 4 (U.take i)).length = cntK g free 4 (U.take i) := rfl
        rw [o3, o4, ← htk, hy] at hskip hput
        rw [← htk, hy] at k3 k4
        have hw3 : IntKind.i64.wrap ((cntK g free 3 (U.take i) : Int) + 1) = (cntK g free 3 (U.take i) : Int) + 1 := by rw [i64w] <;> omega
        have hw4 : IntKind.i64.wrap ((cntK g free 4 (U.take i) : Int) + 1) = (cntK g free 4 (U.take i) : Int) + 1 := by rw [i64w] <;> omega
        simp [go_sem, hlt, hlt', hn, gE hn]
        refine OpW.fn true (hhas n) rfl rfl (by simp [go_sem]) (by rintro _ r rfl; simp [go_sem]) ?_
        rintro r rfl
        by_cases f1 : n ∈ free
        · by_cases d3 : y.kind = 3
          · rw [if_pos ⟨f1, d3⟩] at k3
            rw [if_neg (by omega)] at k4
            rw [if_pos ⟨f1, d3⟩, if_neg (by omega), take_snoc, hc3] at hskip hput
            by_cases q : cntK g free 3 (U.take i) < s.cores.toNat
            · rw [if_pos q] at hput
              have q' : (cntK g free 3 (U.take i) : Int) + 1 ≤ s.cores := by omega
              simp [go_sem, f1, hw, d3, hn0, hn1, hnn, hgy, gE hgy, hw3, q']
              refine ⟨by omega, i + 1, out ++ [n], ⟨by omega, hput (.inl ⟨rfl, rfl⟩)⟩, by omega, Ent.rename2 82 11 (by simp [go_sem]) (Ent.chk (by simp [go_sem, hw, hw1, hw3, k3, k4]))⟩
            · rw [if_neg q] at hskip
              have q' : ¬ (cntK g free 3 (U.take i) : Int) + 1 ≤ s.cores := by omega
              simp [go_sem, f1, hw, d3, hn0, hn1, hnn, hgy, gE hgy, hw3, q']
              exact ⟨i + 1, out, ⟨by omega, hskip rfl rfl⟩, by omega, Ent.chk (by simp [go_sem, hw, hw1, hw3, k3, k4])⟩
          · by_cases d4 : y.kind = 4
            · rw [if_pos ⟨f1, d4⟩] at k4
              rw [if_neg (by omega)] at k3
              rw [if_neg (by omega), if_pos ⟨f1, d4⟩, take_snoc, hc4] at hskip hput
              by_cases q : cntK g free 4 (U.take i) < s.gpus.toNat
              · rw [if_pos q] at hput
                have q' : (cntK g free 4 (U.take i) : Int) + 1 ≤ s.gpus := by omega
                simp [go_sem, f1, hw, d4, hn0, hn1, hnn, hgy, gE hgy, hw4, q']
                refine ⟨by omega, i + 1, out ++ [n], ⟨by omega, hput (.inr ⟨rfl, rfl⟩)⟩, by omega, Ent.rename2 103 11 (by simp [go_sem]) (Ent.chk (by simp [go_sem, hw, hw1, hw4, k3, k4]))⟩
              · rw [if_neg q] at hskip
                have q' : ¬ (cntK g free 4 (U.take i) : Int) + 1 ≤ s.gpus := by omega
                simp [go_sem, f1, hw, d4, hn0, hn1, hnn, hgy, gE hgy, hw4, q']
                exact ⟨i + 1, out, ⟨by omega, hskip rfl rfl⟩, by omega, Ent.chk (by simp [go_sem, hw, hw1, hw4, k3, k4])⟩
            · have e3 : (y.kind == 3) = false := by simpa using d3
              have e4 : (y.kind == 4) = false := by simpa using d4
              rw [if_neg (by omega)] at k3 k4
              rw [if_neg (by omega), if_neg (by omega)] at hskip
              simp [go_sem, f1, hw, e3, e4, hn0, hn1, hnn, hgy, gE hgy]
              exact ⟨i + 1, out, ⟨by omega, hskip rfl rfl⟩, by omega, Ent.chk (by simp [go_sem, hw, hw1, k3, k4])⟩
        · rw [if_neg (fun h => f1 h.1)] at k3 k4
          rw [if_neg (fun h => f1 h.1), if_neg (fun h => f1 h.1)] at hskip
          simp [go_sem, f1, hw]
          exact ⟨i + 1, out, ⟨by omega, hskip rfl rfl⟩, by omega, Ent.chk (by simp [go_sem, hw, hw1, k3, k4])⟩
      · have hil : i = U.length := by omega
        subst hil
        rw [List.take_length] at hp ⊢
        have ho := hta out hp
        by_cases d3 : (cntK g free 3 U : Int) < s.cores
        · simp [go_sem, hw, d3]
        · by_cases d4 : (cntK g free 4 U : Int) < s.gpus
          · simp [go_sem, hw, d3, d4]
          · simp [go_sem, hw, d3, d4, ho]
end Go.Proofs.YtfcojlagmmgagaaDoor.Ab
