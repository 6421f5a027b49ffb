/- ref09.Gets. ref09: Suits, Many, Find, Could; what is always so at first. match: what is always so at first. match: facts for the laws. -/
import Derived.Test.YtinhfnbmgmociaaGreatDoorMa1
import Derived.Test.YtinhfnbmgmociaaGreatDoorGr1
namespace Go.Proofs.YtinhfnbmgmociaaGreatDoor.Ab
open Go.RowKit
set_option linter.unusedVariables false
set_option linter.unusedSimpArgs false

theorem here_bad {g : List Thing} {free : List Int} {s : Spec} {u : Nat} (h : nodeOk g free s u = false) : hereL g free s u = ([], false) := by unfold hereL; rw [h]; rfl
theorem here_false {g : List Thing} {free : List Int} {s : Spec} {u : Nat} (h : (hereL g free s u).2 = false) : hereL g free s u = ([], false) := by
  have := here_no h
  revert this h
  cases hereL g free s u with
  | mk a b => intro h1 h2; simp only at h1 h2; rw [h1, h2]
theorem here_true {g : List Thing} {free : List Int} {s : Spec} {u : Nat} {l : List Int} (h : (hereL g free s u).2 = true) (hl : (hereL g free s u).1 = l) : hereL g free s u = (l, true) := by
  revert h hl
  cases hereL g free s u with
  | mk a b => intro h1 h2; simp only at h1 h2; rw [h1, h2]
theorem ofKind_under {g : List Thing} (hg : isGraph g = true) (free : List Int) {u : Nat} (hu : u < g.length) (h2 : (th g u).kind = 2) {k : Int} (hk : k = 3 ∨ k = 4) : ofKind g free k (underL g u) = ofKind g free k (kidsL g u) := by
  rw [under_node hg hu h2]; unfold ofKind
  rw [List.filter_cons]
  have : ((th g ((u : Int)).toNat).kind == k) = false := by simp only [Int.toNat_natCast, h2]; rcases hk with rfl | rfl <;> rfl
  rw [this]; simp
def cntK (g : List Thing) (free : List Int) (k : Int) (l : List Int) : Nat := (ofKind g free k l).length
theorem cntK_snoc (g : List Thing) (free : List Int) (k : Int) (l : List Int) (n : Int) : cntK g free k (l ++ [n]) = if n ∈ free ∧ (th g n.toNat).kind = k then cntK g free k l + 1 else cntK g free k l := by
  unfold cntK; rw [ofKind_snoc]; split
  · simp
  · rfl
theorem cntK_le (g : List Thing) (free : List Int) (k : Int) (l : List Int) : cntK g free k l ≤ l.length := List.length_filter_le _ _
theorem here_all {g : List Thing} (hg : isGraph g = true) {free : List Int} {s : Spec} (hs : isSpec s = true) {u : Nat} (hu : u < g.length) (hn : nodeOk g free s u = true) (hw : s.whole = true) (ha : ∀ n ∈ underL g u, n ∈ free) :
    hereL g free s u = if (cntK g free 3 (underL g u) : Int) < s.cores ∨ (cntK g free 4 (underL g u) : Int) < s.gpus then ([], false) else (underL g u, true) := by
  have h2 := (nodeOk_iff.1 hn).1
  have hsn := spec_nn hs
  unfold cntK
  rw [ofKind_under hg free hu h2 (.inl rfl), ofKind_under hg free hu h2 (.inr rfl)]
  have hok := here_ok (g := g) (free := free) (u := u) hsn.1 hsn.2.1
  rw [under_node hg hu h2] at ha
  split
  · rename_i h
    refine here_false ?_
    rw [Bool.eq_false_iff]; intro hh; have := hok.1 hh; omega
  · rename_i h
    have hh := hok.2 ⟨hn, by omega, by omega, fun _ n hn => ha n (List.mem_cons_of_mem _ hn)⟩
    exact here_true hh (by rw [here_whole hh hw, under_node hg hu h2])
theorem here_miss {g : List Thing} (hg : isGraph g = true) {free : List Int} {s : Spec} (hs : isSpec s = true) {u : Nat} (hu : u < g.length) (hn : nodeOk g free s u = true) (hw : s.whole = true) {n : Int} (hm : n ∈ underL g u) (hf : n ∉ free) : hereL g free s u = ([], false) := by
  have h2 := (nodeOk_iff.1 hn)
  have hsn := spec_nn hs
  have hok := here_ok (g := g) (free := free) (u := u) hsn.1 hsn.2.1
  rw [under_node hg hu h2.1] at hm
  refine here_false ?_
  rw [Bool.eq_false_iff]; intro hh
  have := (hok.1 hh).2.2.2 hw
  rcases List.mem_cons.1 hm with rfl | hm
  · exact hf h2.2.1
  · exact hf (this n hm)
theorem here_some {g : List Thing} (hg : isGraph g = true) {free : List Int} {s : Spec} (hs : isSpec s = true) {u : Nat} (hu : u < g.length) (hn : nodeOk g free s u = true) (hw : s.whole = false) :
    hereL g free s u = if (cntK g free 3 (underL g u) : Int) < s.cores ∨ (cntK g free 4 (underL g u) : Int) < s.gpus then ([], false) else (joinL (coresL g free s u) (gpusL g free s u), true) := by
  have h2 := (nodeOk_iff.1 hn).1
  have hsn := spec_nn hs
  unfold cntK
  rw [ofKind_under hg free hu h2 (.inl rfl), ofKind_under hg free hu h2 (.inr rfl)]
  have hok := here_ok (g := g) (free := free) (u := u) hsn.1 hsn.2.1
  split
  · rename_i h
    refine here_false ?_
    rw [Bool.eq_false_iff]; intro hh; have := hok.1 hh; omega
  · rename_i h
    have hh := hok.2 ⟨hn, by omega, by omega, fun hw2 => by rw [hw] at hw2; cases hw2⟩
    exact here_true hh (here_part hh hw)
set_option maxHeartbeats 16000000 in
set_option maxRecDepth 100000 in
theorem Gets_c (g : List Thing) (free : List Int) (s : Spec) (u : Nat) (hg : isGraph g = true) (ht : Things g) (hf : isSet free = true) (hs : isSpec s = true) (hu : u < g.length) : ACalls Tryz.prog 93 [things g, ints free, specSV s, iv u] (· = .many [.sv (ints (hereL g free s u).1), .sv (bv (hereL g free s u).2)]) := by
  refine ACalls.of_bodyS (fun _ _ => Tryz.call93 _ _) Tryz.func93 rfl Tryz.ntmps93 (by simp) ?_
  refine Tr.ex ?_
  have hlen := isGraph_len hg
  have hfl := set_len hf
  have hu' : (u : Int) < g.length := by omega
  obtain ⟨x, hgx⟩ : ∃ x, g[u]? = some x := ⟨_, List.getElem?_eq_getElem hu⟩
  have hx := th_get hgx
  have hhas := fun n => r1Has_c free n (by omega)
  simp only [hasB_iff hf] at hhas
  have hbad := here_bad (g := g) (free := free) (s := s) (u := u)
  have hnok : nodeOk g free s u = (x.kind == 2 && decide ((u : Int) ∈ free) && (s.tag.toList == [] || x.tag.toList == s.tag.toList)) := by unfold nodeOk; rw [hx]
  simp [go_sem, hu, hu', hgx, gE hgx]
  refine DrawW.rd rfl ?_
  by_cases c1 : x.kind = 2
  case neg =>
    have e1 : (x.kind == 2) = false := by simpa using c1
    rw [hbad (by rw [hnok, e1]; rfl)]
    simp [go_sem, hu, hu', hgx, gE hgx, bne, e1]
    show _ = true
    kernel_rfl
  have e1 : (x.kind == 2) = true := by simpa using c1
  simp [go_sem, hu, hu', hgx, gE hgx, bne, e1]
  refine OpD.call true (hhas u) rfl rfl (by simp [go_sem]) (by intro _; simp [go_sem]) (by simp [go_sem]) (by simp [go_sem]) ?_
  have hcm : (s.tag.toList == x.tag.toList) = (x.tag.toList == s.tag.toList) := by rw [Bool.eq_iff_iff]; simp only [beq_iff_eq]; exact eq_comm
  by_cases c2 : (u : Int) ∈ free
  case neg =>
    rw [hbad (by rw [hnok]; simp [c2])]
    simp [go_sem, c2]
    show _ = true
    kernel_rfl
  have hun := rUnder_c g u (by omega) ht
  have hul := underL_len g u
  have hUm : ∀ n ∈ underL g u, 0 ≤ n ∧ n < g.length := fun n hn => ⟨(underL_mem.1 hn).2.1, (underL_mem.1 hn).2.2.1⟩
  have hsn := spec_nn hs
  have hkx : (th g u).kind = 2 := by rw [hx]; exact c1
  have hta := fun out => taken_all hg (free := free) (s := s) hu hkx (out := out)
  cases c3 : (s.tag.toList == [])
  case' true =>
    have hnode : nodeOk g free s u = true := by rw [hnok, c3]; simp [c1, c2]
    simp [go_sem, bne, c2, c3]
    refine ⟨by kernel_rfl, ?_⟩
  case' false =>
    cases c4 : (x.tag.toList == s.tag.toList)
    case' false =>
      rw [hbad (by rw [hnok, c3, c4]; simp)]
      simp [go_sem, bne, c2, c3, hcm, c4, hu, hu', hgx, gE hgx]
      refine (show _ = true from ?_)
      kernel_rfl
    case' true =>
      have hnode : nodeOk g free s u = true := by rw [hnok, c4]; simp [c1, c2]
      simp [go_sem, bne, c2, c3, hcm, c4, hu, hu', hgx, gE hgx]
      refine ⟨by kernel_rfl, ?_⟩
  all_goals
    refine OpW.fn false (hun) rfl rfl (by simp [go_sem]) (fun h => by cases h) ?_
    rintro r rfl
    simp [go_sem]
    cases hw : s.whole with
    | true =>
      have hall := fun ha => here_all hg hs hu hnode hw ha
      have hmiss := fun n (h1 : n ∈ underL g u) h2 => here_miss hg hs hu hnode hw h1 h2
      generalize underL g u = U at *
      refine LoopW.of (fun i : Nat => ⟨118, [(0, .sv (things g)), (1, .sv (ints free)), (6, .box 6 0), (8, .nil), (9, .sv (bv false)), (10, .sv (ints U)), (11, .nil), (12, .sv (iv (cntK g free 3 (U.take i)))), (13, .sv (iv (cntK g free 4 (U.take i)))), (14, .sv (iv i))],
          [(6, .box ((specCells s).map .sv))]⟩)
        (fun i => i ≤ U.length ∧ ∀ n ∈ U.take i, n ∈ free) (fun i => U.length - i) 0 ⟨by omega, by simp⟩ (Ent.chk (by simp [go_sem, cntK, ofKind, hw])) ?_
      rintro i ⟨hi, hp⟩
      by_cases hlt : i < U.length
      · have hlt' : (i : Int) < U.length := by omega
        obtain ⟨n, hn⟩ : ∃ x, U[i]? = some x := ⟨_, List.getElem?_eq_getElem hlt⟩
        have hw1 : IntKind.i64.wrap ((i : Int) + 1) = (i : Int) + 1 := by rw [i64w] <;> omega
        have hnm := List.mem_of_getElem? hn
        obtain ⟨hn0, hn1⟩ := hUm n hnm
        have hnn : n.toNat < g.length := by omega
        obtain ⟨y, hgy⟩ : ∃ y, g[n.toNat]? = some y := ⟨_, List.getElem?_eq_getElem hnn⟩
        have hy := th_get hgy
        have htk : U.take (i + 1) = U.take i ++ [n] := by rw [List.take_succ_eq_append_getElem hlt, gE hn]
        simp [go_sem, hlt, hlt', hn, gE hn]
        refine OpW.fn true (hhas n) rfl rfl (by simp [go_sem]) (by rintro _ r rfl; simp [go_sem]) ?_
        rintro r rfl
        by_cases f1 : n ∈ free
        · have k3 := cntK_snoc g free 3 (U.take i) n
          have k4 := cntK_snoc g free 4 (U.take i) n
          have b3 := cntK_le g free 3 (U.take i)
          have b4 := cntK_le g free 4 (U.take i)
          have bl : (U.take i).length ≤ 256 := by rw [List.length_take]; omega
          rw [← htk, hy] at k3 k4
          have hp1 : ∀ m ∈ U.take (i + 1), m ∈ free := by
            rw [htk]; intro m hm
            rcases List.mem_append.1 hm with h | h
            · exact hp m h
            · simp at h; subst h; exact f1
          have hw3 : IntKind.i64.wrap ((cntK g free 3 (U.take i) : Int) + 1) = (cntK g free 3 (U.take i) : Int) + 1 := by rw [i64w] <;> omega
          have hw4 : IntKind.i64.wrap ((cntK g free 4 (U.take i) : Int) + 1) = (cntK g free 4 (U.take i) : Int) + 1 := by rw [i64w] <;> omega
          by_cases d3 : y.kind = 3
          · rw [if_pos ⟨f1, d3⟩] at k3
            rw [if_neg (by omega)] at k4
            simp [go_sem, f1, hw, d3, hn0, hn1, hnn, hgy, gE hgy]
            exact ⟨i + 1, ⟨by omega, hp1⟩, by omega, Ent.chk (by simp [go_sem, hw, hw1, hw3, k3, k4])⟩
          · by_cases d4 : y.kind = 4
            · rw [if_pos ⟨f1, d4⟩] at k4
              rw [if_neg (by omega)] at k3
              simp [go_sem, f1, hw, d4, hn0, hn1, hnn, hgy, gE hgy]
              exact ⟨i + 1, ⟨by omega, hp1⟩, by omega, Ent.chk (by simp [go_sem, hw, hw1, hw4, k3, k4])⟩
            · have e3 : (y.kind == 3) = false := by simpa using d3
              have e4 : (y.kind == 4) = false := by simpa using d4
              rw [if_neg (by omega)] at k3 k4
              simp [go_sem, f1, hw, e3, e4, hn0, hn1, hnn, hgy, gE hgy]
              exact ⟨i + 1, ⟨by omega, hp1⟩, by omega, Ent.chk (by simp [go_sem, hw, hw1, k3, k4])⟩
        · rw [hmiss n hnm f1]
          simp [go_sem, f1, hw]
      · have hil : i = U.length := by omega
        subst hil
        rw [List.take_length] at hp ⊢
        rw [hall hp]
        by_cases d3 : (cntK g free 3 U : Int) < s.cores
        · simp [go_sem, hw, d3]
        · by_cases d4 : (cntK g free 4 U : Int) < s.gpus
          · simp [go_sem, hw, d3, d4]
          · simp [go_sem, hw, d3, d4]
    | false =>
      have hsome := here_some hg hs hu hnode hw
      generalize underL g u = U at *
      rw [hsome]
      refine LoopW.of (fun z : Nat × List Int => ⟨118, [(0, .sv (things g)), (1, .sv (ints free)), (6, .box 6 0), (8, .nil), (9, .sv (bv false)), (10, .sv (ints U)), (11, .own 11), (12, .sv (iv (cntK g free 3 (U.take z.1)))), (13, .sv (iv (cntK g free 4 (U.take z.1)))), (14, .sv (iv z.1))],
          [(6, .box ((specCells s).map .sv)), (11, .row 1 (z.2.map iv))]⟩)
        (fun z => z.1 ≤ U.length ∧ taken g free s (U.take z.1) z.2) (fun z => U.length - z.1) (0, []) ⟨by simp, by simpa using taken_nil g free s⟩ (Ent.thaw 11 11 1 (by simp [go_sem]) (by simp [go_sem]) (by decide) (Ent.chk (by simp [go_sem, cntK, ofKind, hw]))) ?_
      rintro ⟨i, out⟩ ⟨hi, hp⟩
      simp only at hi hp ⊢
      by_cases hlt : i < U.length
      · have hlt' : (i : Int) < U.length := by omega
        obtain ⟨n, hn⟩ : ∃ x, U[i]? = some x := ⟨_, List.getElem?_eq_getElem hlt⟩
        have hw1 : IntKind.i64.wrap ((i : Int) + 1) = (i : Int) + 1 := by rw [i64w] <;> omega
        have hnm := List.mem_of_getElem? hn
        obtain ⟨hn0, hn1⟩ := hUm n hnm
        have hnn : n.toNat < g.length := by omega
        obtain ⟨y, hgy⟩ : ∃ y, g[n.toNat]? = some y := ⟨_, List.getElem?_eq_getElem hnn⟩
        have hy := th_get hgy
        have htk : U.take (i + 1) = U.take i ++ [n] := by rw [List.take_succ_eq_append_getElem hlt, gE hn]
        have o3 := ofKind_snoc g free 3 (U.take i) n
        have o4 := ofKind_snoc g free 4 (U.take i) n
        have k3 := cntK_snoc g free 3 (U.take i) n
        have k4 := cntK_snoc g free 4 (U.take i) n
        have b3 := cntK_le g free 3 (U.take i)
        have b4 := cntK_le g free 4 (U.take i)
        have bl : (U.take i).length ≤ 256 := by rw [List.length_take]; omega
        have bo := hp.1.length_le
        have hskip := taken_skip (n := n) hp
        have hput := taken_put (n := n) hp
        have hc3 : (ofKind g free 3 (U.take i)).length = cntK g free 3 (U.take i) := rfl
        have hc4 : (ofKind g free 4 (U.take i)).length = cntK g free 4 (U.take i) := rfl
        rw [o3, o4, ← htk, hy] at hskip hput
        rw [← htk, hy] at k3 k4
        have hw3 : IntKind.i64.wrap ((cntK g free 3 (U.take i) : Int) + 1) = (cntK g free 3 (U.take i) : Int) + 1 := by rw [i64w] <;> omega
        have hw4 : IntKind.i64.wrap ((cntK g free 4 (U.take i) : Int) + 1) = (cntK g free 4 (U.take i) : Int) + 1 := by rw [i64w] <;> omega
        simp [go_sem, hlt, hlt', hn, gE hn]
        refine OpW.fn true (hhas n) rfl rfl (by simp [go_sem]) (by rintro _ r rfl; simp [go_sem]) ?_
        rintro r rfl
        by_cases f1 : n ∈ free
        · by_cases d3 : y.kind = 3
          · rw [if_pos ⟨f1, d3⟩] at k3
            rw [if_neg (by omega)] at k4
            rw [if_pos ⟨f1, d3⟩, if_neg (by omega), take_snoc, hc3] at hskip hput
            by_cases q : cntK g free 3 (U.take i) < s.cores.toNat
            · rw [if_pos q] at hput
              have q' : (cntK g free 3 (U.take i) : Int) + 1 ≤ s.cores := by omega
              simp [go_sem, f1, hw, d3, hn0, hn1, hnn, hgy, gE hgy, hw3, q']
              refine ⟨by omega, i + 1, out ++ [n], ⟨by omega, hput (.inl ⟨rfl, rfl⟩)⟩, by omega, Ent.rename2 82 11 (by simp [go_sem]) (Ent.chk (by simp [go_sem, hw, hw1, hw3, k3, k4]))⟩
            · rw [if_neg q] at hskip
              have q' : ¬ (cntK g free 3 (U.take i) : Int) + 1 ≤ s.cores := by omega
              simp [go_sem, f1, hw, d3, hn0, hn1, hnn, hgy, gE hgy, hw3, q']
              exact ⟨i + 1, out, ⟨by omega, hskip rfl rfl⟩, by omega, Ent.chk (by simp [go_sem, hw, hw1, hw3, k3, k4])⟩
          · by_cases d4 : y.kind = 4
            · rw [if_pos ⟨f1, d4⟩] at k4
              rw [if_neg (by omega)] at k3
              rw [if_neg (by omega), if_pos ⟨f1, d4⟩, take_snoc, hc4] at hskip hput
              by_cases q : cntK g free 4 (U.take i) < s.gpus.toNat
              · rw [if_pos q] at hput
                have q' : (cntK g free 4 (U.take i) : Int) + 1 ≤ s.gpus := by omega
                simp [go_sem, f1, hw, d4, hn0, hn1, hnn, hgy, gE hgy, hw4, q']
                refine ⟨by omega, i + 1, out ++ [n], ⟨by omega, hput (.inr ⟨rfl, rfl⟩)⟩, by omega, Ent.rename2 103 11 (by simp [go_sem]) (Ent.chk (by simp [go_sem, hw, hw1, hw4, k3, k4]))⟩
              · rw [if_neg q] at hskip
                have q' : ¬ (cntK g free 4 (U.take i) : Int) + 1 ≤ s.gpus := by omega
                simp [go_sem, f1, hw, d4, hn0, hn1, hnn, hgy, gE hgy, hw4, q']
                exact ⟨i + 1, out, ⟨by omega, hskip rfl rfl⟩, by omega, Ent.chk (by simp [go_sem, hw, hw1, hw4, k3, k4])⟩
            · have e3 : (y.kind == 3) = false := by simpa using d3
              have e4 : (y.kind == 4) = false := by simpa using d4
              rw [if_neg (by omega)] at k3 k4
              rw [if_neg (by omega), if_neg (by omega)] at hskip
              simp [go_sem, f1, hw, e3, e4, hn0, hn1, hnn, hgy, gE hgy]
              exact ⟨i + 1, out, ⟨by omega, hskip rfl rfl⟩, by omega, Ent.chk (by simp [go_sem, hw, hw1, k3, k4])⟩
        · rw [if_neg (fun h => f1 h.1)] at k3 k4
          rw [if_neg (fun h => f1 h.1), if_neg (fun h => f1 h.1)] at hskip
          simp [go_sem, f1, hw]
          exact ⟨i + 1, out, ⟨by omega, hskip rfl rfl⟩, by omega, Ent.chk (by simp [go_sem, hw, hw1, k3, k4])⟩
      · have hil : i = U.length := by omega
        subst hil
        rw [List.take_length] at hp ⊢
        have ho := hta out hp
        by_cases d3 : (cntK g free 3 U : Int) < s.cores
        · simp [go_sem, hw, d3]
        · by_cases d4 : (cntK g free 4 U : Int) < s.gpus
          · simp [go_sem, hw, d3, d4]
          · simp [go_sem, hw, d3, d4, ho]
end Go.Proofs.YtinhfnbmgmociaaGreatDoor.Ab

namespace Go.Proofs.YtinhfnbmgmociaaGreatDoor.Ab
open Go.RowKit
set_option linter.unusedVariables false
set_option linter.unusedSimpArgs false

def rmanyTo (g : List Thing) (free : List Int) (s : Spec) (i : Nat) : Nat := if mayB g free s = true then manyTo g free s i else 0
theorem rmanyTo_succ (g : List Thing) (free : List Int) (s : Spec) (i : Nat) (hi : i < g.length) : rmanyTo g free s (i + 1) = if suitsL g free s i = true then rmanyTo g free s i + 1 else rmanyTo g free s i := by
  unfold rmanyTo suitsL
  have h1 : (0 : Int) ≤ i := by omega
  have h2 : (i : Int) < g.length := by omega
  cases mayB g free s with
  | false => simp
  | true => rw [if_pos rfl, if_pos rfl, manyTo_succ]; simp [h1, h2]
theorem rmanyTo_le (g : List Thing) (free : List Int) (s : Spec) (i : Nat) : rmanyTo g free s i ≤ i := by
  unfold rmanyTo; split
  · exact manyTo_le g free s i
  · omega
def nTo (g : List Thing) (free : List Int) (s : Spec) (i : Nat) : Nat := (selTo g free s i).length
theorem nTo_left {g : List Thing} {free : List Int} {s : Spec} (i : Nat) : (nTo g free s i : Int) = s.nodes - leftTo g free s i := by unfold nTo leftTo; omega
set_option maxHeartbeats 4000000 in
set_option maxRecDepth 100000 in
theorem rFind_c (g : List Thing) (free : List Int) (s : Spec) (hg : g.length ≤ 140737488355328) (ht : Things g) (hf : free.length ≤ 140737488355328) (hs : s.tag.size ≤ 140737488351232) : ACalls Tryz.prog 73 [things g, ints free, specSV s] (· = .many [.sv (ints (findL g free s).1), .sv (bv (findL g free s).2)]) := by
  refine ACalls.of_bodyS (fun _ _ => Tryz.call73 _ _) Tryz.func73 rfl Tryz.ntmps73 (by simp) ?_
  refine Tr.ex ?_
  rw [findL_eq]
  simp [go_sem]
  refine OpW.fn true (rmay_c g free s hg ht hf hs) rfl rfl (by simp [go_sem]) (by rintro _ r rfl; simp [go_sem]) ?_
  rintro r rfl
  cases hm : mayB g free s with
  | false => simp [go_sem]
  | true =>
    have hm' := hm
    unfold mayB at hm
    simp only [Bool.and_eq_true] at hm
    have hgl := isGraph_len hm.1.1
    simp [go_sem]
    refine LoopW.of (fun i : Nat => ⟨49, [(0, .sv (things g)), (1, .sv (ints free)), (5, .box 5 0), (6, .nil), (7, .sv (bv false)), (8, .sv (ints (outTo g free s i))), (9, .sv (iv (nTo g free s i))), (10, .sv (iv i))], [(5, .box ((specCells s).map .sv))]⟩)
      (fun i => i ≤ g.length) (fun i => g.length - i) 0 (by omega) ?_ ?_
    · have e : outTo g free s 0 = [] := outTo_zero g free s
      have e2 : nTo g free s 0 = 0 := by unfold nTo selTo; simp
      rw [e, e2]
      refine Ent.trans (Ent.nilS (d := 8) (by simp [go_sem])) (Ent.chk (by simp [go_sem]))
    rintro i hi
    have hlr := leftTo_rng (g := g) (free := free) hm.2 i
    have hls := leftTo_succ (g := g) (free := free) hm.2 i
    have hos := outTo_left (g := g) (free := free) hm.2 i
    have hol := set_len (outTo_set g free s i)
    have hst := left_stay (g := g) (free := free) hm.2 hi
    have hni := nTo_left (g := g) (free := free) (s := s) i
    have hni1 := nTo_left (g := g) (free := free) (s := s) (i + 1)
    by_cases hlt : i < g.length
    · have hlt' : (i : Int) < g.length := by omega
      have hw : IntKind.i64.wrap ((i : Int) + 1) = (i : Int) + 1 := by rw [i64w] <;> omega
      by_cases hl0 : 0 < leftTo g free s i
      · have hl0' : (nTo g free s i : Int) < s.nodes := by omega
        have hsn := spec_nn hm.2
        have hw2 : IntKind.i64.wrap ((nTo g free s i : Int) + 1) = (nTo g free s i : Int) + 1 := by rw [i64w] <;> omega
        simp [go_sem, hlt', hl0']
        refine OpW.fn false (Gets_c g free s i hm.1.1 ht hm.1.2 hm.2 hlt) rfl rfl (by simp [go_sem]) (fun h => by cases h) ?_
        rintro r rfl
        cases hh : (hereL g free s i).2 with
        | true =>
          have hhl := here_len g free s i hgl.2
          rw [hh, if_pos ⟨rfl, hl0⟩] at hls hos
          have hn1 : nTo g free s (i + 1) = nTo g free s i + 1 := by omega
          simp [go_sem]
          refine OpW.fn false (Which0_c (outTo g free s i) (hereL g free s i).1 (by omega) (by omega)) rfl rfl (by simp [go_sem]) (fun h => by cases h) ?_
          rintro r rfl
          simp [go_sem]
          exact ⟨i + 1, by omega, by omega, Ent.chk (by simp [go_sem, hw, hw2, hn1, hos])⟩
        | false =>
          rw [hh, if_neg (by simp)] at hls hos
          have hn1 : nTo g free s (i + 1) = nTo g free s i := by omega
          simp [go_sem]
          exact ⟨i + 1, by omega, by omega, Ent.chk (by simp [go_sem, hw, hn1, hos])⟩
      · have hl0' : ¬ (nTo g free s i : Int) < s.nodes := by omega
        have hst2 := hst (by omega)
        rw [hst2.1, hst2.2, if_neg hl0]
        simp [go_sem, hlt', hl0']
    · have hil : i = g.length := by omega
      subst hil
      by_cases hl0 : 0 < leftTo g free s g.length
      · have hl0' : (nTo g free s g.length : Int) < s.nodes := by omega
        rw [if_pos hl0]
        simp [go_sem, hl0']
      · have hl0' : ¬ (nTo g free s g.length : Int) < s.nodes := by omega
        rw [if_neg hl0]
        simp [go_sem, hl0']
def allP (i : Nat) : Bool := true
theorem could_all {g : List Thing} {s : Spec} : (findL g (rangeF allP (min g.length 256)) s).2 = couldB g s := by
  unfold couldB
  cases hg : isGraph g with
  | true =>
    have hl := isGraph_len hg
    have e : rangeF allP (min g.length 256) = underL g 0 := by
      rw [underL_eq (thereB_iff.2 ⟨by omega, by omega, hg⟩), Nat.min_eq_left hl.2]
      exact rangeF_congr fun i hi => by rw [show (0 : Int).toNat = 0 from rfl, inU_root hg hi]; rfl
    rw [e]
  | false =>
    have h : ∀ l, mayB g l s = false := fun l => by unfold mayB; rw [hg]; rfl
    unfold findL; rw [h, h]; rfl
def aw9 : List Thing := [⟨0, -1, ⟨#[]⟩⟩, ⟨2, 0, ⟨#[]⟩⟩, ⟨3, 1, ⟨#[]⟩⟩, ⟨3, 1, ⟨#[]⟩⟩, ⟨2, 0, ⟨#[]⟩⟩, ⟨3, 4, ⟨#[]⟩⟩]
theorem aw9_t : Things aw9 := by
  intro t ht
  simp only [aw9, List.mem_cons, List.not_mem_nil, or_false] at ht
  rcases ht with rfl | rfl | rfl | rfl | rfl | rfl <;> decide
def aw9s : Spec := ⟨2, 1, 0, ⟨#[]⟩, false, 1, 0⟩
def aw9u : Spec := ⟨1, 2, 0, ⟨#[]⟩, false, 1, 0⟩
theorem aw9_1 : underL aw9 0 = [0, 1, 2, 3, 4, 5] := by kernel_rfl
theorem aw9_2 : findL aw9 [0, 1, 2, 3, 4, 5] aw9s = ([2, 5], true) := by kernel_rfl
theorem aw9_3 : couldB aw9 aw9u = true := by kernel_rfl
theorem aw9_4 : manyL aw9 [0, 1, 2, 3, 4, 5] aw9u = 1 := by kernel_rfl
theorem things_len {y : List Thing} (h : y.length * 32 ≤ 140737488351232 ∧ y.length ≤ maxLen ∧ ∀ x ∈ y, ThingOk x) : y.length ≤ 140737488355328 := by have := h.1; omega
theorem things_ok {y : List Thing} (h : ∀ x ∈ y, ThingOk x) : Things y := fun t ht => by have := (h t ht).2.2; omega
end Go.Proofs.YtinhfnbmgmociaaGreatDoor.Ab

namespace Go.Proofs.YtinhfnbmgmociaaGreatDoor.Ab
open Go.RowKit
set_option linter.unusedVariables false
set_option linter.unusedSimpArgs false

attribute [go_sem] aw9s aw9u
end Go.Proofs.YtinhfnbmgmociaaGreatDoor.Ab

namespace Go.Proofs.YtinhfnbmgmociaaGreatDoor.Ab
open Go.RowKit
set_option linter.unusedVariables false
set_option linter.unusedSimpArgs false

theorem find_len (g : List Thing) (free : List Int) (s : Spec) : (findL g free s).1.length ≤ 256 := set_len (findL_set g free s)
theorem nodes_get {g : List Thing} {i : Nat} {x : Int} (h : (nodesL g)[i]? = some x) : ∃ a : Nat, x = a ∧ a < g.length ∧ (th g a).kind = 2 := by
  have hm := nodesL_mem.1 (List.mem_of_getElem? h)
  exact ⟨x.toNat, by omega, by omega, hm.2.2.2⟩
theorem nodes_le (g : List Thing) : (nodesL g).length ≤ g.length := by
  unfold nodesL; split
  · rw [List.length_map]; exact Nat.le_trans (List.length_filter_le _ _) (by simp)
  · simp
theorem suits_at {g : List Thing} {free : List Int} {s : Spec} {a : Nat} (ha : a < g.length) : suitsL g free s a = (mayB g free s && (hereL g free s a).2) := by
  unfold suitsL
  have h1 : (0 : Int) ≤ a := by omega
  have h2 : (a : Int) < g.length := by omega
  simp [h1, h2]
theorem many_le {g : List Thing} {a b : List Int} {s t : Spec} (hm : mayB g a s = true → mayB g b t = true) (h : ∀ u, u < g.length → mayB g a s = true → (hereL g a s u).2 = true → (hereL g b t u).2 = true) : manyL g a s ≤ manyL g b t := by
  unfold manyL
  cases h1 : mayB g a s with
  | false => simp
  | true =>
    rw [hm h1]
    exact manyTo_mono fun u hu => h u hu h1
theorem many_nodes {g : List Thing} {a : List Int} {s : Spec} : manyL g a s ≤ (nodesL g).length := by
  unfold manyL
  cases h1 : mayB g a s with
  | false => simp
  | true => rw [if_pos rfl]; exact manyTo_nodes (mayB_iff.1 h1).1 a s
theorem many_bound (g : List Thing) (a : List Int) (s : Spec) : manyL g a s ≤ g.length := by
  unfold manyL; split
  · exact manyTo_le _ _ _ _
  · omega
/-! ### Tags -/
theorem spec_noTag {s : Spec} (h : isSpec s = true) : isSpec (noTag s) = true := by
  unfold isSpec at h ⊢
  have e : isTag (noTag s).tag = true := by show isTag ⟨#[]⟩ = true; kernel_rfl
  rw [e]
  unfold noTag
  simp only [Bool.and_eq_true] at h ⊢
  exact ⟨⟨⟨⟨h.1.1.1.1, h.1.1.1.2⟩, trivial⟩, h.1.2⟩, h.2⟩
theorem may_noTag {g : List Thing} {free : List Int} {s : Spec} (h : isSpec s = true) : mayB g free (noTag s) = mayB g free s := by
  unfold mayB; rw [h, spec_noTag h]
theorem suits_tag {g : List Thing} {free : List Int} {s : Spec} {a : Nat} (ha : a < g.length) (h : isSpec s = true) : suitsL g free s a = (suitsL g free (noTag s) a && (s.tag.toList == [] || (th g a).tag.toList == s.tag.toList)) := by
  rw [suits_at ha, suits_at ha, may_noTag h]
  have hn := spec_nn h
  have := here_noTag (g := g) (a := free) (s := s) (u := a) hn.1 hn.2.1
  cases mayB g free s with
  | false => rfl
  | true =>
    rw [Bool.eq_iff_iff]
    simp only [Bool.true_and, Bool.and_eq_true, Bool.or_eq_true, beq_iff_eq]
    exact this
theorem suits_bad {g : List Thing} {free : List Int} {s : Spec} {n : Int} (h : isSpec s = false) : suitsL g free s n = false := by
  unfold suitsL mayB; rw [h]; simp
theorem many_noTag {g : List Thing} {free : List Int} {s : Spec} : manyL g free s ≤ manyL g free (noTag s) := by
  refine many_le (fun h => by rw [may_noTag (mayB_iff.1 h).2.2]; exact h) fun u hu hm hh => ?_
  have hn := spec_nn (mayB_iff.1 hm).2.2
  exact ((here_noTag hn.1 hn.2.1).1 hh).1
/-! ### Whole nodes, and parts -/
def selN (g : List Thing) (free : List Int) (s : Spec) : List Nat := selTo g free s g.length
def cntSel (g : List Thing) (free : List Int) (s : Spec) (i : Nat) : Nat := (((nodesL g).take i).filter fun a => decide (a.toNat ∈ selN g free s)).length
theorem cntSel_succ {g : List Thing} {free : List Int} {s : Spec} {i : Nat} {a : Nat} (h : (nodesL g)[i]? = some (a : Int)) : cntSel g free s (i + 1) = if a ∈ selN g free s then cntSel g free s i + 1 else cntSel g free s i := by
  unfold cntSel
  have hlt : i < (nodesL g).length := (List.getElem?_eq_some_iff.1 h).1
  rw [List.take_succ_eq_append_getElem hlt, gE h, List.filter_append]
  by_cases q : a ∈ selN g free s
  · rw [if_pos q]; simp [q]
  · rw [if_neg q]; simp [q]
theorem cntSel_le (g : List Thing) (free : List Int) (s : Spec) (i : Nat) : cntSel g free s i ≤ i := by
  unfold cntSel
  refine Nat.le_trans (List.length_filter_le _ _) ?_
  rw [List.length_take]; omega
theorem cntSel_all {g : List Thing} {free : List Int} {s : Spec} (h : (findL g free s).2 = true) : (cntSel g free s (nodesL g).length : Int) = s.nodes := by
  have hm := mayB_iff.1 (findL_ok.1 h).1
  unfold cntSel selN
  rw [List.take_length, sel_nodes hm.1, (findL_yes h).2]
theorem part_sel {g : List Thing} {free : List Int} {s : Spec} (h : (findL g free s).2 = true) (hw : s.whole = true) {a : Nat} (ha : a < g.length) (h2 : (th g a).kind = 2) : partB (underL g a) (findL g free s).1 = decide (a ∈ selN g free s) := by
  have hm := mayB_iff.1 (findL_ok.1 h).1
  have hu := under_node hm.1 ha h2
  rw [Bool.eq_iff_iff, partB_iff (underL_set _ _) (findL_set _ _ _), decide_eq_true_eq, (findL_yes h).1]
  unfold selN
  constructor
  · intro hp
    have h1 : (a : Int) ∈ underL g a := by rw [hu]; exact List.mem_cons_self
    exact ((got_under hm.1 hm.2.2 ha h2 a).1 ⟨hp a h1, h1⟩).1
  · intro hs n hn
    have h1 := (selTo_mem hs).2
    refine ((got_under hm.1 hm.2.2 ha h2 n).2 ⟨hs, ?_⟩).1
    rw [here_whole h1 hw, ← hu]; exact hn
theorem apart_sel {g : List Thing} {free : List Int} {s : Spec} (h : (findL g free s).2 = true) {a : Nat} (ha : a < g.length) (h2 : (th g a).kind = 2) (hs : a ∉ selN g free s) : apartB (underL g a) (findL g free s).1 = true := by
  have hm := mayB_iff.1 (findL_ok.1 h).1
  rw [apartB_iff (underL_set _ _) (findL_set _ _ _), (findL_yes h).1]
  intro n hn hno
  exact hs ((got_under hm.1 hm.2.2 ha h2 n).1 ⟨hno, hn⟩).1
theorem find_part {g : List Thing} {free : List Int} {s : Spec} (h : (findL g free (inPart s true)).2 = true) : (findL g free (inPart s false)).2 = (decide (0 < s.cores) || decide (0 < s.gpus)) := by
  have hk := findL_ok.1 h
  have hm := mayB_iff.1 hk.1
  have hs := hm.2.2
  have e : isSpec (inPart s false) = (decide (0 < s.cores) || decide (0 < s.gpus)) := by
    unfold isSpec inPart at hs ⊢
    simp only [Bool.and_eq_true] at hs
    simp only [hs.1.1.1.1, hs.1.1.2, hs.1.2, hs.2]
    simp
  rw [Bool.eq_iff_iff, findL_ok, mayB_iff, ← e]
  constructor
  · rintro ⟨⟨_, _, h1⟩, _⟩; exact h1
  · intro h1
    have hn := spec_nn hs
    have hmono : manyTo g free (inPart s true) g.length ≤ manyTo g free (inPart s false) g.length := manyTo_mono fun u _ hh => here_part_of hn.1 hn.2.1 hh
    refine ⟨⟨hm.1, hm.2.1, h1⟩, ?_⟩
    have h2 : (inPart s false).nodes = (inPart s true).nodes := rfl
    rw [h2]; omega
/-! ### More that is free -/
theorem find_more {g : List Thing} {a b : List Int} {s : Spec} (ha : isSet a = true) (hb : isSet b = true) (h : ∀ n, n ∈ a → n ∈ b) (ho : (findL g a s).2 = true) : (findL g b s).2 = true := by
  rw [findL_ok] at ho ⊢
  have hm := mayB_iff.1 ho.1
  have hn := spec_nn hm.2.2
  have hmono : manyTo g a s g.length ≤ manyTo g b s g.length := manyTo_mono fun u _ hh => here_mono hn.1 hn.2.1 h hh
  exact ⟨mayB_iff.2 ⟨hm.1, hb, hm.2.2⟩, by omega⟩
theorem many_more {g : List Thing} {a b : List Int} {s : Spec} (hb : isSet b = true) (h : ∀ n, n ∈ a → n ∈ b) : manyL g a s ≤ manyL g b s := by
  refine many_le (fun hm => ?_) fun u hu hm hh => ?_
  · have := mayB_iff.1 hm; exact mayB_iff.2 ⟨this.1, hb, this.2.2⟩
  · have hn := spec_nn (mayB_iff.1 hm).2.2
    exact here_mono hn.1 hn.2.1 h hh
theorem find_free {g : List Thing} {free : List Int} {s : Spec} {n : Int} (hn : n ∈ (findL g free s).1) : n ∈ free := by
  cases h : (findL g free s).2 with
  | false => rw [findL_no h] at hn; cases hn
  | true =>
    have hm := mayB_iff.1 (findL_ok.1 h).1
    have hs := spec_nn hm.2.2
    rw [(findL_yes h).1, outTo_mem hm.1 (Nat.le_refl _)] at hn
    obtain ⟨u, _, hh⟩ := hn
    exact (here_mem hm.1 hs.1 hs.2.1 hh).1
theorem find_apart {g : List Thing} {free : List Int} {s t : Spec} (hf : isSet free = true) : apartB (findL g free s).1 (findL g (lessL free (findL g free s).1) t).1 = true := by
  rw [apartB_iff (findL_set _ _ _) (findL_set _ _ _)]
  intro n h1 h2
  have h3 := find_free h2
  rw [lessL_mem hf (findL_set _ _ _)] at h3
  exact h3.2 h1
theorem suits_left {g : List Thing} {free l : List Int} {t : Spec} (hg : isGraph g = true) (hf : isSet free = true) (hl : isSet l = true) {a : Nat} (ha : a < g.length) (h2 : (th g a).kind = 2) (hap : apartB l (underL g a) = true) : suitsL g (lessL free l) t a = suitsL g free t a := by
  rw [suits_at ha, suits_at ha]
  have e : mayB g (lessL free l) t = mayB g free t := by unfold mayB; rw [hf, lessL_set]
  rw [e, here_congr (a := lessL free l) (b := free)]
  intro n hn
  rw [← under_node hg ha h2] at hn
  rw [apartB_iff hl (underL_set _ _)] at hap
  rw [lessL_mem hf hl]
  exact ⟨fun h => h.1, fun h => ⟨h, fun h3 => hap n h3 hn⟩⟩
/-! ### What is got -/
theorem could_of {g : List Thing} {free : List Int} {s : Spec} (h : (findL g free s).2 = true) : couldB g s = true := by
  have hk := findL_ok.1 h
  have hm := mayB_iff.1 hk.1
  have hs := spec_nn hm.2.2
  have hl := isGraph_len hm.1
  unfold couldB
  rw [findL_ok]
  have hmono : manyTo g free s g.length ≤ manyTo g (underL g 0) s g.length := manyTo_mono fun u hu hh => by
    have h1 := (here_ok hs.1 hs.2.1).1 hh
    have hin : ∀ k : Int, 0 ≤ k → k < g.length → k ∈ underL g 0 := fun k h0 h1 => by
      rw [underL_mem]; exact ⟨thereB_iff.2 ⟨by omega, by omega, hm.1⟩, h0, h1, inU_root hm.1 (by omega)⟩
    have hc : ∀ k, (ofKind g free k (kidsL g u)).length ≤ (ofKind g (underL g 0) k (kidsL g u)).length := fun k => by
      unfold ofKind
      rw [← List.countP_eq_length_filter, ← List.countP_eq_length_filter]
      refine List.countP_mono_left fun x hx hx2 => ?_
      simp only [Bool.and_eq_true, decide_eq_true_eq, beq_iff_eq] at hx2 ⊢
      have := kidsL_iff.1 hx
      exact ⟨hin x this.1 this.2.1, hx2.2⟩
    refine (here_ok hs.1 hs.2.1).2 ⟨?_, Int.le_trans h1.2.1 (by have := hc 3; omega), Int.le_trans h1.2.2.1 (by have := hc 4; omega), fun _ n hn => ?_⟩
    · have := nodeOk_iff.1 h1.1
      exact nodeOk_iff.2 ⟨this.1, hin u (by omega) (by omega), this.2.2⟩
    · have := kidsL_iff.1 hn; exact hin n this.1 this.2.1
  exact ⟨mayB_iff.2 ⟨hm.1, underL_set _ _, hm.2.2⟩, by omega⟩
theorem find_partB {g : List Thing} {free : List Int} {s : Spec} (hf : isSet free = true) : partB (findL g free s).1 free = true := by
  rw [partB_iff (findL_set _ _ _) hf]; exact fun n hn => find_free hn
theorem find_many {g : List Thing} {free : List Int} {s : Spec} (h : (findL g free s).2 = true) : s.nodes ≤ (manyL g free s : Int) := by
  have hk := findL_ok.1 h
  unfold manyL; rw [if_pos hk.1]; exact hk.2
theorem find_few {g : List Thing} {free : List Int} {s : Spec} (h : (findL g free s).2 = false) (hs : isSpec s = true) : (manyL g free s : Int) < s.nodes := by
  have hn := spec_nn hs
  unfold manyL
  cases hm : mayB g free s with
  | false => simp; omega
  | true =>
    simp only [if_true]
    have := mt (findL_ok (g := g) (free := free) (s := s)).2 (by rw [h]; simp)
    by_cases hh : s.nodes ≤ (manyTo g free s g.length : Int)
    · exact (this ⟨hm, hh⟩).elim
    · omega
/-- What is got in a node that is taken. -/
def gotL (g : List Thing) (free : List Int) (s : Spec) (a : Nat) : List Int := if a ∈ selN g free s then (hereL g free s a).1 else []
theorem meet_got {g : List Thing} {free : List Int} {s : Spec} (h : (findL g free s).2 = true) {a : Nat} (ha : a < g.length) (h2 : (th g a).kind = 2) : meetL (findL g free s).1 (underL g a) = gotL g free s a := by
  have hm := mayB_iff.1 (findL_ok.1 h).1
  rw [(findL_yes h).1]
  exact meet_sel hm.1 hm.2.2 ha h2
theorem spec_some {s : Spec} (h : isSpec s = true) : s.whole = true ∨ 0 < s.cores ∨ 0 < s.gpus := by
  unfold isSpec at h
  simp only [Bool.and_eq_true, Bool.or_eq_true, decide_eq_true_eq] at h
  rcases h.1.1.1.2 with (h | h) | h
  · exact .inl h
  · exact .inr (.inl h)
  · exact .inr (.inr h)
theorem cnt_join {g : List Thing} (hg : isGraph g = true) {free : List Int} {s : Spec} {a : Nat} {k : Int} : cnt g (joinL (coresL g free s a) (gpusL g free s a)) k = (if k = 3 then (coresL g free s a).length else 0) + (if k = 4 then (gpusL g free s a).length else 0) := by
  have hperm : (joinL (coresL g free s a) (gpusL g free s a)).Perm (coresL g free s a ++ gpusL g free s a) := by
    have nd : ∀ {l : List Int}, isSet l = true → l.Nodup := fun h => ((isSet_iff.1 h).1).imp (fun h => by omega)
    rw [List.perm_ext_iff_of_nodup (nd (joinL_set _ _))]
    · intro n; rw [joinL_mem (coresL_set hg _ _ _) (gpusL_set hg _ _ _), List.mem_append]
    · rw [List.nodup_append]
      refine ⟨nd (coresL_set hg _ _ _), nd (gpusL_set hg _ _ _), fun x hx y hy e => ?_⟩
      subst e
      have h1 := (cores_sub hx).2.2
      have h2 := (gpus_sub hy).2.2
      omega
  unfold cnt
  rw [(hperm.filter _).length_eq, List.filter_append, List.length_append]
  have h3 : ((coresL g free s a).filter fun n : Int => decide (n < g.length) && (th g n.toNat).kind == k) = if k = 3 then coresL g free s a else [] := by
    by_cases hk : k = 3
    · subst hk
      rw [if_pos rfl, List.filter_eq_self]
      intro n hn
      have := cores_sub hn
      have h5 := kidsL_iff.1 this.1
      simp [this.2.2, h5.2.1]
    · rw [if_neg hk, List.filter_eq_nil_iff]
      intro n hn
      have := cores_sub hn
      simp only [Bool.and_eq_true, beq_iff_eq, decide_eq_true_eq, not_and]
      intro _ h5; omega
  have h4 : ((gpusL g free s a).filter fun n : Int => decide (n < g.length) && (th g n.toNat).kind == k) = if k = 4 then gpusL g free s a else [] := by
    by_cases hk : k = 4
    · subst hk
      rw [if_pos rfl, List.filter_eq_self]
      intro n hn
      have := gpus_sub hn
      have h5 := kidsL_iff.1 this.1
      simp [this.2.2, h5.2.1]
    · rw [if_neg hk, List.filter_eq_nil_iff]
      intro n hn
      have := gpus_sub hn
      simp only [Bool.and_eq_true, beq_iff_eq, decide_eq_true_eq, not_and]
      intro _ h5; omega
  rw [h3, h4]
  split <;> split <;> simp
theorem cores_len {g : List Thing} {free : List Int} {s : Spec} {a : Nat} (hs : isSpec s = true) (h : (hereL g free s a).2 = true) : ((coresL g free s a).length : Int) = s.cores ∧ ((gpusL g free s a).length : Int) = s.gpus := by
  have hn := spec_nn hs
  have ho := (here_ok hn.1 hn.2.1).1 h
  unfold coresL gpusL
  rw [List.length_take, List.length_take]; omega
theorem cnt_under {g : List Thing} (hg : isGraph g = true) {free : List Int} {s : Spec} {a : Nat} {k : Int} (hk : k = 3 ∨ k = 4) (hs : isSpec s = true) : ((ofKind g free k (kidsL g a)).length : Int) ≤ cnt g ((a : Int) :: kidsL g a) k := by
  have h1 : (ofKind g free k (kidsL g a)).length ≤ cnt g ((a : Int) :: kidsL g a) k := by
    unfold cnt ofKind
    have h2 : ((kidsL g a).filter fun n => decide (n ∈ free) && (th g n.toNat).kind == k).length ≤ ((kidsL g a).filter fun n : Int => decide (n < g.length) && (th g n.toNat).kind == k).length := by
      rw [← List.countP_eq_length_filter, ← List.countP_eq_length_filter]
      refine List.countP_mono_left fun x hx hx2 => ?_
      simp only [Bool.and_eq_true, decide_eq_true_eq, beq_iff_eq] at hx2 ⊢
      exact ⟨(kidsL_iff.1 hx).2.1, hx2.2⟩
    rw [List.filter_cons]
    split
    · simp only [List.length_cons]; omega
    · exact h2
  omega
/-- The facts of what is got in a node that is taken: not empty, whole or as many as were asked for. -/
theorem got_facts {g : List Thing} {free : List Int} {s : Spec} (h : (findL g free s).2 = true) {a : Nat} (ha : a < g.length) (h2 : (th g a).kind = 2) (hsel : a ∈ selN g free s) :
    suitsL g free s a = true ∧ 0 < (gotL g free s a).length ∧ (s.whole = true → gotL g free s a = underL g a) ∧
    (s.whole = false → (cnt g (gotL g free s a) 3 : Int) = s.cores ∧ (cnt g (gotL g free s a) 4 : Int) = s.gpus ∧ cnt g (gotL g free s a) 2 = 0) ∧
    s.cores ≤ (cnt g (gotL g free s a) 3 : Int) ∧ s.gpus ≤ (cnt g (gotL g free s a) 4 : Int) := by
  have hk := (findL_ok.1 h).1
  have hm := mayB_iff.1 hk
  have hh := (selTo_mem hsel).2
  have hn := spec_nn hm.2.2
  have ho := (here_ok hn.1 hn.2.1).1 hh
  have hg : gotL g free s a = (hereL g free s a).1 := by unfold gotL; rw [if_pos hsel]
  rw [hg]
  refine ⟨by rw [suits_at ha, hk, hh]; rfl, ?_⟩
  cases hw : s.whole with
  | true =>
    rw [here_whole hh hw]
    have c3 := cnt_under hm.1 (free := free) (a := a) (k := 3) (.inl rfl) hm.2.2
    have c4 := cnt_under hm.1 (free := free) (a := a) (k := 4) (.inr rfl) hm.2.2
    exact ⟨by simp, fun _ => (under_node hm.1 ha h2).symm, fun h => (by cases h), by omega, by omega⟩
  | false =>
    rw [here_part hh hw]
    have cl := cores_len hm.2.2 hh
    have j3 := cnt_join hm.1 (free := free) (s := s) (a := a) (k := 3)
    have j4 := cnt_join hm.1 (free := free) (s := s) (a := a) (k := 4)
    have j2 := cnt_join hm.1 (free := free) (s := s) (a := a) (k := 2)
    simp at j3 j4 j2
    have hpos : 0 < (joinL (coresL g free s a) (gpusL g free s a)).length := by
      have h5 := spec_some hm.2.2
      rw [hw] at h5
      have hle3 := cnt_le g (joinL (coresL g free s a) (gpusL g free s a)) 3
      have hle4 := cnt_le g (joinL (coresL g free s a) (gpusL g free s a)) 4
      rcases h5 with h5 | h5 | h5
      · cases h5
      · omega
      · omega
    refine ⟨hpos, fun h => (by cases h), fun _ => ⟨by omega, by omega, ?_⟩, by omega, by omega⟩
    exact j2
theorem kinds_set9 {g : List Thing} (hg : isGraph g = true) {l : List Int} (hl : isSet l = true) : kindsL g l = [((cnt g l 0 : Nat) : Int), ((cnt g l 1 : Nat) : Int), ((cnt g l 2 : Nat) : Int), ((cnt g l 3 : Nat) : Int), ((cnt g l 4 : Nat) : Int)] := by
  unfold kindsL; rw [if_pos ⟨hg, hl⟩]; rfl
theorem got_set {g : List Thing} (hg : isGraph g = true) {free : List Int} {s : Spec} {a : Nat} (ha : a < g.length) : isSet (gotL g free s a) = true := by
  unfold gotL; split
  · exact here_set hg ha _ _
  · rfl
@[go_sem] theorem inPart_nodes (s : Spec) (b : Bool) : (inPart s b).nodes = s.nodes := rfl
@[go_sem] theorem noTag_nodes (s : Spec) : (noTag s).nodes = s.nodes := rfl
@[go_sem] theorem inPart_cores (s : Spec) (b : Bool) : (inPart s b).cores = s.cores := rfl
@[go_sem] theorem noTag_cores (s : Spec) : (noTag s).cores = s.cores := rfl
@[go_sem] theorem inPart_gpus (s : Spec) (b : Bool) : (inPart s b).gpus = s.gpus := rfl
@[go_sem] theorem noTag_gpus (s : Spec) : (noTag s).gpus = s.gpus := rfl
@[go_sem] theorem inPart_tag (s : Spec) (b : Bool) : (inPart s b).tag = s.tag := rfl
@[go_sem] theorem noTag_tag (s : Spec) : (noTag s).tag = ⟨#[]⟩ := rfl
@[go_sem] theorem inPart_whole (s : Spec) (b : Bool) : (inPart s b).whole = b := rfl
@[go_sem] theorem noTag_whole (s : Spec) : (noTag s).whole = s.whole := rfl
@[go_sem] theorem inPart_long (s : Spec) (b : Bool) : (inPart s b).long = s.long := rfl
@[go_sem] theorem noTag_long (s : Spec) : (noTag s).long = s.long := rfl
@[go_sem] theorem inPart_prio (s : Spec) (b : Bool) : (inPart s b).prio = s.prio := rfl
@[go_sem] theorem noTag_prio (s : Spec) : (noTag s).prio = s.prio := rfl
end Go.Proofs.YtinhfnbmgmociaaGreatDoor.Ab
