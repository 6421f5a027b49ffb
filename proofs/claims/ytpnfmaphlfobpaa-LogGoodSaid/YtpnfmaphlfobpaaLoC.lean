/- Layer 20: the fixed answer. -/
import Derived.Test.YtpnfmaphlfobpaaLoB
import Derived.Test.YtpnfmaphlfobpaaAbU
namespace Go.Proofs.Ytpnfmaphlfobpaa.Ab
open Go.RowKit LogP
set_option linter.unusedVariables false
set_option linter.unusedSimpArgs false
theorem awake20_c : ACalls Try.prog 8 [] (· = .one (.sv (bv true))) := by
  refine ACalls.of_bodyS (fun _ _ => Try.call8 _ _) Try.func8 rfl Try.ntmps8 (by simp) ?_
  refine Tr.ex ?_
  have ha : Bs [97] := by intro x hx; simp at hx; omega
  have h1 : Bs [1] := by intro x hx; simp at hx; omega
  have he : enc [97] = [0, 1, 97, 102, 99] := by decide +kernel
  have hc : ck [1] = 514 := by decide +kernel
  have hR : LogP.Rd ([0, 1, 97, 102, 99] ++ [7]) [[97]] 5 := by
    have := (LogP.Rd.enc_one (e := [97]) (by decide) (by decide)).joins (by simp [enc_len]) (stop_nil (l := [7]) (by decide))
    simpa [he] using this
  simp [go_sem]
  refine OpW.mark rfl rfl (by simp [go_sem]; rfl) (by simp [go_sem]; rfl) (by simp) (by simp [go_sem]; rfl) (by simp [go_sem]) (by simp [go_sem]) ?_
  simp [go_sem]
  refine OpW.fnH false (Add_o [] [97] Bs.nil ha (by simp) (by simp) (by simp)) rfl rfl (by simp [go_sem]) (fun h => by cases h) ?_
  rintro r rfl
  simp [go_sem, he]
  refine HaltW.one (by simp [go_sem]) (by simp [go_sem]; rfl) trivial (by simp [go_sem]) ?_
  refine RnK.fix (d := 1) (t := 8) (sz := 1) (xs := [0, 1, 97, 102, 99].map b8) (by simp [go_sem]) (by simp [go_sem]) fun a c => ?_
  simp [go_sem]
  refine OpW.frz 14 ?_
  refine OpW.fn false (Read_c ([0, 1, 97, 102, 99] ++ [7]) (by intro x hx; simp at hx; omega) (by simp) hR) rfl rfl (by simp [go_sem]) (fun h => by cases h) ?_
  rintro r rfl
  simp [go_sem]
  refine OpW.lenv (a := a) (n := 5) (c := c) rfl (by simp [go_sem]) (by simp [go_sem]) (by simp [go_sem]; rfl) (by simp [go_sem]) ?_
  have hs : ((ofB [97]).toList == [97]) = true := by rw [ofB_data]; rfl
  simp [go_sem, hs]
  refine OpW.fn true (Check_c [1] h1 (by simp)) rfl rfl (by simp [go_sem]) (by rintro _ r rfl; simp [go_sem]) ?_
  rintro r rfl
  rw [hc]
  simp [go_sem]

/-! ### The laws -/
theorem mn5 (n : Nat) : (if (5000 : Int) < n then (5000 : Int) else n) = ((min n 5000 : Nat) : Int) := by split <;> omega
set_option maxRecDepth 100000 in
set_option maxHeartbeats 2000000 in
theorem LogRight_c (b0 e0 : List Int) (hB0 : Bs b0) (hE0 : Bs e0) (hb : b0.length ≤ 140737488355328) (he : e0.length ≤ 140737488355328) : ACalls Try.prog 5 [bytesV b0, bytesV e0] (· = .one (.sv (bv true))) := by
  refine ACalls.of_bodyS (fun _ _ => Try.call5 _ _) Try.func5 rfl Try.ntmps5 (by simp) ?_
  refine Tr.ex ?_
  simp [go_sem]
  refine OpW.fn true awake20_c rfl rfl (by simp [go_sem]) (by rintro _ r rfl; simp [go_sem]) ?_
  rintro r rfl
  simp [go_sem]
  refine DrawW.rd rfl ?_
  obtain ⟨b, hb'⟩ : ∃ b, b = b0.take (min b0.length 5000) := ⟨_, rfl⟩
  obtain ⟨e, he'⟩ : ∃ e, e = e0.take (min e0.length 5000) := ⟨_, rfl⟩
  have hbm : (b0.map b8).take (min b0.length 5000) = b.map b8 := by rw [hb']; simp
  have hem : (e0.map b8).take (min e0.length 5000) = e.map b8 := by rw [he']; simp
  have hB : Bs b := by rw [hb']; exact hB0.take _
  have hE : Bs e := by rw [he']; exact hE0.take _
  have hbl : b.length ≤ 5000 := by rw [hb', List.length_take]; omega
  have hel : e.length ≤ 5000 := by rw [he', List.length_take]; omega
  have q1 : ((min b0.length 5000 : Nat) : Int) ≤ b0.length := by omega
  have q2 : ((min e0.length 5000 : Nat) : Int) ≤ e0.length := by omega
  have mb := mn5 b0.length
  have me := mn5 e0.length
  generalize min b0.length 5000 = m1 at *
  generalize min e0.length 5000 = m2 at *
  simp [go_sem, mb, me, hbm, hem, q1, q2]
  refine ⟨by kernel_rfl, ?_⟩
  clear hb' he' hbm hem hB0 hE0 mb me
  obtain ⟨es, n, hR⟩ := LogP.Rd.total _ b (Nat.le_refl _)
  have hle := hR.le
  refine OpW.fn false (Read_c b hB (by omega) hR) rfl rfl (by simp [go_sem]) (fun h => by cases h) ?_
  rintro r rfl
  simp [go_sem]
  refine OpW.fn false (refRead_c b hB (by omega) hR) rfl rfl (by simp [go_sem]) (fun h => by cases h) ?_
  rintro r rfl
  simp [go_sem]
  refine OpW.fn false (Add_c b e hB hE (by omega) (by omega)) rfl rfl (by simp [go_sem]) (fun h => by cases h) ?_
  rintro r rfl
  simp [go_sem]
  refine OpW.fn false (refAdd_c b e hB hE (by omega) (by omega)) rfl rfl (by simp [go_sem]) (fun h => by cases h) ?_
  rintro r rfl
  simp [go_sem]
  have haB : Bs (addL b e).1 := by
    unfold addL
    split
    · exact hB
    · exact hB.append (enc_bs hE)
  generalize addL b e = q at *
  obtain ⟨a1, a2⟩ := q
  have heB := hR.bs hB
  obtain ⟨g, hg⟩ : ∃ g, g = b.take n := ⟨_, rfl⟩
  have hgm : (b.map b8).take n = g.map b8 := by rw [hg]; simp
  refine DrawW.rd rfl ?_
  simp [go_sem]
  refine OpD.call true (Same_c es es heB heB (by omega) (by omega)) rfl rfl (by simp [go_sem]) (by intro _; simp [go_sem]) (by simp [go_sem]) (by simp [go_sem]) ?_
  simp [go_sem]
  refine OpD.call false (Good_c b hB (by omega) hR) rfl rfl (by simp [go_sem]) (fun h => by cases h) (by simp [go_sem]) (by simp [go_sem]) ?_
  have hle2 : (n : Int) ≤ b.length := by omega
  simp [go_sem, hgm, hle.1, hle2]
  refine OpD.call true (Check_c b hB (by omega)) rfl rfl (by simp [go_sem]) (by intro _; simp [go_sem]) (by simp [go_sem]) (by simp [go_sem]) ?_
  simp [go_sem]
  refine OpD.call true (refCheck_c b hB (by omega)) rfl rfl (by simp [go_sem]) (by intro _; simp [go_sem]) (by simp [go_sem]) (by simp [go_sem]) ?_
  simp [go_sem]
  show _ = true
  kernel_rfl
set_option maxRecDepth 100000 in
set_option maxHeartbeats 4000000 in
theorem LogGood_c (b0 e : List Int) (hB0 : Bs b0) (hE : Bs e) (hb : b0.length ≤ 140737488355328) (he : e.length ≤ 140737488355328) : ACalls Try.prog 6 [bytesV b0, bytesV e] (· = .one (.sv (bv true))) := by
  refine ACalls.of_bodyS (fun _ _ => Try.call6 _ _) Try.func6 rfl Try.ntmps6 (by simp) ?_
  refine Tr.ex ?_
  simp [go_sem]
  refine OpW.fn true awake20_c rfl rfl (by simp [go_sem]) (by rintro _ r rfl; simp [go_sem]) ?_
  rintro r rfl
  simp [go_sem]
  obtain ⟨b, hb'⟩ : ∃ b, b = b0.take (min b0.length 5000) := ⟨_, rfl⟩
  have hbm : (b0.map b8).take (min b0.length 5000) = b.map b8 := by rw [hb']; simp
  have hB : Bs b := by rw [hb']; exact hB0.take _
  have hbl : b.length ≤ 5000 := by rw [hb', List.length_take]; omega
  have q1 : ((min b0.length 5000 : Nat) : Int) ≤ b0.length := by omega
  have mb := mn5 b0.length
  generalize min b0.length 5000 = m1 at *
  try refine DrawW.rd rfl ?_
  simp [go_sem, mb, hbm, q1]
  try refine ⟨by kernel_rfl, ?_⟩
  clear hb' hbm hB0 mb
  obtain ⟨es, n, hR⟩ := LogP.Rd.total _ b (Nat.le_refl _)
  have hle := hR.le
  have hRg := hR.good
  obtain ⟨g, hg⟩ : ∃ g, g = b.take n := ⟨_, rfl⟩
  have hgm : (b.map b8).take n = g.map b8 := by rw [hg]; simp
  have hgl : g.length = n := by rw [hg, List.length_take]; omega
  have hgB : Bs g := by rw [hg]; exact hB.take _
  rw [← hg] at hRg
  have heB := hR.bs hB
  refine OpW.fn false (Good_c b hB (by omega) hR) rfl rfl (by simp [go_sem]) (fun h => by cases h) ?_
  rintro r rfl
  simp [go_sem, hgm]
  refine OpW.fn false (Read_c b hB (by omega) hR) rfl rfl (by simp [go_sem]) (fun h => by cases h) ?_
  rintro r rfl
  simp [go_sem]
  refine OpW.fn false (Read_c g hgB (by omega) hRg) rfl rfl (by simp [go_sem]) (fun h => by cases h) ?_
  rintro r rfl
  simp [go_sem]
  refine DrawW.rd rfl ?_
  have hle2 : (n : Int) ≤ b.length := by omega
  simp [go_sem, hgl, bne]
  refine OpD.call true (Same_c es es heB heB (by omega) (by omega)) rfl rfl (by simp [go_sem]) (by intro _; simp [go_sem]) (by simp [go_sem]) (by simp [go_sem]) ?_
  simp [go_sem, hgl, hgm, hle.1, hle2, bne]
  refine ⟨by kernel_rfl, ?_⟩
  by_cases h1 : (e.length : Int) < 1
  · simp [go_sem, h1]
  by_cases h2 : (100 : Int) < e.length
  · simp [go_sem, h1, h2]
  simp [go_sem, h1, h2]
  have hadd : addL g e = (g ++ enc e, 0) := by unfold addL; rw [if_neg (by omega)]
  refine OpW.fn false (Add_c g e hgB hE (by omega) (by omega)) rfl rfl (by simp [go_sem]) (fun h => by cases h) ?_
  rintro r rfl
  rw [hadd]
  have hRj := hRg.joins hgl.symm (LogP.Rd.enc_one (e := e) (by omega) (by omega))
  have hoB : ∀ x ∈ es ++ [e], Bs x := fun x hx => (List.mem_append.1 hx).elim (heB x) (fun h => by simp at h; subst h; exact hE)
  simp [go_sem]
  refine OpW.fn false (Read_c (g ++ enc e) (hgB.append (enc_bs hE)) (by simp [enc_len]; omega) hRj) rfl rfl (by simp [go_sem]) (fun h => by cases h) ?_
  rintro r rfl
  have w1 : IntKind.i64.wrap ((es.length : Int) + 1) = (es.length : Int) + 1 := by rw [i64w] <;> omega
  have hx : (es ++ [e])[es.length]? = some e := by simp
  have htk : (es.map bytesV ++ [SV.lst (e.map b8)]).take es.length = es.map bytesV := by rw [List.take_left' (by simp)]
  simp [go_sem]
  refine DrawW.rd rfl ?_
  simp [go_sem, w1, hx, htk, and_assoc, show (es.length : Int) < es.length + 1 by omega]
  refine ⟨by omega, by rintro z (⟨a, _, rfl⟩ | rfl) <;> simp, ?_⟩
  refine OpD.call true (Same_c es es heB heB (by omega) (by omega)) rfl rfl (by simp [go_sem]) (by intro _; simp [go_sem]) (by simp [go_sem]) (by simp [go_sem]) ?_
  simp [go_sem]
  show _ = true
  kernel_rfl
end Go.Proofs.Ytpnfmaphlfobpaa.Ab
