/- Layer 20: checks, bytes.Clone, bytes.Equal, the next entry. -/
import Derived.Test.YtpnfmaphlfobpaaLoP
import Derived.Test.YtpnfmaphlfobpaaTy
import Derived.Test.YtpnfmaphlfobpaaAbT
import Derived.Laws.BytesArg
namespace Go.Proofs.Ytpnfmaphlfobpaa.Ab
open Go.RowKit LogP
set_option linter.unusedVariables false
set_option linter.unusedSimpArgs false

def orI (x y : Int) : Int := IntKind.i64.wrap (BitVec.ofInt IntKind.i64.bits x ||| BitVec.ofInt IntKind.i64.bits y).toNat
theorem ibin_orI (x y : Int) : ibin .or .i64 x y = some (.int .i64 (orI x y)) := rfl
attribute [go_sem ↓] ibin_orI
theorem or_i64 {y x : Int} (h0 : 0 ≤ y) (h1 : y < 1099511627776) (h2 : 0 ≤ x) (h3 : x < 256) : orI (y * 256) x = y * 256 + x := by
  unfold orI
  have e1 : (BitVec.ofInt IntKind.i64.bits (y * 256)).toNat = 2 ^ 8 * y.toNat := by
    rw [BitVec.toNat_ofInt]; simp only [IntKind.bits]; omega
  have e2 : (BitVec.ofInt IntKind.i64.bits x).toNat = x.toNat := by
    rw [BitVec.toNat_ofInt]; simp only [IntKind.bits]; omega
  rw [BitVec.toNat_or, e1, e2, ← Nat.two_pow_add_eq_or_of_lt (by omega), i64w] <;> omega

theorem ckp_snoc (l : List Int) (i : Nat) (h : i < l.length) : ckp (l.take (i + 1)) = LogP.st (ckp (l.take i)) l[i] := by
  unfold ckp
  rw [List.take_succ_eq_append_getElem h, List.foldl_append]
  rfl
theorem Check_c (l : List Int) (hB : Bs l) (hl : l.length ≤ 140737488355328) : ACalls Try.prog 15 [bytesV l] (· = .one (.sv (iv (ck l)))) := by
  refine ACalls.of_bodyS (fun _ _ => Try.call15 _ _) Try.func15 rfl Try.ntmps15 (by simp) ?_
  refine Tr.ex ?_
  simp [go_sem]
  refine LoopW.of (fun i : Nat => ⟨27, [(2, .sv (iv 0)), (3, .sv (iv (ckp (l.take i)).1)), (4, .sv (iv (ckp (l.take i)).2)), (7, .sv (bytesV l)), (8, .sv (iv l.length)), (9, .sv (iv i))], []⟩)
    (fun i => i ≤ l.length) (fun i => l.length - i) 0 (by omega) (Ent.chk (by simp [go_sem, ckp])) ?_
  intro i hi
  by_cases hlt : i < l.length
  · have hlt' : (i : Int) < l.length := by omega
    obtain ⟨c, hx⟩ : ∃ c, l[i]? = some c := ⟨_, List.getElem?_eq_getElem hlt⟩
    have hw : IntKind.i64.wrap ((i : Int) + 1) = (i : Int) + 1 := by rw [i64w] <;> omega
    have hm := hB _ (List.mem_of_getElem? hx)
    have hr := ckp_rng (l.take i)
    have hs := ckp_snoc l i hlt
    rw [gE hx] at hs
    generalize ckp (l.take i) = p at *
    have hw1 : IntKind.i64.wrap c = c := by rw [i64w] <;> omega
    have hw2 : IntKind.i64.wrap (p.1 + c) = p.1 + c := by rw [i64w] <;> omega
    have hw3 : (p.1 + c).tmod 251 = (p.1 + c) % 251 := Int.tmod_eq_emod_of_nonneg (by omega)
    have hw4 : IntKind.i64.wrap (p.2 + (p.1 + c) % 251) = p.2 + (p.1 + c) % 251 := by rw [i64w] <;> omega
    have hw5 : (p.2 + (p.1 + c) % 251).tmod 251 = (p.2 + (p.1 + c) % 251) % 251 := Int.tmod_eq_emod_of_nonneg (by omega)
    simp [go_sem, hlt, hlt', hx, gE hx, hw1, hw2, hw3, hw4, hw5]
    exact ⟨i + 1, by omega, by omega, Ent.chk (by simp [go_sem, hw, hs, LogP.st])⟩
  · have hil : i = l.length := by omega
    subst hil
    have hr := ckp_rng l
    unfold ck
    rw [List.take_length]
    generalize ckp l = p at *
    have hw1 : IntKind.i64.wrap (p.2 * 256) = p.2 * 256 := by rw [i64w] <;> omega
    have hw2 := or_i64 (y := p.2) (x := p.1) (by omega) (by omega) (by omega) (by omega)
    simp [go_sem, hw1, hw2]
theorem Clone_b (l : List Int) (hl : l.length ≤ 70368744177664) : ACalls Try.prog 17 [bytesV l] (fun r => (l = [] ∧ r = .one .nil) ∨ r = .one (.own 1 (l.map b8))) := by
  refine ACalls.of_body (fun _ _ => Try.call17 _ _) Try.func17 rfl Try.ntmps17 (by simp) ?_
  refine Tr.ex ?_
  simp [go_sem]
  refine OpW.isnil (by decide) rfl rfl (by simp [go_sem]; rfl) (by simp [go_sem]; rfl) (by simp [go_sem]; rfl) (by simp [go_sem]) ?_
  rintro b hnil
  cases b with
  | true =>
    have hnil : l = [] := by simpa using hnil
    simp [go_sem, hnil]
  | false =>
    simp [go_sem]
    omega
theorem Clone_s (l : List Int) (hl : l.length ≤ 70368744177664) : ACalls Try.prog 17 [bytesV l] (· = .one (.sv (bytesV l))) := by
  refine (Clone_b l hl).shr.mono ?_
  rintro r ⟨r', (⟨rfl, rfl⟩ | rfl), rfl⟩
  · rfl
  · rfl
theorem ofB_data (l : List Int) : (ofB l).toList = l.map fun n => UInt8.ofNat n.toNat := by
  rw [ByteArray.toList_eq]
  unfold ofB
  rw [foldl_push_bytes]
  simp
theorem ofB_inj : ∀ {xs ys : List Int}, Bs xs → Bs ys → xs.map (fun n => UInt8.ofNat n.toNat) = ys.map (fun n => UInt8.ofNat n.toNat) → xs = ys
  | [], [], _, _, _ => rfl
  | [], _ :: _, _, _, h => by simp at h
  | _ :: _, [], _, _, h => by simp at h
  | x :: xs, y :: ys, hx, hy, h => by
    simp only [List.map_cons, List.cons.injEq] at h
    have h1 := hx x List.mem_cons_self
    have h2 := hy y List.mem_cons_self
    have e : x = y := by
      have h3 := congrArg UInt8.toNat h.1
      simp only [UInt8.toNat_ofNat'] at h3
      omega
    rw [e, ofB_inj (fun z hz => hx z (List.mem_cons_of_mem _ hz)) (fun z hz => hy z (List.mem_cons_of_mem _ hz)) h.2]
theorem ofB_beq {a b : List Int} (ha : Bs a) (hb : Bs b) : ((ofB a).toList == (ofB b).toList) = decide (a = b) := by
  rw [Bool.eq_iff_iff, beq_iff_eq, decide_eq_true_eq, ofB_data, ofB_data]
  exact ⟨ofB_inj ha hb, fun h => by rw [h]⟩
theorem Equal_c (a b : List Int) (ha : Bs a) (hb : Bs b) : ACalls Try.prog 20 [bytesV a, bytesV b] (· = .one (.sv (bv (decide (a = b))))) := by
  refine ACalls.of_bodyS (fun _ _ => Try.call20 _ _) Try.func20 rfl Try.ntmps20 (by simp) ?_
  refine Tr.ex ?_
  simp [go_sem, ofB_beq ha hb]
theorem two_c (n : Int) (h0 : 0 ≤ n) (h1 : n < 65536) : ACalls Try.prog 18 [iv n] (· = .one (.own 1 ((two n).map b8))) := by
  refine ACalls.of_body (fun _ _ => Try.call18 _ _) Try.func18 rfl Try.ntmps18 (by simp) ?_
  refine Tr.ex ?_
  have hw1 : IntKind.u8.wrap (n.fdiv 256) = n / 256 % 256 := by simp [IntKind.wrap, IntKind.bits, IntKind.signed, Int.fdiv_eq_ediv_of_nonneg]
  have hw2 : IntKind.u8.wrap n = n % 256 := by simp [IntKind.wrap, IntKind.bits, IntKind.signed]
  simp [go_sem, hw1, hw2, two]
theorem two_s (n : Int) (h0 : 0 ≤ n) (h1 : n < 65536) : ACalls Try.prog 18 [iv n] (· = .one (.sv (bytesV (two n)))) := by
  refine (two_c n h0 h1).shr.mono ?_
  rintro r ⟨r', rfl, rfl⟩
  rfl
theorem refCheck_c (l : List Int) (hB : Bs l) (hl : l.length ≤ 140737488355328) : ACalls Try.prog 16 [bytesV l] (· = .one (.sv (iv (ck l)))) := by
  refine ACalls.of_bodyS (fun _ _ => Try.call16 _ _) Try.func16 rfl Try.ntmps16 (by simp) ?_
  refine Tr.ex ?_
  simp [go_sem]
  refine LoopW.of (fun i : Nat => ⟨34, [(0, .sv (bytesV l)), (2, .sv (iv 0)), (3, .sv (iv (ckp (l.take i)).1)), (4, .sv (iv (ckp (l.take i)).2)), (5, .sv (iv i))], []⟩)
    (fun i => i ≤ l.length) (fun i => l.length - i) 0 (by omega) (Ent.chk (by simp [go_sem, ckp])) ?_
  intro i hi
  by_cases hlt : i < l.length
  · have hlt' : (i : Int) < l.length := by omega
    obtain ⟨c, hx⟩ : ∃ c, l[i]? = some c := ⟨_, List.getElem?_eq_getElem hlt⟩
    have hw : IntKind.i64.wrap ((i : Int) + 1) = (i : Int) + 1 := by rw [i64w] <;> omega
    have hm := hB _ (List.mem_of_getElem? hx)
    have hr := ckp_rng (l.take i)
    have hs := ckp_snoc l i hlt
    rw [gE hx] at hs
    generalize ckp (l.take i) = p at *
    have hw1 : IntKind.i64.wrap c = c := by rw [i64w] <;> omega
    have hw2 : IntKind.i64.wrap (p.1 + c) = p.1 + c := by rw [i64w] <;> omega
    simp [go_sem, hlt, hlt', hx, gE hx, hw1, hw2]
    refine LoopW.of (fun j : Nat => ⟨34, [(0, .sv (bytesV l)), (2, .sv (iv 0)), (3, .sv (iv (p.1 + c - 251 * j))), (4, .sv (iv p.2)), (5, .sv (iv i))], []⟩)
      (fun j => 251 * (j : Int) ≤ p.1 + c) (fun j => 2000 - j) 0 (by omega) (Ent.chk (by simp [go_sem])) ?_
    intro j hj
    by_cases hge : 251 ≤ p.1 + c - 251 * j
    · have hw3 : IntKind.i64.wrap (p.1 + c - 251 * j - 251) = p.1 + c - 251 * ((j : Int) + 1) := by rw [i64w] <;> omega
      simp [go_sem, hge]
      exact ⟨j + 1, by push_cast; omega, by omega, Ent.chk (by simp [go_sem, hw3])⟩
    · have hq : p.1 + c - 251 * j = (p.1 + c) % 251 := by omega
      have hw4 : IntKind.i64.wrap (p.2 + (p.1 + c) % 251) = p.2 + (p.1 + c) % 251 := by rw [i64w] <;> omega
      have hs1 : (LogP.st p c).1 = (p.1 + c) % 251 := rfl
      have hs2 : (LogP.st p c).2 = (p.2 + (p.1 + c) % 251) % 251 := rfl
      rw [← hq] at hs1 hs2 hw4
      have hq0 : 0 ≤ p.1 + c - 251 * j ∧ p.1 + c - 251 * j < 251 := by omega
      generalize p.1 + c - 251 * (j : Int) = q at *
      simp [go_sem, hge, hw4]
      refine LoopW.of (fun j : Nat => ⟨34, [(0, .sv (bytesV l)), (2, .sv (iv 0)), (3, .sv (iv q)), (4, .sv (iv (p.2 + q - 251 * j))), (5, .sv (iv i))], []⟩)
        (fun j => 251 * (j : Int) ≤ p.2 + q) (fun j => 2000 - j) 0 (by omega) (Ent.chk (by simp [go_sem])) ?_
      intro k hk
      by_cases hge2 : 251 ≤ p.2 + q - 251 * k
      · have hw3 : IntKind.i64.wrap (p.2 + q - 251 * k - 251) = p.2 + q - 251 * ((k : Int) + 1) := by rw [i64w] <;> omega
        simp [go_sem, hge2]
        exact ⟨k + 1, by push_cast; omega, by omega, Ent.chk (by simp [go_sem, hw3])⟩
      · have hq2 : p.2 + q - 251 * k = (p.2 + q) % 251 := by omega
        simp [go_sem, hge2]
        exact ⟨i + 1, by omega, by omega, Ent.chk (by simp [go_sem, hw, hs, hs1, hs2, hq2])⟩
  · have hil : i = l.length := by omega
    subst hil
    have hr := ckp_rng l
    unfold ck
    rw [List.take_length]
    generalize ckp l = p at *
    have hw1 : IntKind.i64.wrap (p.2 * 256) = p.2 * 256 := by rw [i64w] <;> omega
    have hw2 : IntKind.i64.wrap (p.2 * 256 + p.1) = p.2 * 256 + p.1 := by rw [i64w] <;> omega
    simp [go_sem, hw1, hw2]
instance (l : List Int) : Decidable (nok l) := by unfold nok; infer_instance
def nextL (l : List Int) : List Int × Int := if nok l then ((l.take (nlen l + 2).toNat).drop 2, nlen l + 4) else ([], 0)
set_option maxRecDepth 100000 in
theorem next_c (l : List Int) (hB : Bs l) (hl : l.length ≤ 70368744177664) : ACalls Try.prog 19 [bytesV l] (· = .many [.sv (bytesV (nextL l).1), .sv (iv (nextL l).2)]) := by
  refine ACalls.of_bodyS (fun _ _ => Try.call19 _ _) Try.func19 rfl Try.ntmps19 (by simp) ?_
  refine Tr.ex ?_
  by_cases h0 : (l.length : Int) < 2
  · have hn : ¬ nok l := fun h => by have := h.1; omega
    simp [go_sem, h0, nextL, hn]
  have h0' : 1 < l.length := by omega
  obtain ⟨a, b, l', rfl⟩ : ∃ a b l', l = a :: b :: l' := by
    match l, h0' with
    | a :: b :: l', _ => exact ⟨a, b, l', rfl⟩
  have ha := hB a (by simp)
  have hb := hB b (by simp)
  have hw1 : IntKind.i64.wrap a = a := by rw [i64w] <;> omega
  have hw2 : IntKind.i64.wrap b = b := by rw [i64w] <;> omega
  have hw3 : IntKind.i64.wrap (a * 256) = a * 256 := by rw [i64w] <;> omega
  have hw4 := or_i64 (y := a) (x := b) (by omega) (by omega) (by omega) (by omega)
  have hnl : nlen (a :: b :: l') = a * 256 + b := rfl
  generalize hll : a :: b :: l' = l at *
  have hg0 : l[0]? = some a := by rw [← hll]; rfl
  have hg1 : l[1]? = some b := by rw [← hll]; rfl
  simp [go_sem, h0]
  refine DrawW.rd rfl ?_
  have h0i : (1 : Int) < l.length := by omega
  rw [← hnl] at hw4
  simp [go_sem, hg0, hg1, gE hg0, gE hg1, hw1, hw2, hw3, hw4, h0', h0i, show 0 < l.length by omega]
  refine ⟨by kernel_rfl, ?_⟩
  have hN : 0 ≤ nlen l ∧ nlen l < 65536 := by omega
  have hw5 : IntKind.i64.wrap (2 + nlen l) = nlen l + 2 := by rw [i64w] <;> omega
  have hw6 : IntKind.i64.wrap (nlen l + 2 + 2) = nlen l + 4 := by rw [i64w] <;> omega
  simp only [hw5]
  refine DrawW.rd rfl ?_
  unfold nextL
  by_cases h1 : nlen l < 1
  · have hn : ¬ nok l := fun h => by have := h.2.1; omega
    simp [go_sem, h1, hn]
    show _ = true
    kernel_rfl
  by_cases h2 : 4096 < nlen l
  · have hn : ¬ nok l := fun h => by have := h.2.2.1; omega
    simp [go_sem, h1, h2, hn]
    show _ = true
    kernel_rfl
  by_cases h3 : (l.length : Int) < nlen l + 4
  · have hn : ¬ nok l := fun h => by have := h.2.2.2.1; omega
    simp [go_sem, h1, h2, h3, hw6, hn]
    show _ = true
    kernel_rfl
  have hk := ck_rng (l.take (nlen l + 2).toNat)
  simp [go_sem, h1, h2, h3, hw6, show 0 ≤ nlen l + 2 by omega, show nlen l + 2 ≤ l.length by omega]
  refine OpD.call true (Check_c (l.take (nlen l + 2).toNat) (hB.take _) (by simp; omega)) rfl rfl (by simp [go_sem]) (by intro _; simp [go_sem]) (by simp [go_sem]) (by simp [go_sem]) ?_
  simp [go_sem]
  refine OpD.call false (two_s _ hk.1 hk.2) rfl rfl (by simp [go_sem]) (fun h => by cases h) (by simp [go_sem]) (by simp [go_sem]) ?_
  simp [go_sem, hw6, show 0 ≤ nlen l + 2 by omega, show nlen l + 2 ≤ nlen l + 4 by omega, show nlen l + 4 ≤ l.length by omega]
  refine OpD.call true (Equal_c (two (ck (l.take (nlen l + 2).toNat))) ((l.take (nlen l + 4).toNat).drop (nlen l + 2).toNat) (two_bs _) ((hB.take _).drop _)) rfl rfl (by simp [go_sem]) (by intro _; simp [go_sem]) (by simp [go_sem]) (by simp [go_sem]) ?_
  by_cases hc : two (ck (l.take (nlen l + 2).toNat)) = (l.take (nlen l + 4).toNat).drop (nlen l + 2).toNat
  · have hn : nok l := ⟨by omega, by omega, by omega, by omega, hc⟩
    simp [go_sem, hc, hn]
    refine ⟨by kernel_rfl, ?_⟩
    simp [go_sem, hw6, show 2 ≤ nlen l + 2 by omega, show nlen l + 2 ≤ l.length by omega]
    refine OpW.fn false (Clone_s ((l.take (nlen l + 2).toNat).drop 2) (by simp; omega)) rfl rfl (by simp [go_sem]) (fun h => by cases h) ?_
    rintro r rfl
    simp [go_sem, hw6]
  · have hn : ¬ nok l := fun h => hc h.2.2.2.2
    simp [go_sem, hc, hn]
    show _ = true
    kernel_rfl
end Go.Proofs.Ytpnfmaphlfobpaa.Ab
