/- The law ShareScales. -/
import Derived.Test.YtpjcicbohgcehaaShM
import Derived.Test.YtpjcicbohgcehaaShN
namespace Go.Proofs.Ytpjcicbohgcehaa.Ab
open Go.RowKit Go.Proofs.Ytpjcicbohgcehaa.Fl
set_option linter.unusedVariables false
set_option linter.unusedSimpArgs false
theorem cut_at {α : Type} (g : α → SV) (l : List α) (k : Nat) : List.take (if (k : Int) < l.length then (k : Int) else (l.length : Int)).toNat (l.map g) = (l.take k).map g := by
  rw [List.map_take]
  split
  · rw [Int.toNat_natCast]
  · rename_i h
    rw [Int.toNat_natCast, List.take_of_length_le (by simp), List.take_of_length_le (by simp; omega)]
def othU (who : Int) (u : Use) : Bool := decide (u.who ≠ who)
def othN (l : List Use) (who : Int) : Nat := l.countP (othU who)
theorem othN_take {l : List Use} {who : Int} {i : Nat} {u : Use} (h : l[i]? = some u) : othN (l.take (i + 1)) who = othN (l.take i) who + (if u.who ≠ who then 1 else 0) := by
  have hi := (List.getElem?_eq_some_iff.1 h).1
  unfold othN
  rw [List.take_succ_eq_append_getElem hi, gE h, List.countP_append]
  congr 1
  unfold othU
  by_cases q : u.who ≠ who <;> simp [q]
theorem othN_le (l : List Use) (who : Int) (i : Nat) : othN (l.take i) who ≤ i := by
  unfold othN
  have := List.countP_le_length (p := othU who) (l := l.take i)
  rw [List.length_take] at this
  omega
theorem moreN_oth (l : List Use) (who : Int) (own : Nat) : moreN l who own ≤ othN l who := by
  unfold moreN othN
  refine List.countP_mono_left fun u _ h => ?_
  unfold moreB at h
  unfold othU
  exact decide_eq_true (of_decide_eq_true h).1
theorem bonusN_oth (l : List Use) (who : Int) : bonusN l who ≤ othN l who := by
  unfold bonusN
  split
  · exact moreN_oth _ _ _
  · exact Nat.zero_le _
theorem bonusN_app (l : List Use) (u : Use) : bonusN l u.who ≤ bonusN (l ++ [u]) u.who := by
  unfold bonusN
  split
  · rename_i h
    have e : atU (l ++ [u]) u.who = atU l u.who := by
      unfold atU at *
      rw [List.findIdx_append, if_pos h]
    rw [e, if_pos (by simp; omega)]
    have e2 : uz (l ++ [u]) (atU l u.who : Int) = uz l (atU l u.who : Int) := by
      unfold uz
      rw [List.getElem?_append_left (by omega)]
    rw [e2]
    unfold moreN
    rw [List.countP_append]
    omega
  · exact Nat.zero_le _
theorem addF_ge {s x : Nat} (hs : s < INF) (hx : x < INF) : s ≤ addF s x ∧ x ≤ addF s x := by
  have h1 := near_vl hs
  have h2 := near_vl hx
  have h3 := near_mono (d := 0) (show vl s ≤ vl s + vl x by omega)
  have h4 := near_mono (d := 0) (show vl x ≤ vl s + vl x by omega)
  unfold addF
  omega
set_option maxHeartbeats 4000000 in
set_option maxRecDepth 100000 in
theorem ShareScalesX (had weight more who : Int) (l L : List Use) (a b m a2 b2 am s1 s3 n n2 : Nat) (hhad : FloatKind.nearest .f64 had = a) (hwei : FloatKind.nearest .f64 weight = b) (hmor : FloatKind.nearest .f64 more = m)
    (hL : List.take (if (60 : Int) < l.length then (60 : Int) else (l.length : Int)).toNat (l.map useSV) = L.map useSV) (hLl : L.length ≤ 60)
    (m1 : floatBits .mul .f64 4611686018427387904 a = some a2) (m2 : floatBits .mul .f64 4611686018427387904 b = some b2) (m3 : floatBits .add .f64 a m = some am)
    (f1 : ACalls Try.prog 14 [useSV ⟨0, a, b⟩] (· = .one (.sv (fv s1)))) (f2 : ACalls Try.prog 14 [useSV ⟨0, a2, b2⟩] (· = .one (.sv (fv s1))))
    (f3 : ACalls Try.prog 14 [useSV ⟨0, am, b⟩] (· = .one (.sv (fv s3)))) (fs : ACalls Try.prog 15 [fv s1, fv s1] (· = .one (.sv (bv true)))) (hlt : fLt .f64 s3 s1 = false)
    (f4 : ACalls Try.prog 12 [uses L, iv who] (· = .one (.sv (iv n)))) (f5 : ACalls Try.prog 12 [uses (L ++ [⟨who, 0, 0⟩]), iv who] (· = .one (.sv (iv n2)))) (hn1 : n ≤ othN L who) (hn2 : n ≤ n2) :
    ACalls Try.prog 5 [.val (.int .u32 had), .val (.int .u32 weight), .val (.int .u32 more), uses l, iv who] (· = .one (.sv (bv true))) := by
  refine ACalls.of_bodyS (fun _ _ => Try.call5 _ _) Try.func5 rfl Try.ntmps5 (by simp) ?_
  refine Tr.ex ?_
  simp [go_sem]
  refine OpW.fn true awake15_c rfl rfl (by simp [go_sem]) (by rintro _ r rfl; simp [go_sem]) ?_
  rintro r rfl
  simp [go_sem, hhad, hwei, hmor]
  refine ⟨⟨by split <;> omega, by split <;> omega⟩, ?_⟩
  rw [hL]
  refine DrawW.rd rfl ?_
  simp [go_sem]
  refine OpD.call true f1 rfl rfl (by simp [go_sem]) (by intro _; simp [go_sem]) (by simp [go_sem]) (by simp [go_sem]) ?_
  simp [go_sem, m1, m2]
  refine OpD.buildS rfl rfl (by simp [go_sem]) (by simp [go_sem]; rfl) (by simp [go_sem]; rfl) (by simp [go_sem]; rfl) (by simp [go_sem]) ?_
  simp [go_sem]
  refine OpD.call true f2 rfl rfl (by simp [go_sem]) (by intro _; simp [go_sem]) (by simp [go_sem]) (by simp [go_sem]) ?_
  simp [go_sem]
  refine OpD.call true fs rfl rfl (by simp [go_sem]) (by intro _; simp [go_sem]) (by simp [go_sem]) (by simp [go_sem]) ?_
  simp [go_sem, m3]
  refine OpD.buildS rfl rfl (by simp [go_sem]) (by simp [go_sem]; rfl) (by simp [go_sem]; rfl) (by simp [go_sem]; rfl) (by simp [go_sem]) ?_
  simp [go_sem]
  refine OpD.call true f3 rfl rfl (by simp [go_sem]) (by intro _; simp [go_sem]) (by simp [go_sem]) (by simp [go_sem]) ?_
  simp [go_sem]
  refine OpD.call true f1 rfl rfl (by simp [go_sem]) (by intro _; simp [go_sem]) (by simp [go_sem]) (by simp [go_sem]) ?_
  simp [go_sem, hlt]
  refine ⟨by kernel_rfl, ?_⟩
  refine LoopW.of (fun i : Nat => ⟨93, [(3, .sv (uses L)), (4, .sv (iv who)), (10, .sv (bv false)), (15, .sv (iv (othN (L.take i) who))), (16, .sv (iv i))], []⟩)
    (fun i => i ≤ L.length) (fun i => L.length - i) 0 (by omega) (Ent.chk (by simp [go_sem, othN])) ?_
  intro i hi
  by_cases hlt : i < L.length
  case neg =>
    have hil : i = L.length := by omega
    subst hil
    rw [List.take_length]
    have h0 : (n : Int) ≤ othN L who := by omega
    have h1 : (n : Int) ≤ n2 := by omega
    generalize othN L who = oth at *
    simp [go_sem]
    refine OpW.fn true f4 rfl rfl (by simp [go_sem]) (by rintro _ r rfl; simp [go_sem]) ?_
    rintro r rfl
    simp [go_sem, h0, hn1]
    refine ⟨by omega, by omega, ?_⟩
    refine OpW.fn true f5 rfl rfl (by simp [go_sem]) (by rintro _ r rfl; simp [go_sem]) ?_
    rintro r rfl
    simp [go_sem, h1, hn2]
  case pos =>
  have hlt' : (i : Int) < L.length := by omega
  have hwr : IntKind.i64.wrap ((i : Int) + 1) = (i : Int) + 1 := by rw [i64w] <;> omega
  obtain ⟨u, hu⟩ : ∃ u, L[i]? = some u := ⟨_, List.getElem?_eq_getElem hlt⟩
  have hot := othN_take (who := who) hu
  have hol := othN_le L who i
  have hwc : IntKind.i64.wrap ((othN (L.take i) who : Int) + 1) = (othN (L.take i) who : Int) + 1 := by rw [i64w] <;> omega
  generalize hc' : othN (L.take (i + 1)) who = c' at *
  generalize hc : othN (L.take i) who = c at *
  by_cases q : u.who = who
  · have e : (u.who != who) = false := by simpa using q
    rw [if_neg (by simp [q])] at hot
    simp [go_sem, hlt, hlt', hu, gE hu, e, q]
    exact ⟨i + 1, by omega, by omega, Ent.chk (by simp [go_sem, hwr, hc', hot])⟩
  · have e : (u.who != who) = true := by simpa using q
    rw [if_pos q] at hot
    simp [go_sem, hlt, hlt', hu, gE hu, e, q]
    exact ⟨i + 1, by omega, by omega, Ent.chk (by simp [go_sem, hwr, hwc, hc', hot])⟩
theorem u32_wf {n : Int} (h : (Lit.int .u32 n).wf = true) : 0 ≤ n ∧ n ≤ 4294967295 := by
  simp [Lit.wf] at h
  have e0 : IntKind.u32.min = 0 := by decide
  have e1 : IntKind.u32.max = 4294967295 := by decide
  omega
theorem law_ShareScales (had weight more : Int) (l : List Use) (who : Int) (h0 : (Lit.int .u32 had).wf = true) (h1 : (Lit.int .u32 weight).wf = true) (h2 : (Lit.int .u32 more).wf = true) (h3 : l.length * 24 ≤ 140737488351232 ∧ l.length ≤ maxLen ∧ ∀ x ∈ l, UseOk x) (h4 : (Lit.int .i64 who).wf = true) :
    ACalls Try.prog 5 [SV.val (.int .u32 had), SV.val (.int .u32 weight), SV.val (.int .u32 more), SV.lst (l.map useSV), iv who] (· = .one (.sv (bv true))) := by
  have k0 := u32_wf h0
  have k1 := u32_wf h1
  have k2 := u32_wf h2
  obtain ⟨a1, a2⟩ := cvt_w k0.1 k0.2
  obtain ⟨b1, b2⟩ := cvt_w k1.1 k1.2
  obtain ⟨m1, m2⟩ := cvt_w k2.1 k2.2
  have hlw : UsesW l := fun u hu => (h3.2.2 u hu).w
  have hw' : UsesW (l.take 60) := fun y hy => hlw y (List.mem_of_mem_take hy)
  have htl : (l.take 60).length ≤ 60 := by rw [List.length_take]; omega
  have hW : W32 + B52 < INF := by decide
  have hWb : W32 + B52 < 18446744073709551616 := by decide
  have hbp := b52_pos
  generalize ha : FloatKind.nearest .f64 had = a at *
  generalize hb : FloatKind.nearest .f64 weight = b at *
  generalize hm : FloatKind.nearest .f64 more = m at *
  have a3 : a = 0 ∨ (B52 ≤ a ∧ a + B52 < INF) := a1.imp id fun h => ⟨h, by omega⟩
  have b3 : b = 0 ∨ (B52 ≤ b ∧ b + B52 < INF) := b1.imp id fun h => ⟨h, by omega⟩
  have d : ∀ z, z ≤ W32 → dbl z ≤ W32 + B52 := fun z hz => by
    unfold dbl
    split <;> omega
  have da := d a a2
  have db := d b b2
  have hs := addF_w a2 m2
  have hge := (addF_ge (show a < INF by omega) (show m < INF by omega)).1
  have f2 := Share_c ⟨0, dbl a, dbl b⟩ ⟨by show dbl a < _; omega, by show dbl b < _; omega⟩
  rw [shr_dbl (w' := 0) a3 b3] at f2
  have hmo := shr_mono (w := 0) (w' := 0) (y := b) hge a1 (show addF a m < INF by omega) (by omega)
  have hlt := fLt_fin (shr_le ⟨0, addF a m, b⟩) (shr_le ⟨0, a, b⟩)
  rw [decide_eq_false (by omega)] at hlt
  have hs1 := same_c (shr ⟨0, a, b⟩) (shr ⟨0, a, b⟩)
  rw [decide_eq_true rfl] at hs1
  have happ : UsesW (l.take 60 ++ [⟨who, 0, 0⟩]) := fun u hu => by
    rw [List.mem_append, List.mem_singleton] at hu
    rcases hu with hu | rfl
    · exact hw' u hu
    · exact ⟨by show (0 : Nat) < _; decide, by show (0 : Nat) < _; decide⟩
  exact ShareScalesX had weight more who l (l.take 60) a b m _ _ _ _ _ _ _ ha hb hm (cut_at useSV l 60) htl (two_mul_w a3) (two_mul_w b3) (add_fin (by omega) (by omega))
    (Share_c ⟨0, a, b⟩ ⟨by show a < _; omega, by show b < _; omega⟩) f2 (Share_c ⟨0, addF a m, b⟩ ⟨by show addF a m < _; omega, by show b < _; omega⟩) hs1 hlt
    (Bonus_c (l.take 60) who (by omega) hw') (Bonus_c _ who (by simp; omega) happ) (bonusN_oth _ _) (bonusN_app (l.take 60) ⟨who, 0, 0⟩)
end Go.Proofs.Ytpjcicbohgcehaa.Ab
