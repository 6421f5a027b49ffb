import Derived.Test.YtpnfmaphlfobpaaF5
import Derived.Test.YtpnfmaphlfobpaaLogP
namespace Go.Proofs.Ytpnfmaphlfobpaa.Pure
open Go.RowKit Go.Proofs.YtpnfmaphlfobpaaW.PrintWords Go.Proofs.YtpnfmaphlfobpaaW.PrintMore Go.Proofs.Ytpnfmaphlfobpaa.F Go.Proofs.Ytpnfmaphlfobpaa.Pk Go.Proofs.Ytpnfmaphlfobpaa.LogP
set_option linter.unusedSimpArgs false
set_option linter.unusedVariables false
/-- The check's first number is the sum. -/
theorem fold_sum : ∀ (l : List Int) (x y : Int), (l.foldl st (x, y)).1 % 251 = (x + l.foldl (· + ·) 0) % 251
  | [], x, y => by simp
  | c :: l, x, y => by
    rw [List.foldl_cons, List.foldl_cons]
    have h : (l.foldl st (st (x, y) c)).1 % 251 = ((st (x, y) c).1 + l.foldl (· + ·) 0) % 251 := fold_sum l (st (x, y) c).1 (st (x, y) c).2
    have e : (st (x, y) c).1 = (x + c) % 251 := rfl
    have hs : ∀ (l : List Int) (a : Int), l.foldl (· + ·) a = a + l.foldl (· + ·) 0 := by
      intro l
      induction l with
      | nil => intro a; simp
      | cons b l ih => intro a; rw [List.foldl_cons, List.foldl_cons, ih (a + b), ih (0 + b)]; omega
    rw [hs l (0 + c)]
    rw [h, e]
    omega
theorem sum_app : ∀ (l m : List Int) (a : Int), (l ++ m).foldl (· + ·) a = l.foldl (· + ·) a + m.foldl (· + ·) 0 := by
  intro l
  induction l with
  | nil =>
    intro m
    induction m with
    | nil => intro a; simp
    | cons b m ih => intro a; simp only [List.nil_append, List.foldl_cons, List.foldl_nil] at ih ⊢; rw [ih (a + b), ih (0 + b)]; omega
  | cons b l ih => intro m a; simp only [List.cons_append, List.foldl_cons]; exact ih m (a + b)
theorem LogSpoilt : bailiwicklaw20_LogSpoilt.Pure := by
  intro l0 a1 a2 h0 h1 h2
  refine Ev.rounds (g := fun k => bailiwicklaw20_LogSpoilt.f k l0 a1 a2) ?_
  have hB := Bs.of h0.2.2
  have r1 := wf_u8.1 h1
  have r2 := wf_u8.1 h2
  simp only [bailiwicklaw20_LogSpoilt.f, bailiwicklaw20_awake.f, Option.bind_some, if_true]
  have yes : ∀ (h : Bool), h = true → Ev (fun k => bailiwicklaw20_LogSpoilt.j0 k l0 a1 a2 h) true := by
    rintro _ rfl
    refine Ev.step (f := fun _ => some true) (fun k => ?_) (Ev.now _)
    simp only [bailiwicklaw20_LogSpoilt.j0, if_true]
  by_cases c1 : (l0.length : Int) < 1
  · simp only [if_pos c1]; exact yes _ rfl
  by_cases c2 : (l0.length : Int) > 100
  · simp only [if_neg c1, if_pos c2]; exact yes _ rfl
  simp only [if_neg c1, if_neg c2]
  by_cases c3 : a2 = 0
  · exact yes _ (by simp [c3])
  have hadd := add_ev [] l0 Bs.nil hB (by omega) (by omega) (by simp)
  rw [List.nil_append] at hadd
  have hi : Int.tmod (wrap64 a1) (l0.length : Int) = a1 % l0.length := by rw [w64 (by omega) (by omega)]; exact Int.tmod_eq_emod_of_nonneg (by omega)
  have hir : 0 ≤ a1 % l0.length ∧ a1 % l0.length < l0.length := ⟨Int.emod_nonneg _ (by omega), Int.emod_lt_of_pos _ (by omega)⟩
  generalize hj : a1 % (l0.length : Int) = j at hi hir
  have hk : wrap64 (2 + Int.tmod (wrap64 a1) (l0.length : Int)) = 2 + j := by rw [hi, w64 (by omega) (by omega)]
  have hlen := enc_len l0
  -- the place in the entry
  obtain ⟨n, rfl⟩ : ∃ n : Nat, j = n := ⟨j.toNat, by omega⟩
  have hn : n < l0.length := by omega
  have hsplit : l0 = l0.take n ++ l0[n] :: l0.drop (n + 1) := by rw [← List.drop_eq_getElem_cons hn, List.take_append_drop]
  have hbn := hB _ (List.getElem_mem hn)
  have hrd : rd (enc l0) (2 + (n : Int)) = l0[n] := by
    have e : (2 + (n : Int)).toNat = n + 2 := by omega
    unfold rd enc two
    rw [e, List.getD_eq_getElem?_getD]
    simp only [List.cons_append, List.nil_append, List.getElem?_cons_succ]
    rw [List.getElem?_append_left hn, List.getElem?_eq_getElem hn]
    rfl
  obtain ⟨v, hv⟩ : ∃ v, v = l0[n] := ⟨_, rfl⟩
  rw [← hv] at hsplit hbn hrd
  clear hv
  let c' := (v + a2) % 256
  have hc' : 0 ≤ c' ∧ c' ≤ 255 := by show 0 ≤ (v + a2) % 256 ∧ (v + a2) % 256 ≤ 255; omega
  let e' := l0.take n ++ c' :: l0.drop (n + 1)
  have he'l : e'.length = l0.length := by show (l0.take n ++ c' :: l0.drop (n + 1)).length = _; simp; omega
  have hset : (enc l0).set (2 + (n : Int)).toNat c' = two l0.length ++ e' ++ two (ck (two l0.length ++ l0)) := by
    have e : (2 + (n : Int)).toNat = n + 2 := by omega
    rw [e]
    unfold enc
    rw [List.set_append_left _ _ (by simp [two] <;> omega), List.set_append_right _ _ (by simp [two])]
    congr 2
    show l0.set (n + 2 - 2) c' = e'
    rw [Nat.add_sub_cancel, List.set_eq_take_append_cons_drop, if_pos hn]
  have hset' : Bs ((enc l0).set (2 + (n : Int)).toNat c') := by
    intro x hx
    rcases List.mem_or_eq_of_mem_set hx with hx | rfl
    · exact enc_bs hB x hx
    · exact hc'
  have hrd' : rd ((enc l0).set (2 + (n : Int)).toNat c') (2 + (n : Int)) = c' := by
    unfold rd
    rw [List.getD_eq_getElem?_getD, List.getElem?_set_self (by rw [hlen]; omega)]
    rfl
  refine Ev.step (f := fun k => (log_Add.f k [] l0).bind fun bt => if (l0.length : Int) = 0 then none else if 0 ≤ 2 + (n : Int) then if 2 + (n : Int) < (bt.1.length : Int) then (some (bt.1.set (2 + (n : Int)).toNat ((rd bt.1 (2 + (n : Int)) + a2) % 256))).bind fun y => if Int.tmod (wrap64 (rd bt.1 (2 + (n : Int)))) 251 = Int.tmod (wrap64 (rd y (2 + (n : Int)))) 251 then some true else (log_Read.f k y).bind fun b2 => if (b2.1.length : Int) = 0 then some (b2.2 == 0) else some false else none else none) (fun k => ?_) ?_
  · have hz : (a2 == 0) = false := by simpa using c3
    simp only [bailiwicklaw20_LogSpoilt.j0, hz, hk, Bool.false_eq_true, if_false]
  refine Ev.bind hadd ?_
  simp only [if_neg (show ¬ (l0.length : Int) = 0 by omega), if_pos (show (0 : Int) ≤ 2 + (n : Int) by omega), if_pos (show 2 + (n : Int) < ((enc l0).length : Int) by rw [hlen]; omega), Option.bind_some, hrd]
  have hfold : (v + a2) % 256 = c' := rfl
  simp only [hfold, hrd']
  have t1 : Int.tmod (wrap64 v) 251 = v % 251 := by rw [w64 (by omega) (by omega)]; exact Int.tmod_eq_emod_of_nonneg (by omega)
  have t2 : Int.tmod (wrap64 c') 251 = c' % 251 := by rw [w64 (by omega) (by omega)]; exact Int.tmod_eq_emod_of_nonneg (by omega)
  simp only [t1, t2]
  by_cases c4 : v % 251 = c' % 251
  · simp only [if_pos c4]; exact Ev.now _
  simp only [if_neg c4]
  -- it is none
  have hnok : ¬ nok ((enc l0).set (2 + (n : Int)).toNat c') := by
    rw [hset]
    intro h
    have en : nlen (two l0.length ++ e' ++ two (ck (two l0.length ++ l0))) = l0.length := by
      unfold nlen two rd
      simp only [List.cons_append, List.nil_append, Int.toNat_zero, Int.toNat_one, List.getD_cons_zero, List.getD_cons_succ]
      omega
    have h4 := h.2.2.2.2
    rw [en] at h4
    have z1 : ((l0.length : Int) + 2).toNat = l0.length + 2 := by omega
    have z2 : ((l0.length : Int) + 4).toNat = l0.length + 4 := by omega
    have z3 : (two (l0.length : Int) ++ e').length = l0.length + 2 := by rw [List.length_append, he'l]; simp [two]; omega
    rw [z1, z2, List.take_append_of_le_length (by omega), List.take_of_length_le (by omega), List.take_of_length_le (by rw [List.length_append, z3]; simp [two]), List.drop_append_of_le_length (by omega), List.drop_eq_nil_of_le (by omega), List.nil_append] at h4
    have q1 := ckp_rng (two l0.length ++ e')
    have q2 := ckp_rng (two l0.length ++ l0)
    have s1 := fold_sum (two l0.length ++ e') 1 0
    have s2 := fold_sum (two l0.length ++ l0) 1 0
    have s3 : (two (l0.length : Int) ++ e').foldl (· + ·) 0 = (two (l0.length : Int) ++ l0).foldl (· + ·) 0 + (c' - v) := by
      have a1 : e'.foldl (· + ·) 0 = l0.foldl (· + ·) 0 + (c' - v) := by
        conv => rhs; rw [hsplit]
        show (l0.take n ++ c' :: l0.drop (n + 1)).foldl (· + ·) 0 = _
        rw [sum_app, sum_app, List.foldl_cons, List.foldl_cons]
        have w1 := sum_app [] (l0.drop (n + 1)) (0 + c')
        have w2 := sum_app [] (l0.drop (n + 1)) (0 + v)
        simp only [List.nil_append, List.foldl_nil] at w1 w2
        rw [w1, w2]
        omega
      rw [sum_app (two _) e', sum_app (two _) l0, a1]
      omega
    have p1 : (ckp (two l0.length ++ e')).1 % 251 = (1 + (two (l0.length : Int) ++ e').foldl (· + ·) 0) % 251 := s1
    have p2 : (ckp (two l0.length ++ l0)).1 % 251 = (1 + (two (l0.length : Int) ++ l0).foldl (· + ·) 0) % 251 := s2
    have hx : ck (two l0.length ++ e') % 256 = ck (two l0.length ++ l0) % 256 := by
      have := congrArg (fun l => rd l 1) h4
      exact this
    unfold ck at hx
    omega
  refine Ev.bind (read_ev hset' (by rw [List.length_set, hlen]; omega) (.stop hnok)) ?_
  exact Ev.now _
end Go.Proofs.Ytpnfmaphlfobpaa.Pure
