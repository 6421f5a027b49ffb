/- Layer 20, plainly: what a log's bytes read as. -/
import Derived.Test.YtpnfmaphlfobpaaF1

import Derived.Test.YtpnfmaphlfobpaaF3

import Derived.Test.YtpnfmaphlfobpaaPk
namespace Go.Proofs.Ytpnfmaphlfobpaa.LogP
open Go.RowKit Go.Proofs.YtpnfmaphlfobpaaW.PrintWords Go.Proofs.YtpnfmaphlfobpaaW.PrintMore Go.Proofs.Ytpnfmaphlfobpaa.F Go.Proofs.Ytpnfmaphlfobpaa.Pk
set_option linter.unusedSimpArgs false
set_option linter.unusedVariables false

/-- The check's two numbers. -/
def st (p : Int × Int) (c : Int) : Int × Int := ((p.1 + c) % 251, (p.2 + (p.1 + c) % 251) % 251)
def ckp (l : List Int) : Int × Int := l.foldl st (1, 0)
def ck (l : List Int) : Int := (ckp l).2 * 256 + (ckp l).1
theorem st_rng {p : Int × Int} {c : Int} : (0 ≤ (st p c).1 ∧ (st p c).1 < 251) ∧ (0 ≤ (st p c).2 ∧ (st p c).2 < 251) := by unfold st; omega
theorem fold_rng : ∀ (l : List Int) (p : Int × Int), (0 ≤ p.1 ∧ p.1 < 251) ∧ (0 ≤ p.2 ∧ p.2 < 251) → (0 ≤ (l.foldl st p).1 ∧ (l.foldl st p).1 < 251) ∧ (0 ≤ (l.foldl st p).2 ∧ (l.foldl st p).2 < 251)
  | [], p, h => h
  | c :: l, p, h => by rw [List.foldl_cons]; exact fold_rng l _ st_rng
theorem ckp_rng (l : List Int) : (0 ≤ (ckp l).1 ∧ (ckp l).1 < 251) ∧ (0 ≤ (ckp l).2 ∧ (ckp l).2 < 251) := fold_rng l _ ⟨⟨by decide, by decide⟩, ⟨by decide, by decide⟩⟩
theorem ck_rng (l : List Int) : 0 ≤ ck l ∧ ck l < 65536 := by have := ckp_rng l; unfold ck; omega

theorem check_loop (l : List Int) (hB : Bs l) (hl : l.length < 140737488355328) : ∀ (d i : Nat) (x y : Int), l.length - i = d → i ≤ l.length → (0 ≤ x ∧ x < 251) ∧ (0 ≤ y ∧ y < 251) →
    Ev (fun k => log_Check.l0 k x y l (l.length : Int) (i : Int)) (((l.drop i).foldl st (x, y)).2 * 256 + ((l.drop i).foldl st (x, y)).1)
  | 0, i, x, y, hd, hi, hr => by
    refine Ev.step (f := fun _ => some (y * 256 + x)) (fun k => ?_) ?_
    · simp only [log_Check.l0]
      rw [if_neg (by omega), w64 (by omega) (by omega), or256 (by omega) (by omega) (by omega) (by omega)]
    · rw [List.drop_eq_nil_of_le (by omega)]
      exact Ev.now _
  | d + 1, i, x, y, hd, hi, hr => by
    have hlt : i < l.length := by omega
    have hm := hB _ (rd_mem (i := (i : Int)) (by omega) (by omega))
    have e : l.drop i = rd l (i : Int) :: l.drop (i + 1) := by
      rw [List.drop_eq_getElem_cons hlt, rd_nat, List.getD_eq_getElem?_getD, List.getElem?_eq_getElem hlt]; rfl
    rw [e, List.foldl_cons]
    refine Ev.step (fun k => ?_) (check_loop l hB hl d (i + 1) (st (x, y) (rd l i)).1 (st (x, y) (rd l i)).2 (by omega) (by omega) st_rng)
    simp only [log_Check.l0]
    rw [if_pos (by omega), if_pos (by omega), if_pos (by omega)]
    generalize rd l (i : Int) = c at hm ⊢
    have h1 : wrap64 (x + wrap64 c) = x + c := by rw [w64 (n := c) (by omega) (by omega), w64 (by omega) (by omega)]
    have h2 : Int.tmod (x + c) 251 = (x + c) % 251 := Int.tmod_eq_emod_of_nonneg (by omega)
    have h3 : wrap64 (y + (x + c) % 251) = y + (x + c) % 251 := w64 (by omega) (by omega)
    have h4 : Int.tmod (y + (x + c) % 251) 251 = (y + (x + c) % 251) % 251 := Int.tmod_eq_emod_of_nonneg (by omega)
    have h5 : wrap64 ((i : Int) + 1) = ((i + 1 : Nat) : Int) := by rw [w64 (by omega) (by omega)]; rfl
    rw [h1, h2, h3, h4, h5]
    rfl
theorem check_ev (l : List Int) (hB : Bs l) (hl : l.length < 140737488355328) : Ev (fun k => log_Check.f k l) (ck l) := by
  have := check_loop l hB hl l.length 0 1 0 (by omega) (by omega) ⟨⟨by decide, by decide⟩, ⟨by decide, by decide⟩⟩
  exact this

def two (n : Int) : List Int := [n / 256 % 256, n % 256]
theorem two_bs (n : Int) : Bs (two n) := by
  intro x hx
  simp only [two, List.mem_cons, List.not_mem_nil, or_false] at hx
  omega
/-- An entry as it is written. -/
def enc (e : List Int) : List Int := two e.length ++ e ++ two (ck (two e.length ++ e))
theorem enc_len (e : List Int) : (enc e).length = e.length + 4 := by unfold enc two; simp
theorem enc_bs {e : List Int} (h : Bs e) : Bs (enc e) := ((two_bs _).append h).append (two_bs _)

theorem add_ev (b e : List Int) (hb : Bs b) (he : Bs e) (h1 : 1 ≤ e.length) (h2 : e.length ≤ 4096) (hl : b.length ≤ 140737488000000) : Ev (fun k => log_Add.f k b e) (b ++ enc e, 0) := by
  have hw : Bs (two e.length ++ e) := (two_bs _).append he
  have hwl : (two e.length ++ e).length = e.length + 2 := by simp [two]
  refine Ev.congr (f := fun k => log_Add.j0 k e b (decide ((e.length : Int) > 4096))) (fun k => ?_) ?_
  · simp only [log_Add.f, bytes_Clone.f]
    rw [if_pos (by omega)]
    simp only [Option.bind_some]
    rw [if_neg (by omega)]
  refine Ev.step (f := fun k => (log_Check.f k (two e.length ++ e)).bind fun t => some (b ++ (two e.length ++ e) ++ two t, 0)) (fun k => ?_) ?_
  · simp only [log_Add.j0]
    rw [if_neg (by simp; omega)]
    simp only [log_two.f, Option.bind_some]
    have e1 : ([(e.length : Int) / 256 % 256, (e.length : Int) % 256] : List Int) = two e.length := rfl
    rw [e1, if_pos (by simp [two] <;> omega)]
    (try simp only [Option.bind_some])
    rw [if_pos (by rw [hwl]; omega)]
    (try simp only [Option.bind_some])
    refine congrArg _ (funext fun t => ?_)
    have e2 : ([t / 256 % 256, t % 256] : List Int) = two t := rfl
    rw [e2, if_pos (by rw [List.length_append, hwl]; simp [two]; omega)]
  · refine Ev.bind (check_ev _ hw (by omega)) ?_
    rw [show b ++ enc e = b ++ (two e.length ++ e) ++ two (ck (two e.length ++ e)) from (List.append_assoc b (two e.length ++ e) _).symm]
    exact Ev.now _

/-- The next entry, and how many bytes it takes; 0: there is none. -/
def nlen (l : List Int) : Int := rd l 0 * 256 + rd l 1
def nok (l : List Int) : Prop := 2 ≤ l.length ∧ 1 ≤ nlen l ∧ nlen l ≤ 4096 ∧ nlen l + 4 ≤ l.length ∧ two (ck (l.take (nlen l + 2).toNat)) = (l.take (nlen l + 4).toNat).drop (nlen l + 2).toNat
theorem next_some (l : List Int) (hB : Bs l) (hl : l.length < 140737488355328) (h : nok l) : Ev (fun k => log_next.f k l) ((l.take (nlen l + 2).toNat).drop 2, nlen l + 4) := by
  obtain ⟨h0, h1, h2, h3, h4⟩ := h
  have b0 := hB _ (rd_mem (l := l) (i := 0) (by omega) (by omega))
  have b1 := hB _ (rd_mem (l := l) (i := 1) (by omega) (by omega))
  have e0 : Go.bits .or .i64 (wrap64 (wrap64 (rd l 0) * 256)) (wrap64 (rd l 1)) = nlen l := by
    rw [w64 (n := rd l 0) (by omega) (by omega), w64 (n := rd l 1) (by omega) (by omega), w64 (by omega) (by omega), or256 (by omega) (by omega) (by omega) (by omega)]; rfl
  have e1 : wrap64 (2 + nlen l) = nlen l + 2 := by rw [w64 (by omega) (by omega)]; omega
  have e2 : wrap64 (nlen l + 2 + 2) = nlen l + 4 := by rw [w64 (by omega) (by omega)]; omega
  refine Ev.congr (f := fun k => (log_Check.f k (l.take (nlen l + 2).toNat)).bind fun t => some (if two t = (l.take (nlen l + 4).toNat).drop (nlen l + 2).toNat then ((l.take (nlen l + 2).toNat).drop 2, nlen l + 4) else ([], 0))) (fun k => ?_) ?_
  · simp only [log_next.f]
    rw [e0, e1, e2, if_neg (by omega), if_pos (by omega), if_pos (by omega), if_neg (by omega), if_neg (by omega), if_neg (by omega), if_pos (by omega), if_pos (by omega)]
    refine congrArg _ (funext fun t => ?_)
    simp only [log_two.f, Option.bind_some, bytes_Equal.f, bytes_Clone.f]
    rw [if_pos (by omega), if_pos (by omega)]
    have e3 : ([t / 256 % 256, t % 256] : List Int) = two t := rfl
    rw [e3, strs_beq (two_bs t) ((hB.take _).drop _)]
    by_cases hc : two t = (l.take (nlen l + 4).toNat).drop (nlen l + 2).toNat
    · rw [if_pos (by simpa using hc), if_pos (by omega), if_pos (by simp; omega), if_pos hc]
      rfl
    · rw [if_neg (by simpa using hc), if_neg hc]
  · refine Ev.bind (check_ev _ (hB.take _) (by simp; omega)) ?_
    rw [if_pos h4]
    exact Ev.now _
theorem next_none (l : List Int) (hB : Bs l) (hl : l.length < 140737488355328) (h : ¬ nok l) : Ev (fun k => log_next.f k l) ([], 0) := by
  by_cases h0 : ¬ 2 ≤ l.length
  · exact Ev.congr (f := fun _ => some ([], 0)) (fun k => by simp only [log_next.f]; rw [if_pos (by omega)]) (Ev.now _)
  replace h0 : 2 ≤ l.length := by omega
  have b0 := hB _ (rd_mem (l := l) (i := 0) (by omega) (by omega))
  have b1 := hB _ (rd_mem (l := l) (i := 1) (by omega) (by omega))
  have e0 : Go.bits .or .i64 (wrap64 (wrap64 (rd l 0) * 256)) (wrap64 (rd l 1)) = nlen l := by
    rw [w64 (n := rd l 0) (by omega) (by omega), w64 (n := rd l 1) (by omega) (by omega), w64 (by omega) (by omega), or256 (by omega) (by omega) (by omega) (by omega)]; rfl
  have hnl : 0 ≤ nlen l ∧ nlen l < 65536 := by unfold nlen; omega
  have e1 : wrap64 (2 + nlen l) = nlen l + 2 := by rw [w64 (by omega) (by omega)]; omega
  have e2 : wrap64 (nlen l + 2 + 2) = nlen l + 4 := by rw [w64 (by omega) (by omega)]; omega
  by_cases h1 : nlen l < 1
  · refine Ev.congr (f := fun _ => some ([], 0)) (fun k => ?_) (Ev.now _)
    simp only [log_next.f]
    rw [e0, if_neg (by omega), if_pos (by omega), if_pos (by omega), if_pos h1]
  by_cases h2 : nlen l > 4096
  · refine Ev.congr (f := fun _ => some ([], 0)) (fun k => ?_) (Ev.now _)
    simp only [log_next.f]
    rw [e0, if_neg (by omega), if_pos (by omega), if_pos (by omega), if_neg h1, if_pos h2]
  by_cases h3 : (l.length : Int) < nlen l + 4
  · refine Ev.congr (f := fun _ => some ([], 0)) (fun k => ?_) (Ev.now _)
    simp only [log_next.f]
    rw [e0, e1, e2, if_neg (by omega), if_pos (by omega), if_pos (by omega), if_neg h1, if_neg h2, if_pos h3]
  have h4 : ¬ two (ck (l.take (nlen l + 2).toNat)) = (l.take (nlen l + 4).toNat).drop (nlen l + 2).toNat := fun hc => h ⟨h0, by omega, by omega, by omega, hc⟩
  refine Ev.congr (f := fun k => (log_Check.f k (l.take (nlen l + 2).toNat)).bind fun t => some (if two t = (l.take (nlen l + 4).toNat).drop (nlen l + 2).toNat then ((l.take (nlen l + 2).toNat).drop 2, nlen l + 4) else ([], 0))) (fun k => ?_) ?_
  · simp only [log_next.f]
    rw [e0, e1, e2, if_neg (by omega), if_pos (by omega), if_pos (by omega), if_neg (by omega), if_neg (by omega), if_neg (by omega), if_pos (by omega), if_pos (by omega)]
    refine congrArg _ (funext fun t => ?_)
    simp only [log_two.f, Option.bind_some, bytes_Equal.f, bytes_Clone.f]
    rw [if_pos (by omega), if_pos (by omega)]
    have e3 : ([t / 256 % 256, t % 256] : List Int) = two t := rfl
    rw [e3, strs_beq (two_bs t) ((hB.take _).drop _)]
    by_cases hc : two t = (l.take (nlen l + 4).toNat).drop (nlen l + 2).toNat
    · rw [if_pos (by simpa using hc), if_pos (by omega), if_pos (by simp; omega), if_pos hc]
      rfl
    · rw [if_neg (by simpa using hc), if_neg hc]
  · refine Ev.bind (check_ev _ (hB.take _) (by simp; omega)) ?_
    rw [if_neg h4]
    exact Ev.now _

/-- What bytes read as: the entries, and how many bytes they take. -/
inductive Rd : List Int → List (List Int) → Nat → Prop
  | stop {l : List Int} (h : ¬ nok l) : Rd l [] 0
  | more {l : List Int} {es : List (List Int)} {n : Nat} (h : nok l) (t : Rd (l.drop (nlen l + 4).toNat) es n) : Rd l (((l.take (nlen l + 2).toNat).drop 2) :: es) ((nlen l + 4).toNat + n)
theorem Rd.total : ∀ (d : Nat) (l : List Int), l.length ≤ d → ∃ es n, Rd l es n
  | 0, l, hd => ⟨[], 0, .stop (fun h => by have := h.1; omega)⟩
  | d + 1, l, hd => by
    by_cases h : nok l
    · obtain ⟨es, n, hr⟩ := Rd.total d (l.drop (nlen l + 4).toNat) (by have := h.1; have := h.2.1; rw [List.length_drop]; omega)
      exact ⟨_, _, .more h hr⟩
    · exact ⟨[], 0, .stop h⟩
theorem Rd.le {l : List Int} {es : List (List Int)} {n : Nat} (h : Rd l es n) : n ≤ l.length ∧ es.length ≤ n := by
  induction h with
  | stop h => simp
  | more h t ih => have := h.2.1; have := h.2.2.2.1; rw [List.length_drop] at ih; simp only [List.length_cons]; omega
theorem Rd.bs {l : List Int} {es : List (List Int)} {n : Nat} (h : Rd l es n) (hB : Bs l) : ∀ e ∈ es, Bs e := by
  induction h with
  | stop h => intro e he; cases he
  | more h t ih =>
    intro e he
    rcases List.mem_cons.1 he with rfl | he
    · exact (hB.take _).drop _
    · exact ih (hB.drop _) e he
theorem read_loop {l : List Int} (hB : Bs l) (hl : l.length < 4000000000000) : ∀ {m : List Int} {es : List (List Int)} {n : Nat}, Rd m es n → ∀ (at_ : Nat) (out : List (List Int)), at_ ≤ l.length → m = l.drop at_ → out.length ≤ at_ →
    Ev (fun k => log_Read.l0 k l out (at_ : Int)) (out ++ es, ((at_ + n : Nat) : Int)) := by
  intro m es n h
  induction h with
  | @stop m h =>
    intro at_ out h1 h2 h3
    subst h2
    have hn := next_none (l.drop at_) (hB.drop _) (by rw [List.length_drop]; omega) h
    refine Ev.step (f := fun k => (log_next.f k (l.drop at_)).bind fun bt => if bt.2 = 0 then some (out, (at_ : Int)) else if out.length < 5864062014805 then log_Read.l0 k l (out ++ [bt.1]) (wrap64 ((at_ : Int) + bt.2)) else none) (fun k => ?_) ?_
    · simp only [log_Read.l0]
      rw [if_pos (by omega), if_pos (by omega)]
      simp
    · refine Ev.bind hn ?_
      simp only [if_true, List.append_nil]
      exact Ev.now _
  | @more m es n h t ih =>
    intro at_ out h1 h2 h3
    subst h2
    have hlen := h.2.2.2.1
    have h1l := h.2.1
    rw [List.length_drop] at hlen
    have hn := next_some (l.drop at_) (hB.drop _) (by rw [List.length_drop]; omega) h
    have hih := ih (at_ + (nlen (l.drop at_) + 4).toNat) (out ++ [((l.drop at_).take (nlen (l.drop at_) + 2).toNat).drop 2]) (by omega) (by rw [List.drop_drop]) (by simp; omega)
    refine Ev.step (f := fun k => (log_next.f k (l.drop at_)).bind fun bt => if bt.2 = 0 then some (out, (at_ : Int)) else if out.length < 5864062014805 then log_Read.l0 k l (out ++ [bt.1]) (wrap64 ((at_ : Int) + bt.2)) else none) (fun k => ?_) ?_
    · simp only [log_Read.l0]
      rw [if_pos (by omega), if_pos (by omega)]
      simp
    · refine Ev.bind hn ?_
      refine Ev.congr (f := fun k => log_Read.l0 k l (out ++ [((l.drop at_).take (nlen (l.drop at_) + 2).toNat).drop 2]) ((at_ : Int) + (nlen (l.drop at_) + 4))) (fun k => by rw [if_neg (by omega), if_pos (by omega), w64 (by omega) (by omega)]) ?_
      have e : (at_ : Int) + (nlen (l.drop at_) + 4) = ((at_ + (nlen (l.drop at_) + 4).toNat : Nat) : Int) := by omega
      rw [e]
      rw [List.append_assoc] at hih
      rw [← Nat.add_assoc]
      exact hih
theorem read_ev {l : List Int} {es : List (List Int)} {n : Nat} (hB : Bs l) (hl : l.length < 4000000000000) (h : Rd l es n) : Ev (fun k => log_Read.f k l) (es, (n : Int)) := by
  have := read_loop hB hl h 0 [] (by omega) (by simp) (by simp)
  simpa [log_Read.f] using this

/-! ### what is read hangs on the beginning alone -/
theorem rd_take {l : List Int} {i : Int} {n : Nat} (h0 : 0 ≤ i) (h : i < n) : rd (l.take n) i = rd l i := by
  unfold rd
  rw [List.getD_eq_getElem?_getD, List.getD_eq_getElem?_getD, List.getElem?_take, if_pos (by omega)]
theorem rd_app {l m : List Int} {i : Int} (h0 : 0 ≤ i) (h : i < l.length) : rd (l ++ m) i = rd l i := by
  unfold rd
  rw [List.getD_eq_getElem?_getD, List.getD_eq_getElem?_getD, List.getElem?_append_left (by omega)]
theorem nlen_app {l m : List Int} (h : 2 ≤ l.length) : nlen (l ++ m) = nlen l := by unfold nlen; rw [rd_app (by omega) (by omega), rd_app (by omega) (by omega)]
theorem nok_app {l m : List Int} (h : nok l) : nok (l ++ m) := by
  obtain ⟨h0, h1, h2, h3, h4⟩ := h
  refine ⟨by simp; omega, ?_⟩
  rw [nlen_app h0]
  refine ⟨h1, h2, by simp; omega, ?_⟩
  rw [List.take_append_of_le_length (by omega), List.take_append_of_le_length (by omega)]
  exact h4
/-- A log that is good as a whole, and whatever behind it. -/
theorem Rd.joins {a b : List Int} {es fs : List (List Int)} {n m : Nat} (h : Rd a es n) (hn : n = a.length) (hb : Rd b fs m) : Rd (a ++ b) (es ++ fs) (n + m) := by
  induction h with
  | @stop a h =>
    have : a = [] := List.eq_nil_of_length_eq_zero hn.symm
    subst this
    simpa using hb
  | @more a es n h t ih =>
    have h1 := h.2.1
    have h3 := h.2.2.2.1
    have hd := ih (by rw [List.length_drop]; omega)
    have key := Rd.more (nok_app (m := b) h) (es := es ++ fs) (n := n + m) (by
      rw [nlen_app h.1, List.drop_append_of_le_length (by omega)]
      exact hd)
    rw [nlen_app h.1, List.take_append_of_le_length (by omega)] at key
    rw [Nat.add_assoc]
    exact key
/-- The good part is good. -/
theorem Rd.good {a : List Int} {es : List (List Int)} {n : Nat} (h : Rd a es n) : Rd (a.take n) es n := by
  induction h with
  | @stop a h => rw [List.take_zero]; exact .stop (fun h => by have := h.1; simp at this)
  | @more a es n h t ih =>
    have h1 := h.2.1
    have h3 := h.2.2.2.1
    have hle := t.le.1
    rw [List.length_drop] at hle
    have e : a.take ((nlen a + 4).toNat + n) = a.take (nlen a + 4).toNat ++ (a.drop (nlen a + 4).toNat).take n := by rw [List.take_add]
    rw [e]
    have hk : nok (a.take (nlen a + 4).toNat) ∧ nlen (a.take (nlen a + 4).toNat) = nlen a := by
      have en : nlen (a.take (nlen a + 4).toNat) = nlen a := by
        show rd (a.take (nlen a + 4).toNat) 0 * 256 + rd (a.take (nlen a + 4).toNat) 1 = rd a 0 * 256 + rd a 1
        rw [rd_take (by omega) (by omega), rd_take (by omega) (by omega)]
      refine ⟨⟨by rw [List.length_take]; omega, ?_⟩, en⟩
      rw [en]
      refine ⟨h1, h.2.2.1, by rw [List.length_take]; omega, ?_⟩
      rw [List.take_take, List.take_take, Nat.min_eq_left (by omega), Nat.min_eq_left (by omega)]
      exact h.2.2.2.2
    have key := Rd.more (nok_app (m := (a.drop (nlen a + 4).toNat).take n) hk.1) (es := es) (n := n) (by
      rw [nlen_app hk.1.1, hk.2, List.drop_append_of_le_length (by simp; omega), List.drop_eq_nil_of_le (by simp; omega), List.nil_append]
      exact ih)
    rw [nlen_app hk.1.1, hk.2, List.take_append_of_le_length (by simp; omega), List.take_take, Nat.min_eq_left (by omega)] at key
    exact key
theorem enc_take2 (e : List Int) : (enc e).take (e.length + 2) = two e.length ++ e := by
  unfold enc
  rw [List.take_append_of_le_length (by simp [two] <;> omega), List.take_of_length_le (by simp [two] <;> omega)]
theorem enc_nlen {e : List Int} (h2 : e.length ≤ 4096) : nlen (enc e) = e.length := by
  unfold nlen enc two rd
  simp only [List.cons_append, List.nil_append, Int.toNat_zero, Int.toNat_one, List.getD_cons_zero, List.getD_cons_succ]
  omega
theorem enc_nok {e : List Int} (h1 : 1 ≤ e.length) (h2 : e.length ≤ 4096) : nok (enc e) := by
  refine ⟨by rw [enc_len]; omega, ?_⟩
  rw [enc_nlen h2, enc_len]
  refine ⟨by omega, by omega, by omega, ?_⟩
  have e1 : ((e.length : Int) + 2).toNat = e.length + 2 := by omega
  have e2 : ((e.length : Int) + 4).toNat = e.length + 4 := by omega
  rw [e1, e2, enc_take2, List.take_of_length_le (by rw [enc_len]; omega)]
  unfold enc
  rw [List.drop_append_of_le_length (by simp [two] <;> omega), List.drop_eq_nil_of_le (by simp [two] <;> omega), List.nil_append]
theorem Rd.enc_one {e : List Int} (h1 : 1 ≤ e.length) (h2 : e.length ≤ 4096) : Rd (enc e) [e] (e.length + 4) := by
  have key := Rd.more (enc_nok h1 h2) (es := []) (n := 0) (.stop (fun h => by have := h.1; rw [enc_nlen h2] at this; simp [enc_len] at this; omega))
  rw [enc_nlen h2] at key
  have e1 : ((e.length : Int) + 2).toNat = e.length + 2 := by omega
  have e2 : ((e.length : Int) + 4).toNat = e.length + 4 := by omega
  rw [e1, e2, enc_take2] at key
  simpa [two] using key
theorem stop_nil {l : List Int} (h : l.length < 2) : Rd l [] 0 := .stop (fun k => by have := k.1; omega)
/-- A log, entry by entry. -/
def elog : List (List Int) → List Int
  | [] => []
  | e :: l => enc e ++ elog l
theorem Rd.wholelog : ∀ {l : List (List Int)}, (∀ e ∈ l, 1 ≤ e.length ∧ e.length ≤ 4096) → Rd (elog l) l (elog l).length
  | [], _ => stop_nil (by simp [elog])
  | e :: l, h => by
    have h1 := h e List.mem_cons_self
    have := (Rd.enc_one h1.1 h1.2).joins (enc_len e).symm (Rd.wholelog (l := l) (fun x hx => h x (List.mem_cons_of_mem _ hx)))
    simpa [elog, enc_len] using this
theorem encs_app : ∀ (l m : List (List Int)), elog (l ++ m) = elog l ++ elog m
  | [], m => rfl
  | e :: l, m => by simp [elog, encs_app l m]
theorem encs_bs : ∀ {l : List (List Int)}, (∀ e ∈ l, Bs e) → Bs (elog l)
  | [], _ => Bs.nil
  | e :: l, h => (enc_bs (h e List.mem_cons_self)).append (encs_bs (fun x hx => h x (List.mem_cons_of_mem _ hx)))
/-- A beginning of an entry is none. -/
theorem cut_not_nok {e : List Int} (h1 : 1 ≤ e.length) (h2 : e.length ≤ 4096) {m : Nat} (hm : m < e.length + 4) : ¬ nok ((enc e).take m) := by
  intro h
  have h0 := h.1
  have h3 := h.2.2.2.1
  have hl : ((enc e).take m).length = m := by rw [List.length_take, enc_len]; omega
  rw [hl] at h0 h3
  have en : nlen ((enc e).take m) = nlen (enc e) := by unfold nlen; rw [rd_take (by omega) (by omega), rd_take (by omega) (by omega)]
  rw [en, enc_nlen h2] at h3
  omega

/-! ### lists of entries are the same -/
theorem same_loop {a b : List (List Int)} (ha : ∀ e ∈ a, Bs e) (hb : ∀ e ∈ b, Bs e) (hl : a.length = b.length) (hm : a.length < 4000000000000) : ∀ (d i : Nat), a.length - i = d → i ≤ a.length → Ev (fun k => bailiwickref20_Same.l0 k a b (i : Int)) (decide (a.drop i = b.drop i))
  | 0, i, hd, hi => by
    refine Ev.step (f := fun _ => some true) (fun k => ?_) ?_
    · simp only [bailiwickref20_Same.l0]; rw [if_neg (by omega)]
    · rw [List.drop_eq_nil_of_le (by omega), List.drop_eq_nil_of_le (by omega)]; exact Ev.now _
  | d + 1, i, hd, hi => by
    have hia : i < a.length := by omega
    have hib : i < b.length := by omega
    have ea : rd_L1 a (i : Int) = a[i] := by unfold rd_L1; rw [List.getD_eq_getElem?_getD]; simp [hia]
    have eb : rd_L1 b (i : Int) = b[i] := by unfold rd_L1; rw [List.getD_eq_getElem?_getD]; simp [hib]
    have ed : decide (a.drop i = b.drop i) = decide (a[i] = b[i] ∧ a.drop (i + 1) = b.drop (i + 1)) := by
      exact decide_eq_decide.2 (by rw [List.drop_eq_getElem_cons hia, List.drop_eq_getElem_cons hib, List.cons.injEq])
    rw [ed]
    by_cases h : a[i] = b[i]
    · have ed2 : decide (a[i] = b[i] ∧ a.drop (i + 1) = b.drop (i + 1)) = decide (a.drop (i + 1) = b.drop (i + 1)) := by simp [h]
      rw [ed2]
      refine Ev.step (fun k => ?_) (same_loop ha hb hl hm d (i + 1) (by omega) (by omega))
      simp only [bailiwickref20_Same.l0]
      rw [if_pos (by omega), if_pos (by omega), if_pos (by omega), ea, eb, if_pos ((strs_eq (ha _ (List.getElem_mem _)) (hb _ (List.getElem_mem _))).2 h), w64 (by omega) (by omega)]
      rfl
    · have ed2 : decide (a[i] = b[i] ∧ a.drop (i + 1) = b.drop (i + 1)) = false := by simp [h]
      rw [ed2]
      refine Ev.step (f := fun _ => some false) (fun k => ?_) (Ev.now _)
      simp only [bailiwickref20_Same.l0]
      rw [if_pos (by omega), if_pos (by omega), if_pos (by omega), ea, eb, if_neg (fun hc => h ((strs_eq (ha _ (List.getElem_mem _)) (hb _ (List.getElem_mem _))).1 hc))]
theorem same_ev {a b : List (List Int)} (ha : ∀ e ∈ a, Bs e) (hb : ∀ e ∈ b, Bs e) (hm : a.length < 4000000000000) : Ev (fun k => bailiwickref20_Same.f k a b) (decide (a = b)) := by
  by_cases hl : a.length = b.length
  · refine Ev.congr (f := fun k => bailiwickref20_Same.l0 k a b 0) (fun k => by simp only [bailiwickref20_Same.f]; rw [if_pos (by omega)]) ?_
    have := same_loop ha hb hl hm a.length 0 (by omega) (by omega)
    simpa using this
  · refine Ev.congr (f := fun _ => some false) (fun k => by simp only [bailiwickref20_Same.f]; rw [if_neg (by omega)]) ?_
    have : a ≠ b := fun h => hl (by rw [h])
    simp [this]
    exact Ev.now _
end Go.Proofs.Ytpnfmaphlfobpaa.LogP
