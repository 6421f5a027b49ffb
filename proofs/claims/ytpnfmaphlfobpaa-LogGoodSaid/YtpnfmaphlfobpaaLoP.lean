/- Layer 20, plainly: what a log's bytes read as. -/
import Derived.WalkKit
namespace Go.Proofs.Ytpnfmaphlfobpaa.LogP
set_option linter.unusedSimpArgs false
set_option linter.unusedVariables false
def rd (l : List Int) (i : Int) : Int := l.getD i.toNat 0
/-- Bytes. -/
def Bs (l : List Int) : Prop := ∀ x ∈ l, 0 ≤ x ∧ x < 256
theorem Bs.nil : Bs [] := fun x hx => by cases hx
theorem Bs.append {a b : List Int} (h : Bs a) (k : Bs b) : Bs (a ++ b) := fun x hx => (List.mem_append.1 hx).elim (h x) (k x)
theorem Bs.take {a : List Int} (h : Bs a) (n : Nat) : Bs (a.take n) := fun x hx => h x (List.mem_of_mem_take hx)
theorem Bs.drop {a : List Int} (h : Bs a) (n : Nat) : Bs (a.drop n) := fun x hx => h x (List.mem_of_mem_drop hx)
theorem rd_mem {l : List Int} {i : Int} (h0 : 0 ≤ i) (h : i < l.length) : rd l i ∈ l := by
  unfold rd
  rw [List.getD_eq_getElem?_getD, List.getElem?_eq_getElem (show i.toNat < l.length by omega)]
  exact List.getElem_mem _

/-- The check's two numbers. -/
def st (p : Int × Int) (c : Int) : Int × Int := ((p.1 + c) % 251, (p.2 + (p.1 + c) % 251) % 251)
def ckp (l : List Int) : Int × Int := l.foldl st (1, 0)
def ck (l : List Int) : Int := (ckp l).2 * 256 + (ckp l).1
theorem st_rng {p : Int × Int} {c : Int} : (0 ≤ (st p c).1 ∧ (st p c).1 < 251) ∧ (0 ≤ (st p c).2 ∧ (st p c).2 < 251) := by unfold st; omega
theorem fold_rng : ∀ (l : List Int) (p : Int × Int), (0 ≤ p.1 ∧ p.1 < 251) ∧ (0 ≤ p.2 ∧ p.2 < 251) → (0 ≤ (l.foldl st p).1 ∧ (l.foldl st p).1 < 251) ∧ (0 ≤ (l.foldl st p).2 ∧ (l.foldl st p).2 < 251)
  | [], p, h => h
  | c :: l, p, h => by rw [List.foldl_cons]; exact fold_rng l _ st_rng
theorem ckp_rng (l : List Int) : (0 ≤ (ckp l).1 ∧ (ckp l).1 < 251) ∧ (0 ≤ (ckp l).2 ∧ (ckp l).2 < 251) := fold_rng l _ ⟨⟨by decide, by decide⟩, ⟨by decide, by decide⟩⟩
theorem ck_rng (l : List Int) : 0 ≤ ck l ∧ ck l < 65536 := by have := ckp_rng l; unfold ck; omega

def two (n : Int) : List Int := [n / 256 % 256, n % 256]
theorem two_bs (n : Int) : Bs (two n) := by
  intro x hx
  simp only [two, List.mem_cons, List.not_mem_nil, or_false] at hx
  omega
/-- An entry as it is written. -/
def enc (e : List Int) : List Int := two e.length ++ e ++ two (ck (two e.length ++ e))
theorem enc_len (e : List Int) : (enc e).length = e.length + 4 := by unfold enc two; simp
theorem enc_bs {e : List Int} (h : Bs e) : Bs (enc e) := ((two_bs _).append h).append (two_bs _)

/-- The next entry, and how many bytes it takes; 0: there is none. -/
def nlen (l : List Int) : Int := rd l 0 * 256 + rd l 1
def nok (l : List Int) : Prop := 2 ≤ l.length ∧ 1 ≤ nlen l ∧ nlen l ≤ 4096 ∧ nlen l + 4 ≤ l.length ∧ two (ck (l.take (nlen l + 2).toNat)) = (l.take (nlen l + 4).toNat).drop (nlen l + 2).toNat
/-- What bytes read as: the entries, and how many bytes they take. -/
inductive Rd : List Int → List (List Int) → Nat → Prop
  | stop {l : List Int} (h : ¬ nok l) : Rd l [] 0
  | more {l : List Int} {es : List (List Int)} {n : Nat} (h : nok l) (t : Rd (l.drop (nlen l + 4).toNat) es n) : Rd l (((l.take (nlen l + 2).toNat).drop 2) :: es) ((nlen l + 4).toNat + n)
theorem Rd.total : ∀ (d : Nat) (l : List Int), l.length ≤ d → ∃ es n, Rd l es n
  | 0, l, hd => ⟨[], 0, .stop (fun h => by have := h.1; omega)⟩
  | d + 1, l, hd => by
    by_cases h : nok l
    · obtain ⟨es, n, hr⟩ := Rd.total d (l.drop (nlen l + 4).toNat) (by have := h.1; have := h.2.1; rw [List.length_drop]; omega)
      exact ⟨_, _, .more h hr⟩
    · exact ⟨[], 0, .stop h⟩
theorem Rd.le {l : List Int} {es : List (List Int)} {n : Nat} (h : Rd l es n) : n ≤ l.length ∧ es.length ≤ n := by
  induction h with
  | stop h => simp
  | more h t ih => have := h.2.1; have := h.2.2.2.1; rw [List.length_drop] at ih; simp only [List.length_cons]; omega
theorem Rd.bs {l : List Int} {es : List (List Int)} {n : Nat} (h : Rd l es n) (hB : Bs l) : ∀ e ∈ es, Bs e := by
  induction h with
  | stop h => intro e he; cases he
  | more h t ih =>
    intro e he
    rcases List.mem_cons.1 he with rfl | he
    · exact (hB.take _).drop _
    · exact ih (hB.drop _) e he
/-! ### what is read hangs on the beginning alone -/
theorem rd_take {l : List Int} {i : Int} {n : Nat} (h0 : 0 ≤ i) (h : i < n) : rd (l.take n) i = rd l i := by
  unfold rd
  rw [List.getD_eq_getElem?_getD, List.getD_eq_getElem?_getD, List.getElem?_take, if_pos (by omega)]
theorem rd_app {l m : List Int} {i : Int} (h0 : 0 ≤ i) (h : i < l.length) : rd (l ++ m) i = rd l i := by
  unfold rd
  rw [List.getD_eq_getElem?_getD, List.getD_eq_getElem?_getD, List.getElem?_append_left (by omega)]
theorem nlen_app {l m : List Int} (h : 2 ≤ l.length) : nlen (l ++ m) = nlen l := by unfold nlen; rw [rd_app (by omega) (by omega), rd_app (by omega) (by omega)]
theorem nok_app {l m : List Int} (h : nok l) : nok (l ++ m) := by
  obtain ⟨h0, h1, h2, h3, h4⟩ := h
  refine ⟨by simp; omega, ?_⟩
  rw [nlen_app h0]
  refine ⟨h1, h2, by simp; omega, ?_⟩
  rw [List.take_append_of_le_length (by omega), List.take_append_of_le_length (by omega)]
  exact h4
/-- A log that is good as a whole, and whatever behind it. -/
theorem Rd.joins {a b : List Int} {es fs : List (List Int)} {n m : Nat} (h : Rd a es n) (hn : n = a.length) (hb : Rd b fs m) : Rd (a ++ b) (es ++ fs) (n + m) := by
  induction h with
  | @stop a h =>
    have : a = [] := List.eq_nil_of_length_eq_zero hn.symm
    subst this
    simpa using hb
  | @more a es n h t ih =>
    have h1 := h.2.1
    have h3 := h.2.2.2.1
    have hd := ih (by rw [List.length_drop]; omega)
    have key := Rd.more (nok_app (m := b) h) (es := es ++ fs) (n := n + m) (by
      rw [nlen_app h.1, List.drop_append_of_le_length (by omega)]
      exact hd)
    rw [nlen_app h.1, List.take_append_of_le_length (by omega)] at key
    rw [Nat.add_assoc]
    exact key
/-- The good part is good. -/
theorem Rd.good {a : List Int} {es : List (List Int)} {n : Nat} (h : Rd a es n) : Rd (a.take n) es n := by
  induction h with
  | @stop a h => rw [List.take_zero]; exact .stop (fun h => by have := h.1; simp at this)
  | @more a es n h t ih =>
    have h1 := h.2.1
    have h3 := h.2.2.2.1
    have hle := t.le.1
    rw [List.length_drop] at hle
    have e : a.take ((nlen a + 4).toNat + n) = a.take (nlen a + 4).toNat ++ (a.drop (nlen a + 4).toNat).take n := by rw [List.take_add]
    rw [e]
    have hk : nok (a.take (nlen a + 4).toNat) ∧ nlen (a.take (nlen a + 4).toNat) = nlen a := by
      have en : nlen (a.take (nlen a + 4).toNat) = nlen a := by
        show rd (a.take (nlen a + 4).toNat) 0 * 256 + rd (a.take (nlen a + 4).toNat) 1 = rd a 0 * 256 + rd a 1
        rw [rd_take (by omega) (by omega), rd_take (by omega) (by omega)]
      refine ⟨⟨by rw [List.length_take]; omega, ?_⟩, en⟩
      rw [en]
      refine ⟨h1, h.2.2.1, by rw [List.length_take]; omega, ?_⟩
      rw [List.take_take, List.take_take, Nat.min_eq_left (by omega), Nat.min_eq_left (by omega)]
      exact h.2.2.2.2
    have key := Rd.more (nok_app (m := (a.drop (nlen a + 4).toNat).take n) hk.1) (es := es) (n := n) (by
      rw [nlen_app hk.1.1, hk.2, List.drop_append_of_le_length (by simp; omega), List.drop_eq_nil_of_le (by simp; omega), List.nil_append]
      exact ih)
    rw [nlen_app hk.1.1, hk.2, List.take_append_of_le_length (by simp; omega), List.take_take, Nat.min_eq_left (by omega)] at key
    exact key
theorem enc_take2 (e : List Int) : (enc e).take (e.length + 2) = two e.length ++ e := by
  unfold enc
  rw [List.take_append_of_le_length (by simp [two] <;> omega), List.take_of_length_le (by simp [two] <;> omega)]
theorem enc_nlen {e : List Int} (h2 : e.length ≤ 4096) : nlen (enc e) = e.length := by
  unfold nlen enc two rd
  simp only [List.cons_append, List.nil_append, Int.toNat_zero, Int.toNat_one, List.getD_cons_zero, List.getD_cons_succ]
  omega
theorem enc_nok {e : List Int} (h1 : 1 ≤ e.length) (h2 : e.length ≤ 4096) : nok (enc e) := by
  refine ⟨by rw [enc_len]; omega, ?_⟩
  rw [enc_nlen h2, enc_len]
  refine ⟨by omega, by omega, by omega, ?_⟩
  have e1 : ((e.length : Int) + 2).toNat = e.length + 2 := by omega
  have e2 : ((e.length : Int) + 4).toNat = e.length + 4 := by omega
  rw [e1, e2, enc_take2, List.take_of_length_le (by rw [enc_len]; omega)]
  unfold enc
  rw [List.drop_append_of_le_length (by simp [two] <;> omega), List.drop_eq_nil_of_le (by simp [two] <;> omega), List.nil_append]
theorem Rd.enc_one {e : List Int} (h1 : 1 ≤ e.length) (h2 : e.length ≤ 4096) : Rd (enc e) [e] (e.length + 4) := by
  have key := Rd.more (enc_nok h1 h2) (es := []) (n := 0) (.stop (fun h => by have := h.1; rw [enc_nlen h2] at this; simp [enc_len] at this; omega))
  rw [enc_nlen h2] at key
  have e1 : ((e.length : Int) + 2).toNat = e.length + 2 := by omega
  have e2 : ((e.length : Int) + 4).toNat = e.length + 4 := by omega
  rw [e1, e2, enc_take2] at key
  simpa [two] using key
theorem stop_nil {l : List Int} (h : l.length < 2) : Rd l [] 0 := .stop (fun k => by have := k.1; omega)
/-- A log, entry by entry. -/
def elog : List (List Int) → List Int
  | [] => []
  | e :: l => enc e ++ elog l
theorem Rd.wholelog : ∀ {l : List (List Int)}, (∀ e ∈ l, 1 ≤ e.length ∧ e.length ≤ 4096) → Rd (elog l) l (elog l).length
  | [], _ => stop_nil (by simp [elog])
  | e :: l, h => by
    have h1 := h e List.mem_cons_self
    have := (Rd.enc_one h1.1 h1.2).joins (enc_len e).symm (Rd.wholelog (l := l) (fun x hx => h x (List.mem_cons_of_mem _ hx)))
    simpa [elog, enc_len] using this
theorem encs_app : ∀ (l m : List (List Int)), elog (l ++ m) = elog l ++ elog m
  | [], m => rfl
  | e :: l, m => by simp [elog, encs_app l m]
theorem encs_bs : ∀ {l : List (List Int)}, (∀ e ∈ l, Bs e) → Bs (elog l)
  | [], _ => Bs.nil
  | e :: l, h => (enc_bs (h e List.mem_cons_self)).append (encs_bs (fun x hx => h x (List.mem_cons_of_mem _ hx)))
/-- A beginning of an entry is none. -/
theorem cut_not_nok {e : List Int} (h1 : 1 ≤ e.length) (h2 : e.length ≤ 4096) {m : Nat} (hm : m < e.length + 4) : ¬ nok ((enc e).take m) := by
  intro h
  have h0 := h.1
  have h3 := h.2.2.2.1
  have hl : ((enc e).take m).length = m := by rw [List.length_take, enc_len]; omega
  rw [hl] at h0 h3
  have en : nlen ((enc e).take m) = nlen (enc e) := by unfold nlen; rw [rd_take (by omega) (by omega), rd_take (by omega) (by omega)]
  rw [en, enc_nlen h2] at h3
  omega

end Go.Proofs.Ytpnfmaphlfobpaa.LogP
