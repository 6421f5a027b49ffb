/- Merging in place, plainly: swaps of ranges, rotations, halves. -/
import Derived.Test.YtpjcicbohgcehaaSoP
namespace Go.Proofs.Ytpjcicbohgcehaa.Ab
set_option linter.unusedVariables false
set_option linter.unusedSimpArgs false

section
variable {α : Type}
/-! ### Two ranges are swapped -/
def swpL (P U M V Q : List α) (i : Nat) : List α := P ++ (V.take i ++ U.drop i) ++ M ++ (U.take i ++ V.drop i) ++ Q
theorem swpL_zero (P U M V Q : List α) : swpL P U M V Q 0 = P ++ U ++ M ++ V ++ Q := by simp [swpL]
theorem swpL_all {P U M V Q : List α} (h : U.length = V.length) : swpL P U M V Q U.length = P ++ V ++ M ++ U ++ Q := by
  unfold swpL
  rw [List.take_of_length_le (Nat.le_of_eq h.symm), List.drop_length, List.take_length, List.drop_eq_nil_of_le (Nat.le_of_eq h.symm)]
  simp
theorem swpL_len {P U M V Q : List α} {i : Nat} (h : U.length = V.length) (hi : i ≤ U.length) : (swpL P U M V Q i).length = P.length + U.length + M.length + V.length + Q.length := by
  unfold swpL
  simp only [List.length_append, List.length_take, List.length_drop]
  omega
theorem get_mid {B D : List α} {x : α} {i : Nat} (h : i = B.length) : (B ++ x :: D)[i]? = some x := by
  subst h; simp
theorem set_mid {B D : List α} {x y : α} {i : Nat} (h : i = B.length) : (B ++ x :: D).set i y = B ++ y :: D := by
  subst h; simp
theorem swpL_split {P U M V Q : List α} {i : Nat} {u v : α} (hu : U[i]? = some u) (hv : V[i]? = some v) :
    swpL P U M V Q i = (P ++ V.take i) ++ u :: (U.drop (i + 1) ++ M ++ U.take i ++ v :: (V.drop (i + 1) ++ Q)) := by
  obtain ⟨h1, rfl⟩ := List.getElem?_eq_some_iff.1 hu
  obtain ⟨h2, rfl⟩ := List.getElem?_eq_some_iff.1 hv
  unfold swpL
  rw [List.drop_eq_getElem_cons h1, List.drop_eq_getElem_cons h2]
  generalize U.drop (i + 1) = A
  generalize V.drop (i + 1) = B
  generalize U[i] = a
  generalize V[i] = b
  simp only [List.append_assoc, List.cons_append]
theorem swpL_split2 {P U M V Q : List α} {i : Nat} {u v : α} (hu : U[i]? = some u) (hv : V[i]? = some v) :
    swpL P U M V Q (i + 1) = (P ++ V.take i) ++ v :: (U.drop (i + 1) ++ M ++ U.take i ++ u :: (V.drop (i + 1) ++ Q)) := by
  obtain ⟨h1, rfl⟩ := List.getElem?_eq_some_iff.1 hu
  obtain ⟨h2, rfl⟩ := List.getElem?_eq_some_iff.1 hv
  unfold swpL
  rw [List.take_succ_eq_append_getElem h1, List.take_succ_eq_append_getElem h2]
  generalize U.drop (i + 1) = A
  generalize V.drop (i + 1) = B
  generalize U[i] = a
  generalize V[i] = b
  simp only [List.append_assoc, List.cons_append, List.nil_append]
theorem swpL_getU {P U M V Q : List α} {i k : Nat} {u : α} (h : U.length = V.length) (hu : U[i]? = some u) (hk : k = P.length + i) : (swpL P U M V Q i)[k]? = some u := by
  have hi := (List.getElem?_eq_some_iff.1 hu).1
  rw [swpL_split hu (List.getElem?_eq_getElem (show i < V.length by omega))]
  exact get_mid (by simp; omega)
theorem swpL_getV {P U M V Q : List α} {i k : Nat} {v : α} (h : U.length = V.length) (hv : V[i]? = some v) (hk : k = P.length + U.length + M.length + i) : (swpL P U M V Q i)[k]? = some v := by
  have hi := (List.getElem?_eq_some_iff.1 hv).1
  rw [swpL_split (List.getElem?_eq_getElem (show i < U.length by omega)) hv, ← List.cons_append, ← List.append_assoc]
  exact get_mid (by simp; omega)
theorem swpL_step {P U M V Q : List α} {i k m : Nat} {u v : α} (h : U.length = V.length) (hu : U[i]? = some u) (hv : V[i]? = some v) (hk : k = P.length + i) (hm : m = P.length + U.length + M.length + i) :
    ((swpL P U M V Q i).set k v).set m u = swpL P U M V Q (i + 1) := by
  have hi := (List.getElem?_eq_some_iff.1 hu).1
  rw [swpL_split hu hv, swpL_split2 hu hv, set_mid (by simp; omega)]
  rw [show ∀ (A B C : List α) (a b : α), A ++ (a :: (B ++ b :: C)) = (A ++ a :: B) ++ b :: C from fun A B C a b => by simp]
  rw [set_mid (by simp; omega)]
  simp
/-! ### A rotation -/
/-- What is still to be turned round: W1 W2, with S1, S2 beside them; T is what shall come of it. -/
structure RotI (T : List α) (a m b : Nat) (P S1 W1 W2 S2 Q : List α) : Prop where
  fin : P ++ S1 ++ W2 ++ W1 ++ S2 ++ Q = T
  mid : P.length + S1.length + W1.length = m
  one : 0 < W1.length
  two : 0 < W2.length
theorem rot_gt {T : List α} {a m b : Nat} {P S1 W1 W2 S2 Q : List α} (h : RotI T a m b P S1 W1 W2 S2 Q) (hg : W2.length < W1.length) :
    RotI T a m b P (S1 ++ W2) (W1.drop W2.length) (W1.take W2.length) S2 Q ∧ P ++ S1 ++ W1 ++ W2 ++ S2 ++ Q = (P ++ S1) ++ W1.take W2.length ++ W1.drop W2.length ++ W2 ++ (S2 ++ Q) ∧
      (P ++ S1) ++ W2 ++ W1.drop W2.length ++ W1.take W2.length ++ (S2 ++ Q) = P ++ (S1 ++ W2) ++ W1.drop W2.length ++ W1.take W2.length ++ S2 ++ Q := by
  refine ⟨⟨?_, ?_, ?_, ?_⟩, ?_, ?_⟩
  · rw [← h.fin]
    have := List.take_append_drop W2.length W1
    calc P ++ (S1 ++ W2) ++ W1.take W2.length ++ W1.drop W2.length ++ S2 ++ Q = P ++ S1 ++ W2 ++ (W1.take W2.length ++ W1.drop W2.length) ++ S2 ++ Q := by simp only [List.append_assoc]
      _ = _ := by rw [this]
  · have := h.mid; simp; omega
  · simp; omega
  · have := h.two; simp; omega
  · have := List.take_append_drop W2.length W1
    calc P ++ S1 ++ W1 ++ W2 ++ S2 ++ Q = P ++ S1 ++ (W1.take W2.length ++ W1.drop W2.length) ++ W2 ++ S2 ++ Q := by rw [this]
      _ = _ := by simp only [List.append_assoc]
  · simp only [List.append_assoc]
theorem rot_lt {T : List α} {a m b : Nat} {P S1 W1 W2 S2 Q : List α} (h : RotI T a m b P S1 W1 W2 S2 Q) (hg : W1.length < W2.length) :
    RotI T a m b P S1 (W2.drop (W2.length - W1.length)) (W2.take (W2.length - W1.length)) (W1 ++ S2) Q ∧ P ++ S1 ++ W1 ++ W2 ++ S2 ++ Q = (P ++ S1) ++ W1 ++ W2.take (W2.length - W1.length) ++ W2.drop (W2.length - W1.length) ++ (S2 ++ Q) ∧
      (P ++ S1) ++ W2.drop (W2.length - W1.length) ++ W2.take (W2.length - W1.length) ++ W1 ++ (S2 ++ Q) = P ++ S1 ++ W2.drop (W2.length - W1.length) ++ W2.take (W2.length - W1.length) ++ (W1 ++ S2) ++ Q := by
  refine ⟨⟨?_, ?_, ?_, ?_⟩, ?_, ?_⟩
  · rw [← h.fin]
    have := List.take_append_drop (W2.length - W1.length) W2
    calc P ++ S1 ++ W2.take (W2.length - W1.length) ++ W2.drop (W2.length - W1.length) ++ (W1 ++ S2) ++ Q = P ++ S1 ++ (W2.take (W2.length - W1.length) ++ W2.drop (W2.length - W1.length)) ++ W1 ++ S2 ++ Q := by simp only [List.append_assoc]
      _ = _ := by rw [this]
  · have := h.mid; simp; omega
  · have := h.one; simp; omega
  · simp; omega
  · have := List.take_append_drop (W2.length - W1.length) W2
    calc P ++ S1 ++ W1 ++ W2 ++ S2 ++ Q = P ++ S1 ++ W1 ++ (W2.take (W2.length - W1.length) ++ W2.drop (W2.length - W1.length)) ++ S2 ++ Q := by rw [this]
      _ = _ := by simp only [List.append_assoc]
  · simp only [List.append_assoc]
/-! ### The merge -/
/-- Of two sorted rows: what is compared tells which is ahead. -/
structure MgI (R : α → α → Prop) (c : α → α → Int) (X Y : List α) : Prop where
  sx : X.Pairwise R
  sy : Y.Pairwise R
  lt : ∀ x ∈ X, ∀ y ∈ Y, c y x < 0 → R y x
  ge : ∀ x ∈ X, ∀ y ∈ Y, ¬ c y x < 0 → R x y
theorem MgI.sub {R : α → α → Prop} {c : α → α → Int} {X Y X' Y' : List α} (h : MgI R c X Y) (hx : X'.Sublist X) (hy : Y'.Sublist Y) : MgI R c X' Y' :=
  ⟨h.sx.sublist hx, h.sy.sublist hy, fun x mx y my => h.lt x (hx.subset mx) y (hy.subset my), fun x mx y my => h.ge x (hx.subset mx) y (hy.subset my)⟩
/-- What a merge leaves: the same, sorted. -/
def Mgd (R : α → α → Prop) (X Y Z : List α) : Prop := Z.Perm (X ++ Y) ∧ Z.Pairwise R
/-- Four parts: those of the first two are ahead of those of the last two. -/
theorem Mgd.join {R : α → α → Prop} (ht : ∀ a b c, R a b → R b c → R a c) {c : α → α → Int} {X1 X2 Y1 Y2 Z1 Z2 : List α} (h : MgI R c (X1 ++ X2) (Y1 ++ Y2)) (h1 : Mgd R X1 Y1 Z1) (h2 : Mgd R X2 Y2 Z2) (ha : ∀ x ∈ X2, ∀ y ∈ Y1, R y x) (hb : ∀ x ∈ X1, ∀ y ∈ Y2, R x y) : Mgd R (X1 ++ X2) (Y1 ++ Y2) (Z1 ++ Z2) := by
  refine ⟨?_, ?_⟩
  · refine (h1.1.append h2.1).trans ?_
    rw [List.append_assoc, List.append_assoc]
    refine List.Perm.append_left X1 ?_
    rw [← List.append_assoc, ← List.append_assoc]
    exact List.Perm.append_right Y2 List.perm_append_comm
  · rw [List.pairwise_append]
    refine ⟨h1.2, h2.2, fun u hu v hv => ?_⟩
    have hu := h1.1.mem_iff.1 hu
    have hv := h2.1.mem_iff.1 hv
    rw [List.mem_append] at hu hv
    have sx := List.pairwise_append.1 h.sx
    have sy := List.pairwise_append.1 h.sy
    rcases hu with hu | hu
    · rcases hv with hv | hv
      · exact sx.2.2 u hu v hv
      · exact hb u hu v hv
    · rcases hv with hv | hv
      · exact ha v hv u hu
      · exact sy.2.2 u hu v hv
theorem Mgd.nilX {R : α → α → Prop} {Y : List α} (h : Y.Pairwise R) : Mgd R [] Y Y := ⟨List.Perm.refl _, h⟩
theorem Mgd.nilY {R : α → α → Prop} {X : List α} (h : X.Pairwise R) : Mgd R X [] X := ⟨by rw [List.append_nil], h⟩
/-- One that goes into a sorted row: those ahead of it come first. -/
theorem Mgd.one {R : α → α → Prop} {x : α} {A B : List α} (h : (A ++ B).Pairwise R) (ha : ∀ y ∈ A, R y x) (hb : ∀ y ∈ B, R x y) : (A ++ x :: B).Pairwise R := by
  rw [List.pairwise_append] at h ⊢
  refine ⟨h.1, List.pairwise_cons.2 ⟨hb, h.2.1⟩, fun u hu v hv => ?_⟩
  rcases List.mem_cons.1 hv with rfl | hv
  · exact ha u hu
  · exact h.2.2 u hu v hv
/-- All up to a place are so, as one of them is, and the row is sorted. -/
theorem take_R {R : α → α → Prop} (ht : ∀ a b c, R a b → R b c → R a c) {Y : List α} (hs : Y.Pairwise R) {x y : α} {i : Nat} (hy : Y[i]? = some y) (h : R y x) : ∀ z ∈ Y.take (i + 1), R z x := fun z hz => by
  obtain ⟨h1, rfl⟩ := List.getElem?_eq_some_iff.1 hy
  obtain ⟨k, hk, rfl⟩ := List.mem_take_iff_getElem.1 hz
  by_cases e : k = i
  · subst e; exact h
  · exact ht _ _ _ (List.pairwise_iff_getElem.1 hs k i (by omega) h1 (by omega)) h
theorem drop_R {R : α → α → Prop} (ht : ∀ a b c, R a b → R b c → R a c) {Y : List α} (hs : Y.Pairwise R) {x y : α} {i : Nat} (hy : Y[i]? = some y) (h : R x y) : ∀ z ∈ Y.drop i, R x z := fun z hz => by
  obtain ⟨h1, rfl⟩ := List.getElem?_eq_some_iff.1 hy
  obtain ⟨k, hk, rfl⟩ := List.mem_drop_iff_getElem.1 hz
  by_cases e : k = 0
  · subst e; exact h
  · exact ht _ _ _ h (List.pairwise_iff_getElem.1 hs i (i + k) h1 (by omega) (by omega))
/-! ### One that is moved -/
/-- x has come past the first k of D (that stood behind it). -/
def fwdL (A : List α) (x : α) (D C : List α) (k : Nat) : List α := A ++ D.take k ++ x :: (D.drop k ++ C)
theorem fwdL_len (A : List α) (x : α) (D C : List α) (k : Nat) : (fwdL A x D C k).length = A.length + 1 + D.length + C.length := by
  unfold fwdL
  have := List.take_append_drop k D
  have h2 := congrArg List.length this
  simp only [List.length_append] at h2
  simp only [List.length_append, List.length_cons]
  omega
theorem fwdL_at {A D C : List α} {x : α} {k i : Nat} (hk : k ≤ D.length) (hi : i = A.length + k) : (fwdL A x D C k)[i]? = some x := get_mid (by simp; omega)
theorem fwdL_next {A D C : List α} {x d : α} {k i : Nat} (hd : D[k]? = some d) (hi : i = A.length + k + 1) : (fwdL A x D C k)[i]? = some d := by
  obtain ⟨h1, rfl⟩ := List.getElem?_eq_some_iff.1 hd
  unfold fwdL
  rw [List.drop_eq_getElem_cons h1, List.cons_append]
  rw [show ∀ (A B : List α) (a b : α), A ++ a :: (b :: B) = (A ++ [a]) ++ b :: B from fun A B a b => by simp]
  exact get_mid (by simp; omega)
theorem fwdL_step {A D C : List α} {x d : α} {k i j : Nat} (hd : D[k]? = some d) (hi : i = A.length + k) (hj : j = i + 1) : ((fwdL A x D C k).set i d).set j x = fwdL A x D C (k + 1) := by
  obtain ⟨h1, rfl⟩ := List.getElem?_eq_some_iff.1 hd
  unfold fwdL
  rw [List.drop_eq_getElem_cons h1, set_mid (by simp; omega), List.take_succ_eq_append_getElem h1, List.cons_append]
  rw [show ∀ (A B : List α) (a b : α), A ++ a :: (b :: B) = (A ++ [a]) ++ b :: B from fun A B a b => by simp]
  rw [set_mid (by simp; omega)]
  simp
theorem fwdL_back {A D C : List α} {x d : α} {k i j : Nat} (hd : D[k]? = some d) (hi : i = A.length + k + 1) (hj : i = j + 1) : ((fwdL A x D C (k + 1)).set i d).set j x = fwdL A x D C k := by
  obtain ⟨h1, rfl⟩ := List.getElem?_eq_some_iff.1 hd
  unfold fwdL
  rw [List.drop_eq_getElem_cons h1, set_mid (by simp; omega), List.take_succ_eq_append_getElem h1]
  rw [show ∀ (A B E : List α) (a b : α), A ++ (B ++ [a]) ++ b :: E = (A ++ B) ++ a :: (b :: E) from fun A B E a b => by simp]
  rw [set_mid (by simp; omega)]
  generalize D.drop (k + 1) = G
  generalize D[k] = d
  simp
theorem fwdL_prev {A D C : List α} {x d : α} {k i : Nat} (hd : D[k]? = some d) (hi : i = A.length + k) : (fwdL A x D C (k + 1))[i]? = some d := by
  obtain ⟨h1, rfl⟩ := List.getElem?_eq_some_iff.1 hd
  unfold fwdL
  rw [List.take_succ_eq_append_getElem h1]
  rw [show ∀ (A B E : List α) (a b : α), A ++ (B ++ [a]) ++ b :: E = (A ++ B) ++ a :: (b :: E) from fun A B E a b => by simp]
  exact get_mid (by simp; omega)
end

/-! ### Runs -/
section
variable {α : Type}
def fl1 (ps : List (List α × List α)) : List α := (ps.map (·.1)).flatten
def fl2 (ps : List (List α × List α)) : List α := (ps.map (·.2)).flatten
theorem fl1_app (a b : List (List α × List α)) : fl1 (a ++ b) = fl1 a ++ fl1 b := by simp [fl1]
theorem fl2_app (a b : List (List α × List α)) : fl2 (a ++ b) = fl2 a ++ fl2 b := by simp [fl2]
theorem fl1_cons (p : List α × List α) (b : List (List α × List α)) : fl1 (p :: b) = p.1 ++ fl1 b := by simp [fl1]
theorem fl2_cons (p : List α × List α) (b : List (List α × List α)) : fl2 (p :: b) = p.2 ++ fl2 b := by simp [fl2]
theorem fl1_nil : fl1 ([] : List (List α × List α)) = [] := rfl
theorem fl2_nil : fl2 ([] : List (List α × List α)) = [] := rfl
def Run (R : α → α → Prop) (p : List α × List α) : Prop := p.1.Perm p.2 ∧ p.1.Pairwise R
def Runs (R : α → α → Prop) (ps : List (List α × List α)) : Prop := ∀ p ∈ ps, Run R p
theorem Runs.perm {R : α → α → Prop} : ∀ {ps : List (List α × List α)}, Runs R ps → (fl1 ps).Perm (fl2 ps)
  | [], _ => List.Perm.refl _
  | p :: ps, h => by
    rw [fl1_cons, fl2_cons]
    exact (h p List.mem_cons_self).1.append (Runs.perm fun q hq => h q (List.mem_cons_of_mem _ hq))
def Sized (k : Nat) : List (List α × List α) → Prop
  | [] => True
  | [p] => 0 < p.1.length ∧ p.1.length ≤ k
  | p :: q :: r => p.1.length = k ∧ Sized k (q :: r)
theorem sized_two {k : Nat} {ts : List (List α × List α)} (hk : 0 < k) (h : Sized k ts) (hl : 2 * k ≤ (fl1 ts).length) : ∃ p q r, ts = p :: q :: r ∧ p.1.length = k ∧ q.1.length = k ∧ Sized k r := by
  match ts, h, hl with
  | [], _, hl => simp [fl1] at hl; omega
  | [p], h, hl => simp [fl1] at hl; have := h.2; omega
  | [p, q], h, hl =>
    simp [fl1] at hl
    have h1 := h.1
    have h2 := h.2.2
    exact ⟨p, q, [], rfl, h1, by omega, trivial⟩
  | p :: q :: s :: r, h, hl => exact ⟨p, q, s :: r, rfl, h.1, h.2.1, h.2.2⟩
theorem sized_small {k : Nat} {ts : List (List α × List α)} (h : Sized k ts) (hl : (fl1 ts).length < 2 * k) : ts = [] ∨ (∃ p, ts = [p] ∧ 0 < p.1.length ∧ p.1.length ≤ k) ∨ ∃ p q, ts = [p, q] ∧ p.1.length = k ∧ 0 < q.1.length ∧ q.1.length ≤ k := by
  match ts, h, hl with
  | [], _, hl => exact .inl rfl
  | [p], h, hl => exact .inr (.inl ⟨p, rfl, h.1, h.2⟩)
  | [p, q], h, hl => exact .inr (.inr ⟨p, q, rfl, h.1, h.2.1, h.2.2⟩)
  | p :: q :: s :: r, h, hl =>
    have h1 := h.1
    have h2 := h.2.1
    simp [fl1] at hl
    omega
theorem sized_app {k : Nat} {tl : List (List α × List α)} : ∀ {ds : List (List α × List α)}, (∀ p ∈ ds, p.1.length = k) → 0 < k → Sized k tl → Sized k (ds ++ tl)
  | [], _, _, h => h
  | [p], hd, hk, h => by
    have e := hd p List.mem_cons_self
    cases tl with
    | nil => exact ⟨by omega, by omega⟩
    | cons q r => exact ⟨e, h⟩
  | p :: q :: r, hd, hk, h => by
    have e := hd p List.mem_cons_self
    exact ⟨e, sized_app (ds := q :: r) (fun x hx => hd x (List.mem_cons_of_mem _ hx)) hk h⟩
theorem sized_end {k : Nat} {ts : List (List α × List α)} (h : Sized k ts) (hl : (fl1 ts).length ≤ k) {R : α → α → Prop} (hr : Runs R ts) : (fl1 ts).Pairwise R := by
  match ts, h, hl, hr with
  | [], _, hl, _ => exact List.Pairwise.nil
  | [p], h, hl, hr => simpa [fl1] using (hr p List.mem_cons_self).2
  | [p, q], h, hl, hr =>
    simp [fl1] at hl
    have h1 := h.1
    have h2 := h.2.1
    omega
  | p :: q :: s :: r, h, hl, hr =>
    have h1 := h.1
    simp [fl1] at hl
    have h2 := h.2.1
    have h3 : 0 < (s :: r).length := by simp
    have : ∀ {k : Nat} {s : List α × List α} {r : List (List α × List α)}, Sized k (s :: r) → 0 < k → 0 < s.1.length := fun {k s r} hs hk => by
      cases r with
      | nil => exact hs.1
      | cons x y => have := hs.1; omega
    rcases Nat.eq_zero_or_pos k with hk | hk
    · have : ∀ (k : Nat) (hk : k = 0) (r : List (List α × List α)) (s : List α × List α), Sized k (s :: r) → False := fun k hk r => by
        induction r with
        | nil => intro s hs; have := hs.1; have := hs.2; omega
        | cons x y ih => intro s hs; exact ih x hs.2
      exact (this k hk r s h.2.2).elim
    · have := this h.2.2 hk; omega
/-- What stands first and what stands behind, in what was given. -/
def Ord (R : α → α → Prop) (c : α → α → Int) (l : List α) : Prop := l.Pairwise fun a b => (c b a < 0 → R b a) ∧ (¬ c b a < 0 → R a b)
theorem Runs.merge {R : α → α → Prop} {c : α → α → Int} {A B : List (List α × List α)} {p q : List α × List α} (h : Runs R (A ++ p :: q :: B)) (ho : Ord R c (fl2 (A ++ p :: q :: B))) : MgI R c p.1 q.1 := by
  have hp := h p (by simp)
  have hq := h q (by simp)
  rw [fl2_app, fl2_cons, fl2_cons] at ho
  have h1 := (List.pairwise_append.1 (List.pairwise_append.1 ho).2.1).2.2
  refine ⟨hp.2, hq.2, fun x hx y hy => ?_, fun x hx y hy => ?_⟩
  · exact (h1 x (hp.1.mem_iff.1 hx) y (List.mem_append_left _ (hq.1.mem_iff.1 hy))).1
  · exact (h1 x (hp.1.mem_iff.1 hx) y (List.mem_append_left _ (hq.1.mem_iff.1 hy))).2
theorem Runs.merged {R : α → α → Prop} {A B : List (List α × List α)} {p q : List α × List α} (h : Runs R (A ++ p :: q :: B)) {Z : List α} (hz : Mgd R p.1 q.1 Z) : Runs R (A ++ (Z, p.2 ++ q.2) :: B) := fun r hr => by
  have hp := h p (by simp)
  have hq := h q (by simp)
  rcases List.mem_append.1 hr with hr | hr
  · exact h r (List.mem_append_left _ hr)
  · rcases List.mem_cons.1 hr with rfl | hr
    · exact ⟨hz.1.trans (hp.1.append hq.1), hz.2⟩
    · exact h r (List.mem_append_right _ (List.mem_cons_of_mem _ (List.mem_cons_of_mem _ hr)))
theorem merged_fl2 (A B : List (List α × List α)) (p q : List α × List α) (Z : List α) : fl2 (A ++ (Z, p.2 ++ q.2) :: B) = fl2 (A ++ p :: q :: B) := by
  rw [fl2_app, fl2_app, fl2_cons, fl2_cons, fl2_cons, List.append_assoc]
theorem run_srt {R : α → α → Prop} (ht : ∀ a b c, R a b → R b c → R a c) {c : α → α → Int} {l : List α} (h : Ord R c l) : Run R (srt (fun a b => decide (c a b < 0)) l, l) := by
  refine ⟨srt_perm _ _, srt_sorted (h.imp fun {a b} h => ⟨fun h1 => h.1 (of_decide_eq_true h1), fun h1 => h.2 (of_decide_eq_false h1)⟩) ht⟩
theorem Ord.sub {R : α → α → Prop} {c : α → α → Int} {l m : List α} (h : Ord R c l) (hs : m.Sublist l) : Ord R c m := List.Pairwise.sublist hs h
end
end Go.Proofs.Ytpjcicbohgcehaa.Ab
