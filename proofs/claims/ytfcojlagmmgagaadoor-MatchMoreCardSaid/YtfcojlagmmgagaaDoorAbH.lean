/- The abstract layer, part H: append, len, slices cut, what is frozen. -/
import Derived.Test.YtfcojlagmmgagaaDoorAbG
namespace Go.Proofs.YtfcojlagmmgagaaDoor.Ab
open Go.RowKit
set_option linter.unusedVariables false
set_option linter.unusedSimpArgs false

section
variable {kp : Nat → Prop} {w w' : World} {E E' : Env} {st st' : St} {a : Act} {t d : Nat} {o : Obj'}
/-- One tag goes, another one comes, in its block or in a new one. -/
theorem Inv.re (h : Inv kp w E st a) (hf : st.fresh d = true) {x : Option (Nat × Nat × Nat)} (hsz : w.heap.size ≤ w'.heap.size)
    (hold : ∀ i, i < w.heap.size → (∀ o c s, lk st.m t = some o → E.at_ t = some (i, c, s) → False) → w'.heap[i]? = w.heap[i]?)
    (hx : ∀ g c s, x = some (g, c, s) → (w.heap.size ≤ g ∧ g < w'.heap.size) ∨ (∃ o' c' s', lk st.m t = some o' ∧ E.at_ t = some (g, c', s')))
    (hm : MemRep w' (E.set d x) (lk (up (rm st.m t) d o)) d o) : Inv kp w' (E.set d x) { st with m := up (rm st.m t) d o } a := by
  have hf' := hf
  simp only [St.fresh, Bool.and_eq_true, Bool.not_eq_true', Option.isNone_iff_eq_none, decide_eq_true_eq] at hf
  obtain ⟨_, hh, hn⟩ := hf
  have hokb : ∀ b, E.ok b → w'.heap[b]? = w.heap[b]? := fun b hb => hold b (h.okl b hb) (fun o c s h1 h2 => (h.own t o b c s h1 h2).2.1 hb)
  have hok : ∀ b, E.ok b → (E.set d x).ok b ∧ w'.heap[b]? = w.heap[b]? := fun b hb => ⟨hb, hokb b hb⟩
  have hlk : ∀ s, s ≠ d → lk (up (rm st.m t) d o) s = if t = s then none else lk st.m s := fun s hs => by rw [lk_up, if_neg (Ne.symm hs), lk_rm]
  have hpass : ∀ s, s ≠ d → Pass E (E.set d x) (lk st.m) (lk (up (rm st.m t) d o)) s := fun s hs => by
    unfold Pass
    rw [hlk s hs, show (E.set d x).at_ s = E.at_ s by simp [Env.set, hs]]
    split
    · exact .inl rfl
    · exact same_tags E (lk st.m) s
  have hat : ∀ s o', lk (up (rm st.m t) d o) s = some o' → (s = d ∧ o' = o) ∨ (s ≠ d ∧ s ≠ t ∧ lk st.m s = some o') := fun s o' hs => by
    by_cases e : s = d
    · rw [lk_up, if_pos e.symm] at hs; simp at hs; exact .inl ⟨e, hs.symm⟩
    · rw [hlk s e] at hs
      split at hs
      · cases hs
      · exact .inr ⟨e, by omega, hs⟩
  refine h.turn hsz hok (fun s hs => hpass s (fresh_ne hf' hs)) ?_ ?_ ?_ (fun b hb => Nat.lt_of_lt_of_le (h.okl b hb) hsz)
  · intro s o' hs
    rcases hat s o' hs with ⟨rfl, rfl⟩ | ⟨hne, hnt, ks⟩
    · exact hm
    · refine (h.mm s o' ks).keep hok (by simp [Env.set, hne]) (fun g c' s' hg => hold g (h.own s o' g c' s' ks hg).1 (fun o1 c1 s1 h1 h2 => hnt (h.inj s t o' o1 g c' s' c1 s1 ks h1 hg h2))) fun u cs hcs hu => hpass u ?_
      intro hut
      rw [hcs] at ks
      rw [hut, held_m hh ks] at hu
      cases hu
  · intro s s' o1 o2 g c1 z1 c2 z2 h1 h2 e1 e2
    have key : ∀ s o1 c1 z1, s ≠ d → s ≠ t → lk st.m s = some o1 → E.at_ s = some (g, c1, z1) → ∀ c2 z2, x = some (g, c2, z2) → False := fun s o1 c1 z1 n1 n2 k1 q1 c2 z2 q2 => by
      rcases hx g c2 z2 q2 with ⟨h9, _⟩ | ⟨o', c', s', h9, h10⟩
      · have := (h.own s o1 g c1 z1 k1 q1).1; omega
      · exact n2 (h.inj s t o1 o' g c1 z1 c' s' k1 h9 q1 h10)
    rcases hat s o1 h1 with ⟨rfl, rfl⟩ | ⟨n1, n2, k1⟩ <;> rcases hat s' o2 h2 with ⟨rfl, rfl⟩ | ⟨n1', n2', k2⟩
    · rfl
    · simp only [Env.set, if_true, if_neg n1'] at e1 e2
      exact (key s' o2 c2 z2 n1' n2' k2 e2 c1 z1 e1).elim
    · simp only [Env.set, if_true, if_neg n1] at e1 e2
      exact (key s o1 c1 z1 n1 n2 k1 e1 c2 z2 e2).elim
    · simp only [Env.set, if_neg n1, if_neg n1'] at e1 e2
      exact h.inj s s' o1 o2 g c1 z1 c2 z2 k1 k2 e1 e2
  · intro s o' g c' s' hs hg
    rcases hat s o' hs with ⟨rfl, rfl⟩ | ⟨n1, n2, k1⟩
    · simp only [Env.set, if_true] at hg
      rcases hx g c' s' hg with ⟨h9, h10⟩ | ⟨o1, c1, s1, h9, h10⟩
      · exact ⟨h10, fun hk => by have := h.okl _ hk; omega, fun hk => by have := h.kpl _ hk; omega⟩
      · have := h.own t o1 g c1 s1 h9 h10
        exact ⟨by omega, this.2⟩
    · simp only [Env.set, if_neg n1] at hg
      have := h.own s o' g c' s' k1 hg
      exact ⟨by omega, this.2⟩
theorem Evo.re (h : Inv kp w E st a) (hd : w'.os = w.os ∧ w'.tape = w.tape ∧ w'.output = w.output) (hsz : w.heap.size ≤ w'.heap.size)
    (hold : ∀ i, i < w.heap.size → (∀ o c s, lk st.m t = some o → E.at_ t = some (i, c, s) → False) → w'.heap[i]? = w.heap[i]?) (he : E'.ok = E.ok) (hp : ∀ t, 1000000 ≤ t → E'.at_ t = E.at_ t) : Evo kp w E w' E' :=
  ⟨hd.1, hd.2.1, hd.2.2, hsz, fun b hb => hold b (h.kpl b hb) (fun o c s h1 h2 => (h.own t o b c s h1 h2).2.2 hb), fun b hb => ⟨by rw [he]; exact hb, hold b (h.okl b hb) (fun o c s h1 h2 => (h.own t o b c s h1 h2).2.1 hb)⟩,
    fun b hb => .inl (by rw [he] at hb; exact hb), hp⟩
end

/-- A slice that is read: its elements. -/
def rowOf (st : St) : AV → Option (List SV)
  | .own t => match lk st.m t with
    | some (.row _ xs) => some xs
    | _ => none
  | .sv (.lst xs) => some xs
  | .nil => some []
  | _ => none
theorem src_rep {keep : Nat → Prop} {w : World} {E : Env} {st : St} {a : Act} (hI : Inv keep w E st a) {Y : AV} {ys : List SV} (hy : rowOf st Y = some ys) {v : Value} (hv : RepV w E (lk st.m) Y v) :
    ∃ b c, v = .slice b ys.length c ∧ ys.length ≤ c ∧ (ys = [] ∨ ∃ ad sz vs, b = some ad ∧ RepL w E.ok ys vs ∧ ∀ (i : Nat) (u : Value), vs[i]? = some u → u.cells.size = sz ∧ At w u (ad.add (i * sz))) := by
  unfold rowOf at hy
  split at hy
  · rename_i t
    split at hy
    case h_2 => cases hy
    rename_i sz xs hm
    simp only [Option.some.injEq] at hy; subst hy
    simp only [RepV, hm] at hv
    obtain ⟨h0, hmm⟩ := hI.mm t _ hm
    rcases hmm with ⟨h1, rfl⟩ | ⟨g, c, e, cur, vs, h1, h2, h3, h4, h5, h6, h7, h8⟩
    · rw [h1] at hv
      obtain ⟨b, rfl⟩ := hv
      exact ⟨b, 0, rfl, Nat.le_refl _, .inl rfl⟩
    · rw [h1] at hv
      refine ⟨_, c, hv, h4, .inr ⟨⟨g, 0, none⟩, sz, vs, rfl, h7, fun i u hu => ?_⟩⟩
      obtain ⟨k1, k2, k3⟩ := h8 i u hu
      refine ⟨k1, fun j y hy => ?_⟩
      rw [Go.Deep.add_add, add_lit, cell_of_row w g _ cur e (0, 0) h2, Nat.zero_add]
      exact k3 j y hy
  · rename_i xs
    simp only [Option.some.injEq] at hy; subst hy
    simp only [RepV, RepS] at hv
    obtain ⟨b, c, rfl, hc, hor⟩ := hv
    refine ⟨b, c, rfl, hc, ?_⟩
    rcases hor with h | ⟨ad, sz, vs, rfl, _, h1, h2⟩
    · exact .inl h
    · exact .inr ⟨ad, sz, vs, rfl, h1, h2⟩
  · simp only [Option.some.injEq] at hy; subst hy
    simp only [RepV] at hv
    exact ⟨none, 0, hv, Nat.le_refl _, .inl rfl⟩
  · cases hy

theorem flat_at {w : World} {sz : Nat} : ∀ (vs : List Value) (ad : Addr), (∀ (i : Nat) (u : Value), vs[i]? = some u → u.cells.size = sz ∧ At w u (ad.add (i * sz))) → ∀ (j : Nat) (y : Value), (flat vs)[j]? = some y → w.cell? (ad.add j) = some y
  | [], _, _, j, y, hy => by simp [flat] at hy
  | v :: vs, ad, h, j, y, hy => by
    obtain ⟨h1, h2⟩ := h 0 v rfl
    simp only [flat, List.flatMap_cons] at hy
    by_cases hj : j < sz
    · rw [List.getElem?_append_left (by simpa [h1] using hj)] at hy
      have := h2 j y (by simpa using hy)
      rwa [Nat.zero_mul, show ad.add 0 = ad by simp [Addr.add]] at this
    · rw [List.getElem?_append_right (by simp [h1]; omega)] at hy
      have := flat_at vs (ad.add sz) (fun i u hu => by
        obtain ⟨k1, k2⟩ := h (i + 1) u (by simpa using hu)
        refine ⟨k1, ?_⟩
        rw [Go.Deep.add_add, show sz + i * sz = (i + 1) * sz by rw [Nat.add_mul]; omega]
        exact k2) (j - sz) y (by simpa [flat, h1] using hy)
      rw [Go.Deep.add_add, show sz + (j - sz) = j by omega] at this
      exact this

section
variable {P : Program}
/-- The elements that are appended, as the machine reads them. -/
theorem src_first {keep : Nat → Prop} {w : World} {E : Env} {st : St} {a : Act} (hI : Inv keep w E st a) {Y : AV} {ys : List SV} {sz : Nat} (hy : rowOf st Y = some ys) (hf : ∀ y ∈ ys, y.fits sz = true) {v : Value} (hv : RepV w E (lk st.m) Y v) :
    ∃ us, RepL w E.ok ys us ∧ (∀ u ∈ us, u.cells.size = sz ∧ ∀ y ∈ u.cells, y.oneCell' = true) ∧ (∀ w', w'.heap = w.heap → (Builtin.firstCells sz ys.length v).run P w' = .ok (flat us).toArray w') ∧ (Builtin.lenOf v).run P w = .ok ys.length w := by
  obtain ⟨b, c, rfl, hc, hor⟩ := src_rep hI hy hv
  rcases hor with rfl | ⟨ad, sz', vs, rfl, hr, hat⟩
  · refine ⟨[], RepL.nil, (fun u hu => by cases hu), fun w' _ => ?_, by simp [Builtin.lenOf]⟩
    cases b with
    | none => exact run_firstCells_none _ _ _ _ _
    | some ad => exact run_firstCells_some w' sz 0 ad 0 c [] (by simp) (fun j v hv => by simp at hv)
  · have hall := fits_repL hf hr
    refine ⟨vs, hr, hall, fun w' hw => ?_, by simp [Builtin.lenOf]⟩
    refine run_firstCells_some w' sz ys.length ad ys.length c (flat vs) (by unfold flat; rw [flat_len vs (fun u hu => (hall u hu).1), hr.len]) (fun j y hy => ?_)
    have : w'.cell? (ad.add j) = w.cell? (ad.add j) := by simp [World.cell?, hw]
    rw [this]
    exact flat_at vs ad hat j y hy

theorem run_append_fits {w : World} {t ty e : TypeId} {i : TypeInfo} {g sLen sCap m : Nat} {cur : Array Value} {e' : TypeId} {yv : Value} {news : List Value} (ht : P.underlying t = some (.slice e)) (hi : P.info? e = some i) (hg : w.heap[g]? = some (.cells cur e' (0, 0)))
    (hlen : (Builtin.lenOf yv).run P w = .ok m w) (hf : (Builtin.firstCells i.size m yv).run P w = .ok news.toArray w) (hl : news.length = m * i.size) (h1 : ∀ u ∈ news, u.oneCell' = true) (hroom : sLen + m ≤ sCap) (hfit : sLen * i.size + news.length ≤ cur.size) :
    (Builtin.append_ #[t, t] ty #[.slice (some ⟨g, 0, none⟩) sLen sCap, yv]).run P w = .ok (.slice (some ⟨g, 0, none⟩) (sLen + m) sCap) (w.setRow g (setAt cur.toList (sLen * i.size) news).toArray) := by
  have hst := run_storeCells_at P g (sLen * i.size) e' news 0 cur w hg (by simpa using hfit) h1
  simp only [Nat.add_zero] at hst
  simp [Builtin.append_, run_underlying ht, sizeOf, typeInfo, hi, hlen, hroom, hf, Addr.add_lit, hst, setAt]
theorem run_append_none {w : World} {t ty e : TypeId} {i : TypeInfo} {b : Option Addr} {c : Nat} {yv : Value} (ht : P.underlying t = some (.slice e)) (hi : P.info? e = some i)
    (hlen : (Builtin.lenOf yv).run P w = .ok 0 w) (hf : (Builtin.firstCells i.size 0 yv).run P w = .ok #[] w) :
    (Builtin.append_ #[t, t] ty #[.slice b 0 c, yv]).run P w = .ok (.slice b 0 c) w := by
  cases b <;> simp [Builtin.append_, run_underlying ht, sizeOf, typeInfo, hi, hlen, hf, storeCells]
theorem run_append_grows {w : World} {t ty e : TypeId} {i : TypeInfo} {z : Value} {b : Option Addr} {sLen sCap m : Nat} {yv : Value} {olds news : List Value} (ht : P.underlying t = some (.slice e)) (hi : P.info? e = some i) (hz : i.zero = some z)
    (hlen : (Builtin.lenOf yv).run P w = .ok m w) (ho : (Builtin.firstCells i.size sLen (.slice b sLen sCap)).run P w.drew = .ok olds.toArray w.drew) (hf : (Builtin.firstCells i.size m yv).run P w.drew = .ok news.toArray w.drew)
    (hg : sCap < sLen + m) (h63 : ((sLen + m : Nat) : Int) ≤ 9223372036854775807) (hfit : Builtin.nextslicecap (sLen + m) sCap * i.bytes ≤ 281474976710656) :
    (Builtin.append_ #[t, t] ty #[.slice b sLen sCap, yv]).run P w = .ok (.slice (some ⟨w.heap.size, 0, none⟩) (sLen + m) (grownCap w (sLen + m) sCap e))
      (w.drew.alloc (.cells (olds.toArray ++ news.toArray ++ Builtin.zeroCells z.cells (grownCap w (sLen + m) sCap e - (sLen + m))) e)) := by
  have hn : ¬ (sLen + m ≤ sCap) := by omega
  have h63' : ¬ (9223372036854775807 < ((sLen : Int) + (m : Int))) := by omega
  have h48' : ¬ (281474976710656 < Builtin.nextslicecap (sLen + m) sCap * i.bytes) := by omega
  simp [Builtin.append_, run_underlying ht, sizeOf, typeInfo, zeroValue, hi, hz, hlen, hn, h63', h48', Question.forced, ho, hf, newRow, grownCap]
  congr 2
  apply Array.ext'
  simp

end

theorem rm_none {α : Type} : ∀ {l : List (Nat × α)} {d : Nat}, lk l d = none → rm l d = l
  | [], d, _ => rfl
  | (k, x) :: l, d, h => by
    simp only [lk] at h
    split at h
    · cases h
    · rename_i hk; simp only [rm, if_neg hk, rm_none h]

/-- What 'append' has done: the cells that were, then those that came. -/
theorem grown_row {w : World} {E : Env} {m : Mem} {e : TypeId} {d sz cap : Nat} {xs ys : List SV} {vs us : List Value} {g : Nat} {rest : Array Value} {n : Nat} (h0 : 0 < sz) (hE : E.at_ d = some (g, cap, sz)) (hh : w.heap[g]? = some (.cells ((flat vs).toArray ++ (flat us).toArray ++ rest) e (0, 0)))
    (hr : rest.size = n * sz) (hn : xs.length + ys.length + n = cap) (hne : xs ++ ys = [] → cap = 0) (hm : cap ≤ maxLen) (hv : RepL w E.ok xs vs) (hu : RepL w E.ok ys us) (h1 : ∀ u ∈ vs, u.cells.size = sz ∧ ∀ y ∈ u.cells, y.oneCell' = true) (h2 : ∀ u ∈ us, u.cells.size = sz ∧ ∀ y ∈ u.cells, y.oneCell' = true) :
    MemRep w E m d (.row sz (xs ++ ys)) := by
  have hl1 := hv.len
  have hl2 := hu.len
  have hall : ∀ u ∈ vs ++ us, u.cells.size = sz ∧ ∀ y ∈ u.cells, y.oneCell' = true := fun u hm => by
    rcases List.mem_append.1 hm with hm | hm
    · exact h1 u hm
    · exact h2 u hm
  have hf : ((flat vs).toArray ++ (flat us).toArray ++ rest).toList = flat (vs ++ us) ++ rest.toList := by rw [flat_append]; simp
  have hfl := flat_len (sz := sz) (vs ++ us) (fun u hu => (hall u hu).1)
  refine ⟨h0, .inr ⟨g, cap, e, _, vs ++ us, hE, hh, hne, by rw [List.length_append]; omega, hm, ?_, hv.append hu, fun i u hi => ?_⟩⟩
  · rw [← Array.length_toList, hf, List.length_append, Array.length_toList (xs := rest), hr]
    unfold flat
    rw [hfl, List.length_append, ← hl1, ← hl2, ← hn]
    simp only [Nat.add_mul]
  · have hmem := List.mem_of_getElem? hi
    refine ⟨(hall u hmem).1, (hall u hmem).2, fun j y hy => ?_⟩
    have hg := flat_get (vs ++ us) (fun u hu => (hall u hu).1) i u hi j y hy
    rw [← Array.getElem?_toList, hf]
    rw [List.getElem?_append_left (by have := (List.getElem?_eq_some_iff.1 hg).1; exact this)]
    exact hg

section
variable {P : Program} {o : Oper} {st : St} {d : Nat} {e ty tr : TypeId} {x y : Operand} {X Y : AV}
theorem run_builtin_append {w : World} {ρ : Operand → Value} {v : Value} {w' : World} (ho : o.op = .call { callee := .builtin .append, args := #[x, y], argTypes := #[ty, ty] })
    (h : (Builtin.append_ #[ty, ty] o.type #[ρ x, ρ y]).run P w = .ok v w') : (execOp ρ o).run P w = .ok (.value v) w' := by
  unfold execOp
  rw [ho]
  simp [resolve, invoke, builtin, h]

theorem append_core {keep : Nat → Prop} {w : World} {E : Env} {a : Act} (hI : Inv keep w E st a) (ho : o.op = .call { callee := .builtin .append, args := #[x, y], argTypes := #[ty, ty] }) (hd : o.dst = some d) (hf : st.fresh d = true) (hn : d < st.n)
    (he : selem P ty = some e) {z : Value} (hz : tzero P e = some z) (hzs : z.cells.size = tsz P e) (hp : 0 < tsz P e) (t : Nat) (xs : List SV)
    (hx : (xs = [] ∧ lk st.m t = none ∧ ∃ b, a.eval x = .slice b 0 0) ∨ (lk st.m t = some (.row (tsz P e) xs) ∧ RepV w E (lk st.m) (.own t) (a.eval x)))
    {ys : List SV} (hy : aval st y = some Y) (hys : rowOf st Y = some ys) (hfit : ∀ u ∈ ys, u.fits (tsz P e) = true) (hb : (xs.length + ys.length) * (tby P e + 1) ≤ 140737488355328) :
    ∃ v w' E', (execOp a.eval o).run P w = .ok (.value v) w' ∧ Inv keep w' E' { st with t := up st.t d (.own d), m := up (rm st.m t) d (.row (tsz P e) (xs ++ ys)) } (a.put o.dst v) ∧ Evo keep w E w' E' := by
  obtain ⟨hu, hi⟩ := selem_eq he
  obtain ⟨i, hi⟩ := Option.isSome_iff_exists.1 hi
  have hz' : i.zero = some z := by simpa [tzero, hi] using hz
  have hsz : i.size = tsz P e := by simp [tsz, Program.cellsOf, hi]
  have hby : i.bytes = tby P e := by simp [tby, Program.bytesOf, hi]
  obtain ⟨us, hru, hus, hfirst, hlen⟩ := src_first (P := P) hI hys hfit (aval_rep hI hy)
  have hyl := hru.len
  rw [Nat.mul_add, Nat.mul_one] at hb
  have fin : ∀ (v : Value) (w' : World) (x : Option (Nat × Nat × Nat)), Inv keep w' (E.set d x) { st with m := up (rm st.m t) d (.row (tsz P e) (xs ++ ys)) } a → (match x with | none => ∃ b, v = .slice b 0 0 | some (g, c, _) => v = .slice (some ⟨g, 0, none⟩) (xs ++ ys).length c) →
      Inv keep w' (E.set d x) { st with t := up st.t d (.own d), m := up (rm st.m t) d (.row (tsz P e) (xs ++ ys)) } (a.put o.dst v) := fun v w' x h hv => by
    rw [hd]
    exact h.put (dst := some d) (x := .own d) (by simpa [St.fitsDst] using hn) (by
      simp only [RepV]
      rw [lk_up, if_pos rfl]
      cases x with
      | none => simpa [Env.set] using hv
      | some p => simpa [Env.set] using hv)
  have newsOne : ∀ u ∈ flat us, u.oneCell' = true := fun u hu => by
    simp only [flat, List.mem_flatMap] at hu
    obtain ⟨v, hv, hu⟩ := hu
    exact (hus v hv).2 u (by simpa using hu)
  have newsLen : (flat us).length = ys.length * i.size := by unfold flat; rw [flat_len us (fun u hu => (hus u hu).1), ← hyl, hsz]
  -- nothing that was
  have empty : ∀ b : Option Addr, a.eval x = .slice b 0 0 → xs = [] → ∃ v w' E', (execOp a.eval o).run P w = .ok (.value v) w' ∧ Inv keep w' E' { st with t := up st.t d (.own d), m := up (rm st.m t) d (.row (tsz P e) (xs ++ ys)) } (a.put o.dst v) ∧ Evo keep w E w' E' := by
    intro b hb0 hx0
    subst hx0
    by_cases hm : ys.length = 0
    · have hy0 : ys = [] := List.eq_nil_of_length_eq_zero hm
      subst hy0
      have hus0 : us = [] := List.eq_nil_of_length_eq_zero (by simpa using hyl.symm)
      subst hus0
      have hr := run_append_none (P := P) (w := w) (t := ty) (ty := o.type) (b := b) (c := 0) hu hi hlen (by rw [hsz]; exact hfirst w rfl)
      refine ⟨_, w, E.set d none, run_builtin_append ho (by rw [hb0]; exact hr), fin _ _ none ?_ ⟨b, rfl⟩, Evo.re hI (t := t) ⟨rfl, rfl, rfl⟩ (Nat.le_refl _) (fun _ _ _ => rfl) rfl (Env.set_pin (St.fresh_pin hf))⟩
      exact hI.re hf (x := none) (Nat.le_refl _) (fun _ _ _ => rfl) (fun g c s h => by cases h) ⟨hp, .inl ⟨by simp [Env.set], rfl⟩⟩
    · have hr := run_append_grows (P := P) (w := w) (t := ty) (ty := o.type) (b := b) (sLen := 0) (sCap := 0) (olds := []) (news := flat us) hu hi hz' hlen (by
          cases b with
          | none => exact run_firstCells_none _ _ _ _ _
          | some ad => exact run_firstCells_some w.drew i.size 0 ad 0 0 [] (by simp) (fun j v hv => by simp at hv)) (by rw [hsz]; exact hfirst w.drew rfl) (by omega) (by simp only [List.length_nil] at hb; omega) (by
          rw [hby]; exact growslice_fits (by omega) (by simp only [List.length_nil, Nat.zero_add] at hb ⊢; omega))
      simp only [Nat.zero_add] at hr
      have hge := grownCap_ge w ys.length 0 e
      have hle := grownCap_le_maxLen w ys.length 0 e (by simp only [maxLen, List.length_nil] at hb ⊢; omega)
      refine ⟨_, w.drew.alloc (.cells (([] : List Value).toArray ++ (flat us).toArray ++ Builtin.zeroCells z.cells (grownCap w ys.length 0 e - ys.length)) e), E.set d (some (w.heap.size, grownCap w ys.length 0 e, tsz P e)), run_builtin_append ho (by rw [hb0]; exact hr), fin _ _ (some (w.heap.size, grownCap w ys.length 0 e, tsz P e)) ?_ (by simp), Evo.re hI (t := t) ⟨rfl, rfl, rfl⟩ (by simp) (fun i hi _ => Go.heap_alloc_old w.drew _ hi) rfl (Env.set_pin (St.fresh_pin hf))⟩
      refine hI.re hf (x := some (w.heap.size, grownCap w ys.length 0 e, tsz P e)) (by simp) (fun i hi _ => Go.heap_alloc_old w.drew _ hi) (fun g c s h => by simp at h; obtain ⟨rfl, _, _⟩ := h; exact .inl ⟨by omega, by simp⟩) ?_
      have hok : ∀ b, E.ok b → (E.set d (some (w.heap.size, grownCap w ys.length 0 e, tsz P e))).ok b ∧ (w.drew.alloc (.cells (([] : List Value).toArray ++ (flat us).toArray ++ Builtin.zeroCells z.cells (grownCap w ys.length 0 e - ys.length)) e)).heap[b]? = w.heap[b]? := fun b hb => ⟨hb, Go.heap_alloc_old w.drew _ (hI.okl b hb)⟩
      exact grown_row (g := w.heap.size) (cap := grownCap w ys.length 0 e) (e := e) (vs := []) (n := grownCap w ys.length 0 e - ys.length) hp (by simp [Env.set]) (Go.heap_alloc_new w.drew _) (by rw [size_zeroCells, hzs]) (by simp; omega) (fun h => by simp at h; simp [h] at hm) hle RepL.nil (hru.keep hok) (fun u hu => by cases hu) hus
  rcases hx with ⟨h1, h2, b, h3⟩ | ⟨hm, hrx⟩
  · exact empty b h3 h1
  · obtain ⟨h0, hmm⟩ := hI.mm t _ hm
    simp only [RepV, hm] at hrx
    rcases hmm with ⟨h1, hx0⟩ | ⟨g, c, e', cur, vs, h1, h2, h3, h4, h5, h6, h7, h8⟩
    · rw [h1] at hrx
      obtain ⟨b, hb0⟩ := hrx
      exact empty b hb0 hx0
    rw [h1] at hrx
    dsimp only at hrx
    have hvs : ∀ u ∈ vs, u.cells.size = tsz P e ∧ ∀ y ∈ u.cells, y.oneCell' = true := fun u hu => by
      obtain ⟨j, hj⟩ := List.getElem?_of_mem hu
      exact ⟨(h8 j u hj).1, (h8 j u hj).2.1⟩
    have hxl := h7.len
    have oldLen : (flat vs).length = xs.length * i.size := by unfold flat; rw [flat_len vs (fun u hu => (hvs u hu).1), ← hxl, hsz]
    have hcur : cur.toList.take (xs.length * tsz P e) = flat vs := by
      refine List.ext_getElem? fun j => ?_
      rw [List.getElem?_take]
      by_cases hj : j < xs.length * tsz P e
      · rw [if_pos hj]
        have hdj : j = (j / tsz P e) * tsz P e + j % tsz P e := by rw [Nat.mul_comm]; exact (Nat.div_add_mod j _).symm
        have hq : j / tsz P e < vs.length := by rw [Nat.div_lt_iff_lt_mul hp, ← hxl]; exact hj
        obtain ⟨k1, k2, k3⟩ := h8 _ _ (List.getElem?_eq_getElem hq)
        have hlt : j % tsz P e < vs[j / tsz P e].cells.size := by rw [k1]; exact Nat.mod_lt j hp
        have a1 := k3 _ _ (Array.getElem?_eq_getElem hlt)
        have a2 := flat_get vs (fun u hu => (hvs u hu).1) _ _ (List.getElem?_eq_getElem hq) _ _ (Array.getElem?_eq_getElem hlt)
        rw [← hdj] at a1 a2
        rw [Array.getElem?_toList, a1]
        exact a2.symm
      · rw [if_neg hj, List.getElem?_eq_none (by rw [oldLen, hsz]; omega)]
    by_cases hroom : xs.length + ys.length ≤ c
    · have hcap : (xs.length + ys.length) * tsz P e ≤ c * tsz P e := Nat.mul_le_mul_right _ hroom
      rw [Nat.add_mul] at hcap
      have hr := run_append_fits (P := P) (w := w) (t := ty) (ty := o.type) (sLen := xs.length) (sCap := c) (news := flat us) hu hi h2 hlen (by rw [hsz]; exact hfirst w rfl) newsLen newsOne hroom (by rw [newsLen, hsz, h6]; exact hcap)
      have hheap := setRow_heap w g cur (setAt cur.toList (xs.length * i.size) (flat us)).toArray e' _ h2
      have hhold : ∀ j, j < w.heap.size → (∀ o c s, lk st.m t = some o → E.at_ t = some (j, c, s) → False) → (w.setRow g (setAt cur.toList (xs.length * i.size) (flat us)).toArray).heap[j]? = w.heap[j]? := fun j hj hne => setRow_other w g j _ (fun h9 => hne _ c _ hm (h9 ▸ h1))
      refine ⟨_, w.setRow g (setAt cur.toList (xs.length * i.size) (flat us)).toArray, E.set d (some (g, c, tsz P e)), run_builtin_append ho (by rw [hrx]; exact hr), fin _ _ (some (g, c, tsz P e)) ?_ (by simp), Evo.re hI (t := t) ⟨rfl, rfl, rfl⟩ (by simp) hhold rfl (Env.set_pin (St.fresh_pin hf))⟩
      refine hI.re hf (x := some (g, c, tsz P e)) (by simp) hhold (fun g' c' s' h => by simp at h; obtain ⟨rfl, rfl, rfl⟩ := h; exact .inr ⟨_, c, _, hm, h1⟩) ?_
      have hown := hI.own t _ g c _ hm h1
      have hok : ∀ b, E.ok b → (E.set d (some (g, c, tsz P e))).ok b ∧ (w.setRow g (setAt cur.toList (xs.length * i.size) (flat us)).toArray).heap[b]? = w.heap[b]? := fun b hb => ⟨hb, setRow_other w g b _ (fun h9 => hown.2.1 (h9 ▸ hb))⟩
      have hcs : (setAt cur.toList (xs.length * i.size) (flat us)).toArray = (flat vs).toArray ++ (flat us).toArray ++ (cur.toList.drop (xs.length * i.size + (flat us).length)).toArray := by
        apply Array.ext'
        simp [setAt, hsz, hcur]
      refine grown_row (g := g) (cap := c) (e := e') (vs := vs) (n := c - (xs.length + ys.length)) hp (by simp [Env.set]) (by rw [← hcs]; exact hheap) ?_ (by omega) (fun h9 => h3 (by simpa using (List.append_eq_nil_iff.1 h9).1)) h5 (h7.keep hok) (hru.keep hok) hvs hus
      rw [List.size_toArray, List.length_drop, Array.length_toList, newsLen, hsz, h6, Nat.sub_mul, Nat.add_mul]
    · have hr := run_append_grows (P := P) (w := w) (t := ty) (ty := o.type) (b := some ⟨g, 0, none⟩) (sLen := xs.length) (sCap := c) (olds := flat vs) (news := flat us) hu hi hz' hlen (run_firstCells_some w.drew i.size xs.length ⟨g, 0, none⟩ xs.length c (flat vs) oldLen (fun j v hv => by
          rw [add_lit, Nat.zero_add]
          show w.cell? _ = _
          rw [cell_of_row w g _ cur e' (0, 0) h2, ← Array.getElem?_toList]
          rw [← hcur, List.getElem?_take] at hv
          split at hv
          · exact hv
          · cases hv)) (by rw [hsz]; exact hfirst w.drew rfl) (by omega) (by omega) (by rw [hby]; exact growslice_fits (by omega) (by omega))
      have hge := grownCap_ge w (xs.length + ys.length) c e
      have hle := grownCap_le_maxLen w (xs.length + ys.length) c e (by simp only [maxLen]; omega)
      refine ⟨_, w.drew.alloc (.cells ((flat vs).toArray ++ (flat us).toArray ++ Builtin.zeroCells z.cells (grownCap w (xs.length + ys.length) c e - (xs.length + ys.length))) e), E.set d (some (w.heap.size, grownCap w (xs.length + ys.length) c e, tsz P e)), run_builtin_append ho (by rw [hrx]; exact hr), fin _ _ (some (w.heap.size, grownCap w (xs.length + ys.length) c e, tsz P e)) ?_ (by simp), Evo.re hI (t := t) ⟨rfl, rfl, rfl⟩ (by simp) (fun i hi _ => Go.heap_alloc_old w.drew _ hi) rfl (Env.set_pin (St.fresh_pin hf))⟩
      refine hI.re hf (x := some (w.heap.size, grownCap w (xs.length + ys.length) c e, tsz P e)) (by simp) (fun i hi _ => Go.heap_alloc_old w.drew _ hi) (fun g c s h => by simp at h; obtain ⟨rfl, _, _⟩ := h; exact .inl ⟨by omega, by simp⟩) ?_
      have hok : ∀ b, E.ok b → (E.set d (some (w.heap.size, grownCap w (xs.length + ys.length) c e, tsz P e))).ok b ∧ (w.drew.alloc (.cells ((flat vs).toArray ++ (flat us).toArray ++ Builtin.zeroCells z.cells (grownCap w (xs.length + ys.length) c e - (xs.length + ys.length))) e)).heap[b]? = w.heap[b]? := fun b hb => ⟨hb, Go.heap_alloc_old w.drew _ (hI.okl b hb)⟩
      exact grown_row (g := w.heap.size) (cap := grownCap w (xs.length + ys.length) c e) (e := e) (vs := vs) (n := grownCap w (xs.length + ys.length) c e - (xs.length + ys.length)) hp (by simp [Env.set]) (Go.heap_alloc_new w.drew _) (by rw [size_zeroCells, hzs]) (by omega) (fun h => by obtain ⟨ha, hb'⟩ := List.append_eq_nil_iff.1 h; subst ha; subst hb'; simp at hroom) hle (h7.keep hok) (hru.keep hok) hvs hus

theorem does_append_own (ho : o.op = .call { callee := .builtin .append, args := #[x, y], argTypes := #[ty, ty] }) (hd : o.dst = some d) (hf : st.fresh d = true) (hn : d < st.n) (he : selem P ty = some e) {z : Value} (hz : tzero P e = some z) (hzs : z.cells.size = tsz P e) (hp : 0 < tsz P e)
    {t : Nat} {xs ys : List SV} (hx : aval st x = some (.own t)) (hm : lk st.m t = some (.row (tsz P e) xs)) (hy : aval st y = some Y) (hys : rowOf st Y = some ys) (hfit : ∀ u ∈ ys, u.fits (tsz P e) = true) (hb : (xs.length + ys.length) * (tby P e + 1) ≤ 140737488355328) :
    Does P o st { st with t := up st.t d (.own d), m := up (rm st.m t) d (.row (tsz P e) (xs ++ ys)) } := by
  intro keep w E a hI
  obtain ⟨v, w', E', h1, h2, h3⟩ := append_core hI ho hd hf hn he hz hzs hp t xs (.inr ⟨hm, aval_rep hI hx⟩) hy hys hfit hb
  exact ⟨v, w', E', .inl h1, h2, h3⟩
theorem does_append_nil (ho : o.op = .call { callee := .builtin .append, args := #[x, y], argTypes := #[ty, ty] }) (hd : o.dst = some d) (hf : st.fresh d = true) (hn : d < st.n) (he : selem P ty = some e) {z : Value} (hz : tzero P e = some z) (hzs : z.cells.size = tsz P e) (hp : 0 < tsz P e)
    {ys : List SV} (hx : aval st x = some .nil) (hy : aval st y = some Y) (hys : rowOf st Y = some ys) (hfit : ∀ u ∈ ys, u.fits (tsz P e) = true) (hb : ys.length * (tby P e + 1) ≤ 140737488355328) :
    Does P o st { st with t := up st.t d (.own d), m := up st.m d (.row (tsz P e) ys) } := by
  intro keep w E a hI
  have hl : lk st.m d = none := by simp only [St.fresh, Bool.and_eq_true, Option.isNone_iff_eq_none] at hf; exact hf.2.2
  obtain ⟨v, w', E', h1, h2, h3⟩ := append_core hI ho hd hf hn he hz hzs hp d [] (.inl ⟨rfl, hl, none, by have := aval_rep hI hx; simpa only [RepV] using this⟩) hy hys hfit (by simpa using hb)
  rw [rm_none hl] at h2
  exact ⟨v, w', E', .inl h1, h2, h3⟩
end
end Go.Proofs.YtfcojlagmmgagaaDoor.Ab
