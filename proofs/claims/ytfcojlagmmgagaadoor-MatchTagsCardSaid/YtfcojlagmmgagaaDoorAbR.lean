/- The abstract layer, part R: what is read as data of a type is a shared value; from a contract to a row. -/
import Derived.Test.YtfcojlagmmgagaaDoorAbS
import Derived.ChangeArms
import Derived.SizedLaws
import Derived.ChangeSlices
import Derived.OpenShut
import Derived.WideShapes
import Derived.ChangeOld
import Derived.ShutString
import Derived.ProofKit
namespace Go.Proofs.YtfcojlagmmgagaaDoor.Ab
open Go.RowKit Go.ChangeShapes Go.WideShapes
set_option linter.unusedVariables false
set_option linter.unusedSimpArgs false

/-- Cells that are a value of so many cells. -/
def RepC (W : World) (x : SV) (cs : List Value) : Prop := ∃ u : Value, u.cells.toList = cs ∧ RepS W (· < W.heap.size) x u
/-- Reading a value of type t (cells cs) gives f y, for a y of which G holds. -/
def Opens (P : Program) (t : TypeId) {α : Type} (f : α → SV) (G : α → Prop) : Prop :=
  0 < P.cellsOf t ∧ ∀ {H : Type} (enc : TypeId × Value → H) (W : World) (held : Bool) (fuel : Nat) (cs : List Value) (x : DataW H × List MemPlace),
    DataW.trod enc P W 0 (fun _ => true) held fuel t cs = some x → (∀ n ∈ x.1.weights P t, n ≤ reachBytes) → ∃ y, cs.length = P.cellsOf t ∧ RepC W (f y) cs ∧ G y

theorem opens_int {P : Program} {t : TypeId} {k : IntKind} (ht : P.underlying t = some (.int k)) (hc : P.cellsOf t = 1) : Opens P t (fun n => .val (.int k n)) (fun x => (Lit.int k x).wf = true) :=
  ⟨by omega, fun enc W held fuel cs x h _ => by
    obtain ⟨n, rfl, _, hw⟩ := DataW.trod_int ht h
    exact ⟨n, by simp [hc], ⟨.int k n, by simp [Value.cells], by simp only [RepS]⟩, hw⟩⟩
theorem opens_bool {P : Program} {t : TypeId} (ht : P.underlying t = some .bool) (hc : P.cellsOf t = 1) : Opens P t bv (fun _ => True) :=
  ⟨by omega, fun enc W held fuel cs x h _ => by
    obtain ⟨b, rfl, _⟩ := DataW.trod_bool ht h
    exact ⟨b, by simp [hc], ⟨.bool b, by simp [Value.cells], by simp only [bv, RepS]⟩, trivial⟩⟩
/-- A string as a value. -/
def sv' (s : ByteArray) : SV := .val (.string s)
theorem opens_string {P : Program} {t : TypeId} (ht : P.underlying t = some .string) (hc : P.cellsOf t = 1) : Opens P t sv' (fun s => s.size ≤ 140737488351232) :=
  ⟨by omega, fun enc W held fuel cs x h hz => by
    obtain ⟨s, rfl, rfl, _⟩ := DataW.trod_string ht h
    refine ⟨s, by simp [hc], ⟨.string s, by simp [Value.cells], by simp only [sv', RepS]⟩, ?_⟩
    have := hz s.data.toList.length (by simp [DataW.weights])
    rw [Array.length_toList] at this
    exact this⟩
theorem weightsAll_mem {H : Type} {P : Program} {e : TypeId} : ∀ {l : List (DataW H)} {d : DataW H}, d ∈ l → ∀ n ∈ d.weights P e, n ∈ DataW.weightsAll P e l
  | [], _, h, _, _ => by cases h
  | a :: l, d, h, n, hn => by
    simp only [DataW.weightsAll, List.mem_append]
    rcases List.mem_cons.1 h with rfl | h
    · exact .inl hn
    · exact .inr (weightsAll_mem h n hn)
theorem pick {α : Type} {R : Nat → α → Prop} : ∀ (n : Nat), (∀ i, i < n → ∃ y, R i y) → ∃ l : List α, l.length = n ∧ ∀ i y, l[i]? = some y → R i y
  | 0, _ => ⟨[], rfl, fun i y h => by simp at h⟩
  | n + 1, h => by
    obtain ⟨l, hl, hr⟩ := pick n (fun i hi => h i (by omega))
    obtain ⟨y, hy⟩ := h n (by omega)
    refine ⟨l ++ [y], by simp [hl], fun i z hz => ?_⟩
    rcases Nat.lt_or_ge i l.length with hi | hi
    · rw [List.getElem?_append_left hi] at hz
      exact hr i z hz
    · rw [List.getElem?_append_right hi] at hz
      have : i - l.length = 0 := by
        rcases Nat.eq_zero_or_pos (i - l.length) with h0 | h0
        · exact h0
        · rw [List.getElem?_eq_none (by simp; omega)] at hz; cases hz
      rw [this] at hz
      simp only [List.getElem?_cons_zero, Option.some.injEq] at hz
      subst hz
      rw [show i = n by omega]
      exact hy
/-- Two lists beside each other. -/
theorem pick2 {α β : Type} {R : Nat → α → β → Prop} (n : Nat) (h : ∀ i, i < n → ∃ y z, R i y z) : ∃ (l : List α) (m : List β), l.length = n ∧ m.length = n ∧ ∀ i y z, l[i]? = some y → m[i]? = some z → R i y z := by
  obtain ⟨p, hp, hr⟩ := pick (R := fun i (q : α × β) => R i q.1 q.2) n (fun i hi => let ⟨y, z, h⟩ := h i hi; ⟨(y, z), h⟩)
  refine ⟨p.map (·.1), p.map (·.2), by simp [hp], by simp [hp], fun i y z hy hz => ?_⟩
  rw [List.getElem?_map] at hy hz
  obtain ⟨q, hq, rfl⟩ := Option.map_eq_some_iff.1 hy
  rw [hq] at hz
  simp at hz; subst hz
  exact hr i q hq

theorem opens_slice {P : Program} {t e : TypeId} {α : Type} {f : α → SV} {G : α → Prop} (B : Nat) (ht : P.underlying t = some (.slice e)) (hc : P.cellsOf t = 1) (hB : P.bytesOf e = B) (he : Opens P e f G) :
    Opens P t (fun l : List α => .lst (l.map f)) (fun xs => xs.length * B ≤ 140737488351232 ∧ xs.length ≤ maxLen ∧ ∀ x ∈ xs, G x) :=
  ⟨by omega, fun enc W held fuel cs x h hz => by
    rcases DataW.trod_slice ht h with ⟨rfl, rfl⟩ | ⟨a, len, cap, elems, rest, n, _, rfl, rfl, hb, hl, hm, hlen, hel, hsp, hns⟩
    · exact ⟨[], by simp [hc], ⟨.slice none 0 0, by simp [Value.cells], by simp [RepS]⟩, by simp, by simp, by simp⟩
    have wz : (elems.length + rest.length) * P.bytesOf e ≤ reachBytes := by
      have := hz ((elems.length + rest.length) * P.bytesOf e) (by simp [DataW.weights, ht])
      exact this
    have key : ∀ i, i < len → ∃ (y : α) (u : Value), (RepS W (· < W.heap.size) (f y) u ∧ u.cells.size = P.cellsOf e ∧ ∀ j z, u.cells[j]? = some z → W.cell? (a.add (i * P.cellsOf e + j)) = some z) ∧ G y := by
      intro i hi
      have h1 := hel i hi
      have hi2 : i < elems.length := by omega
      rw [List.getElem?_eq_getElem hi2] at h1
      obtain ⟨c, hc1, hc2⟩ := Option.bind_eq_some_iff.1 h1
      obtain ⟨_, hcl, hcell⟩ := World.cells?_some hc1
      obtain ⟨y, hy0, ⟨u, hu, hr⟩, hg⟩ := he.2 enc W held n c _ hc2 (fun m hm2 => hz m (by
        simp only [DataW.weights, ht]
        refine List.mem_cons_of_mem _ (List.mem_append_left _ (weightsAll_mem (d := elems[i].1) ?_ m hm2))
        exact List.mem_map.2 ⟨_, List.getElem_mem hi2, rfl⟩))
      refine ⟨y, u, ⟨hr, by rw [← Array.length_toList, hu, hy0], fun j z hz' => ?_⟩, hg⟩
      have hj : j < c.length := by rw [← hu, Array.length_toList]; exact (Array.getElem?_eq_some_iff.1 hz').1
      rw [← Go.Deep.add_add a, hcell j (by omega)]
      have : c[j]? = some z := by rw [← hu]; simpa using hz'
      exact this
    obtain ⟨l, us, hll, hul, hlr⟩ := pick2 len key
    have hsz : (a.block < W.heap.size) ∨ len = 0 := by
      rcases Nat.eq_zero_or_pos len with h0 | h0
      · exact .inr h0
      · left
        obtain ⟨⟨_, h2, h3⟩, _⟩ := hlr 0 l[0] us[0] (List.getElem?_eq_getElem (by omega)) (List.getElem?_eq_getElem (by omega))
        have hpos := he.1
        have := h3 0 _ (Array.getElem?_eq_getElem (by omega))
        have h4 := World.block_lt_of_cell? W _ this
        rwa [add_block] at h4
    refine ⟨l, by simp [hc], ⟨.slice (some a) len cap, by simp [Value.cells], ?_⟩, ?_, by rw [hll]; omega, fun y hy => ?_⟩
    · simp only [RepS]
      refine ⟨some a, cap, by simp [hll], by simp [hll]; omega, ?_⟩
      rcases hsz with hsz | h0
      · refine .inr ⟨a, P.cellsOf e, us, rfl, hsz, RepL.of (by simp [hll, hul]) (fun i x v hx hv => ?_), fun i u hu => ?_⟩
        · rw [List.getElem?_map] at hx
          obtain ⟨y, hy, rfl⟩ := Option.map_eq_some_iff.1 hx
          exact (hlr i y v hy hv).1.1
        · have hi : i < l.length := by rw [hll, ← hul]; exact (List.getElem?_eq_some_iff.1 hu).1
          obtain ⟨⟨_, h2, h3⟩, _⟩ := hlr i _ u (List.getElem?_eq_getElem hi) hu
          refine ⟨h2, fun j y hy => ?_⟩
          rw [Go.Deep.add_add]
          exact h3 j y hy
      · left; simp; exact List.eq_nil_of_length_eq_zero (by omega)
    · rw [hll, ← hlen]
      rw [hB] at wz
      exact Nat.le_trans (Nat.mul_le_mul_right _ (Nat.le_add_right _ _)) wz
    · obtain ⟨i, hi⟩ := List.getElem?_of_mem hy
      have hi2 : i < us.length := by rw [hul, ← hll]; exact (List.getElem?_eq_some_iff.1 hi).1
      exact (hlr i y _ hi (List.getElem?_eq_getElem hi2)).2⟩

/-- Fields one behind the other, from a place on: their leaves. -/
def OpensF (P : Program) (fs : List Field) (off : Nat) {α : Type} (f : α → List SV) (G : α → Prop) : Prop :=
  ∀ (H : Type) (enc : TypeId × Value → H) (W : World) (held : Bool) (fuel : Nat) (cs : List Value) (xs : List (DataW H × List MemPlace)),
    xs.length = fs.length → (∀ (i : Nat) (f : Field), fs[i]? = some f → DataW.trod enc P W 0 (fun _ => true) held fuel f.type ((cs.drop f.offset).take (P.cellsOf f.type)) = xs[i]?) →
    (∀ n ∈ DataW.weightsEach P (fs.map (·.type)) (xs.map (·.1)), n ≤ reachBytes) → ∃ y us, us = (cs.drop off).take us.length ∧ us.length = (fs.map (fun f => P.cellsOf f.type)).sum ∧ RepL W (· < W.heap.size) (f y) us ∧ G y
theorem opensF_nil {P : Program} {off : Nat} : OpensF P [] off (fun _ : Unit => []) (fun _ => True) := fun H enc W held fuel cs xs hx hr hz => ⟨(), [], by simp, rfl, RepL.nil, trivial⟩
theorem opensF_cons {P : Program} {f : Field} {fs : List Field} {off off' : Nat} {α β : Type} {g : α → SV} {h : β → List SV} {G : α → Prop} {G' : β → Prop} (ho : f.offset = off) (hs : ∀ y, (g y).solid = true) (h1 : Opens P f.type g G) (ho' : off' = off + P.cellsOf f.type) (h2 : OpensF P fs off' h G') :
    OpensF P (f :: fs) off (fun p : α × β => (g p.1).cells ++ h p.2) (fun p => G p.1 ∧ G' p.2) := by
  intro H enc W held fuel cs xs hx hr hz
  match xs, hx with
  | x :: xs, hx =>
    have h0 := hr 0 f rfl
    rw [ho] at h0
    obtain ⟨y, hl, ⟨u, hu, hrep⟩, hg⟩ := h1.2 enc W held fuel _ x h0 (fun n hn => hz n (by simp [DataW.weightsEach, hn]))
    obtain ⟨z, us, hus, hul, hru, hg'⟩ := h2 H enc W held fuel cs xs (by simpa using hx) (fun i f' hf => hr (i + 1) f' (by simpa using hf)) (fun n hn => hz n (by simp only [List.map_cons, DataW.weightsEach, List.mem_append]; exact .inr hn))
    subst ho'
    refine ⟨(y, z), u.cells.toList ++ us, ?_, ?_, (RepS.cells (hs y) hrep).append hru, hg, hg'⟩
    · have hlu : u.cells.toList.length = P.cellsOf f.type := by rw [hu]; exact hl
      rw [List.length_append, hlu, List.take_add, List.drop_drop, ← hus, ← hu]
    · have hlu : u.cells.toList.length = P.cellsOf f.type := by rw [hu]; exact hl
      rw [List.length_append, hlu, hul]
      simp
theorem opens_struct {P : Program} {t : TypeId} {fs : List Field} {α β : Type} {h : α → List SV} {G : α → Prop} {f : β → SV} (g : α → β) (hfg : ∀ x, f (g x) = .agg (h x)) (G' : β → Prop) (hG : ∀ x, G x → G' (g x)) (ht : P.underlying t = some (.struct fs.toArray)) (hsum : (fs.map (fun f => P.cellsOf f.type)).sum = P.cellsOf t) (hpos : 0 < P.cellsOf t) (hF : OpensF P fs 0 h G) :
    Opens P t f G' :=
  ⟨hpos, fun enc W held fuel cs x hx hz => by
    obtain ⟨xs, n, _, rfl, hl, hxl, hr⟩ := DataW.trod_struct ht hx
    obtain ⟨y, us, hus, hul, hrep, hg⟩ := hF _ enc W held n cs xs (by simpa using hxl) (fun i f hf => hr i f (by simpa using hf)) (fun m hm => hz m (by simp only [DataW.weights, ht, List.toList_toArray]; exact hm))
    rw [List.drop_zero, hul, hsum, List.take_of_length_le (by omega)] at hus
    subst hus
    exact ⟨g y, hl, ⟨.agg us.toArray, by simp [Value.cells], by rw [hfg]; simp only [RepS]; exact ⟨_, rfl, hrep⟩⟩, hG y hg⟩⟩

/-- A law's parameter. -/
theorem open_param {P : Program} {t : TypeId} {α : Type} {f : α → SV} {G : α → Prop} (ho : Opens P t f G) {H : Type} {enc : TypeId × Value → H} {W : World} {held : Bool} {v : Value} {x : DataW H} {ps : List MemPlace} {ts : List TypeId} {ds : List (DataW H)} {j : Nat}
    (hv : v.oneCell' = true ∨ ∃ cs, v = .agg cs) (hagg : ∀ y, (∃ xs, f y = .agg xs) ↔ ∃ cs, v = .agg cs) (hsol : ∀ y, (f y).solid = true)
    (hsz : (DataW.weightsEach P ts ds).all (· ≤ reachBytes) = true) (ht : ts[j]? = some t) (hd : ds[j]? = some x) (h : DataW.Trod enc P W 0 (fun _ => true) held t v x ps) : ∃ y, RepS W (· < W.heap.size) (f y) v ∧ G y := by
  obtain ⟨fuel, hf⟩ := h
  obtain ⟨y, hl, ⟨u, hu, hr⟩, hg⟩ := ho.2 enc W held fuel _ _ hf (fun n hn => by
    have := List.all_eq_true.1 hsz _ (DataW.weights_mem_each ht hd n hn)
    simpa using this)
  refine ⟨y, ?_, hg⟩
  have hu' : u.cells = v.cells := by
    apply Array.toList_inj.1
    rw [hu]
  have : u = v := by
    rcases hv with hv | ⟨cs, rfl⟩
    · rw [cells_one hv] at hu'
      have hna : ¬ ∃ cs, v = .agg cs := by rintro ⟨cs, rfl⟩; cases hv
      have h1 : u.oneCell' = true := by
        have hnx := mt (hagg y).1 hna
        cases hfy : f y with
        | any => have := hsol y; rw [hfy] at this; cases this
        | val w => rw [hfy] at hr; simp only [RepS] at hr; subst hr; have := hsol y; rw [hfy] at this; exact this
        | agg xs => exact (hnx ⟨xs, hfy⟩).elim
        | lst xs => rw [hfy] at hr; simp only [RepS] at hr; obtain ⟨_, _, rfl, _⟩ := hr; rfl
        | ref x o => rw [hfy] at hr; simp only [RepS] at hr; obtain ⟨_, _, rfl, _⟩ := hr; rfl
        | fn g xs => rw [hfy] at hr; simp only [RepS] at hr; obtain ⟨_, rfl, _⟩ := hr; rfl
      rw [cells_one h1] at hu'
      simpa using hu'
    · obtain ⟨xs, hxs⟩ := (hagg y).2 ⟨cs, rfl⟩
      rw [hxs] at hr
      simp only [RepS] at hr
      obtain ⟨ds, rfl, _⟩ := hr
      simp only [Value.cells] at hu'
      rw [hu']
  exact this ▸ hr

/-- From the contract of a law to the machine's words. -/
theorem law_calls {P : Program} {g : FuncId} {args : List SV} {R : RV → Prop} (h : ACalls P g args R) (hg : ∀ (cargs : Array Value) (w : World), (callFunc g cargs).run P w = .ok (.enter g cargs) w) (hR : ∀ r, R r → r = .one (.sv (bv true))) {W : World} {cargs : Array Value} (hW : GW W (· < W.heap.size)) (hargs : RepL W (· < W.heap.size) args cargs.toList) :
    Calls P g cargs W fun e W' => e = .returned (.bool true) ∧ Below W.heap.size W W' := by
  obtain ⟨g', h1, h2⟩ := h
  have e : g' = g := by
    have := (h1 #[] W).symm.trans (hg #[] W)
    simp only [Result.ok.injEq, Next.enter.injEq] at this
    exact this.1.1
  subst e
  refine (h2 W (· < W.heap.size) cargs ⟨fun b h => h, hW⟩ hargs).mono ?_
  rintro e W' ⟨r, vs, E1, hr, rfl, hI, hE⟩
  have := hR r hr
  subst this
  refine ⟨?_, ⟨hE.os, hE.tape, hE.output, hE.size, hE.kp⟩⟩
  obtain ⟨v, k1, k2⟩ := hI.tm 0 (.sv (bv true)) rfl
  have hv : v = .bool true := by simpa only [RepV, bv, RepS] using k2
  subst hv
  cases vs with
  | nil => simp at k1
  | cons u us => simp at k1; subst k1; rfl
end Go.Proofs.YtfcojlagmmgagaaDoor.Ab
