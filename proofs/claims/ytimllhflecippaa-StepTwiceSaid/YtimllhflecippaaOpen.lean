/- What is read as data of a type is a value of its kind: the openers of laws' parameters, kind by kind (own words over the kit's printer). -/
import Derived.Test.YtimllhflecippaaWWords
import Derived.Test.YtimllhflecippaaWSized
import Derived.ChangeArms
import Derived.SizedLaws
import Derived.ChangeSlices
import Derived.OpenShut
import Derived.WideShapes
namespace Go.Proofs.Ytimllhflecippaa.Op
open Go.RowKit Go.Proofs.YtimllhflecippaaW.PrintWords Go.ChangeShapes Go.WideShapes
set_option linter.unusedVariables false
set_option linter.unusedSimpArgs false

/-- Reading a value of type t (cells cs) gives one of kind d, of which G holds. -/
def Opens (P : Program) (t : TypeId) {α : Type} (d : Kd α) (G : α → Prop) : Prop :=
  P.cellsOf t = d.sz ∧ ∀ {H : Type} (enc : TypeId × Value → H) (W : World) (held : Bool) (fuel : Nat) (cs : List Value) (x : DataW H × List MemPlace),
    DataW.trod enc P W 0 (fun _ => true) held fuel t cs = some x → (∀ n ∈ x.1.weights P t, n ≤ reachBytes) → ∃ y, d.K W y cs ∧ G y

theorem opens_int {P : Program} {t : TypeId} {k : IntKind} (ht : P.underlying t = some (.int k)) (hc : P.cellsOf t = 1) : Opens P t (Kd.int k) (fun x => (Lit.int k x).wf = true) :=
  ⟨hc, fun enc W held fuel cs x h _ => by
    obtain ⟨n, rfl, _, hw⟩ := DataW.trod_int ht h
    exact ⟨n, rfl, hw⟩⟩

theorem opens_bool {P : Program} {t : TypeId} (ht : P.underlying t = some .bool) (hc : P.cellsOf t = 1) : Opens P t Kd.bool (fun _ => True) :=
  ⟨hc, fun enc W held fuel cs x h _ => by
    obtain ⟨b, rfl, _⟩ := DataW.trod_bool ht h
    exact ⟨b, rfl, trivial⟩⟩

theorem opens_string {P : Program} {t : TypeId} (ht : P.underlying t = some .string) (hc : P.cellsOf t = 1) : Opens P t Kd.string (fun s => s.size ≤ 140737488351232) :=
  ⟨hc, fun enc W held fuel cs x h hz => by
    obtain ⟨s, rfl, rfl, _⟩ := DataW.trod_string ht h
    refine ⟨s, rfl, ?_⟩
    have := hz s.data.toList.length (by simp [DataW.weights])
    rw [Array.length_toList] at this
    exact this⟩

theorem weightsAll_mem {H : Type} {P : Program} {e : TypeId} : ∀ {l : List (DataW H)} {d : DataW H}, d ∈ l → ∀ n ∈ d.weights P e, n ∈ DataW.weightsAll P e l
  | [], _, h, _, _ => by cases h
  | a :: l, d, h, n, hn => by
    simp only [DataW.weightsAll, List.mem_append]
    rcases List.mem_cons.1 h with rfl | h
    · exact .inl hn
    · exact .inr (weightsAll_mem h n hn)

/-- A list of the values that places of a list have. -/
theorem pick {α β : Type} {R : Nat → α → Prop} : ∀ (n : Nat), (∀ i, i < n → ∃ y, R i y) → ∃ l : List α, l.length = n ∧ ∀ i y, l[i]? = some y → R i y
  | 0, _ => ⟨[], rfl, fun i y h => by simp at h⟩
  | n + 1, h => by
    obtain ⟨l, hl, hr⟩ := pick (β := β) n (fun i hi => h i (by omega))
    obtain ⟨y, hy⟩ := h n (by omega)
    refine ⟨l ++ [y], by simp [hl], fun i z hz => ?_⟩
    rcases Nat.lt_or_ge i l.length with hi | hi
    · rw [List.getElem?_append_left hi] at hz
      exact hr i z hz
    · rw [List.getElem?_append_right hi] at hz
      have : i - l.length = 0 := by
        rcases Nat.eq_zero_or_pos (i - l.length) with h0 | h0
        · exact h0
        · rw [List.getElem?_eq_none (by simp; omega)] at hz; cases hz
      rw [this] at hz
      simp only [List.getElem?_cons_zero, Option.some.injEq] at hz
      subst hz
      rw [show i = n by omega]
      exact hy

theorem opens_slice {P : Program} {t e : TypeId} {α : Type} {d : Kd α} {G : α → Prop} (B : Nat) (ht : P.underlying t = some (.slice e)) (hc : P.cellsOf t = 1) (hB : P.bytesOf e = B) (he : Opens P e d G) :
    Opens P t (Kd.slice e d) (fun xs => xs.length * B ≤ 140737488351232 ∧ xs.length ≤ maxLen ∧ ∀ x ∈ xs, G x) :=
  ⟨hc, fun enc W held fuel cs x h hz => by
    rcases DataW.trod_slice ht h with ⟨rfl, rfl⟩ | ⟨a, len, cap, elems, rest, n, _, rfl, rfl, hb, hl, hm, hlen, hel, hsp, hns⟩
    · exact ⟨[], ⟨none, 0, rfl, Nat.le_refl _, Kd.C_nil _ _⟩, by simp, by simp, by simp⟩
    have wz : (elems.length + rest.length) * P.bytesOf e ≤ reachBytes := by
      have := hz ((elems.length + rest.length) * P.bytesOf e) (by simp [DataW.weights, ht])
      exact this
    have key : ∀ i, i < len → ∃ y, (∃ c, c.length = d.sz ∧ d.K W y c ∧ ∀ j u, c[j]? = some u → W.cell? (a.add (i * d.sz + j)) = some u) ∧ G y := by
      intro i hi
      have h1 := hel i hi
      have hi2 : i < elems.length := by omega
      rw [List.getElem?_eq_getElem hi2] at h1
      obtain ⟨c, hc1, hc2⟩ := Option.bind_eq_some_iff.1 h1
      obtain ⟨_, hcl, hcell⟩ := World.cells?_some hc1
      obtain ⟨y, hy, hg⟩ := he.2 enc W held n c _ hc2 (fun m hm2 => hz m (by
        simp only [DataW.weights, ht]
        refine List.mem_cons_of_mem _ (List.mem_append_left _ (weightsAll_mem (d := elems[i].1) ?_ m hm2))
        exact List.mem_map.2 ⟨_, List.getElem_mem hi2, rfl⟩))
      refine ⟨y, ⟨c, by rw [hcl, he.1], hy, fun j u hu => ?_⟩, hg⟩
      have hj : j < c.length := (List.getElem?_eq_some_iff.1 hu).1
      rw [← add_add a, ← he.1, hcell j (by omega)]
      exact hu
    obtain ⟨l, hll, hlr⟩ := pick (β := Nat) len key
    refine ⟨l, ⟨some a, cap, by rw [hll], by omega, ⟨rfl, by rw [hll]; simp only [maxLen] at hm; omega, fun _ => ⟨a, rfl, fun j p hj => (hlr j p hj).1⟩⟩⟩, ?_, by rw [hll]; omega, fun y hy => ?_⟩
    · rw [hll, ← hlen]
      rw [hB] at wz
      exact Nat.le_trans (Nat.mul_le_mul_right _ (Nat.le_add_right _ _)) wz
    · obtain ⟨i, hi⟩ := List.getElem?_of_mem hy
      exact (hlr i y hi).2⟩

/-- Fields one behind the other, from a place on. -/
def OpensF (P : Program) (fs : List Field) (off : Nat) {α : Type} (d : Kd α) (G : α → Prop) : Prop :=
  ∀ (H : Type) (enc : TypeId × Value → H) (W : World) (held : Bool) (fuel : Nat) (cs : List Value) (xs : List (DataW H × List MemPlace)),
    off + d.sz ≤ cs.length → xs.length = fs.length → (∀ (i : Nat) (f : Field), fs[i]? = some f → DataW.trod enc P W 0 (fun _ => true) held fuel f.type ((cs.drop f.offset).take (P.cellsOf f.type)) = xs[i]?) →
    (∀ n ∈ DataW.weightsEach P (fs.map (·.type)) (xs.map (·.1)), n ≤ reachBytes) → ∃ y, d.K W y ((cs.drop off).take d.sz) ∧ G y

theorem opensF_one {P : Program} {f : Field} {off : Nat} {α : Type} {d : Kd α} {G : α → Prop} (ho : f.offset = off) (h : Opens P f.type d G) : OpensF P [f] off d G := by
  intro H enc W held fuel cs xs hlen hx hr hz
  match xs, hx with
  | [x], _ =>
    have h0 := hr 0 f rfl
    rw [ho, h.1] at h0
    exact h.2 enc W held fuel _ x h0 (fun n hn => hz n (by simp [DataW.weightsEach, hn]))

theorem opensF_cons {P : Program} {f : Field} {fs : List Field} {off : Nat} {α β : Type} {d : Kd α} {d' : Kd β} {G : α → Prop} {G' : β → Prop} (ho : f.offset = off) (h : Opens P f.type d G) (hs : OpensF P fs (off + d.sz) d' G') :
    OpensF P (f :: fs) off (Kd.pair d d') (fun x => G x.1 ∧ G' x.2) := by
  intro H enc W held fuel cs xs hlen hx hr hz
  match xs, hx with
  | x :: xs, hx =>
    have h0 := hr 0 f rfl
    rw [ho, h.1] at h0
    have hsz : (Kd.pair d d').sz = d.sz + d'.sz := rfl
    obtain ⟨y, hy, hg⟩ := h.2 enc W held fuel _ x h0 (fun n hn => hz n (by simp [DataW.weightsEach, hn]))
    obtain ⟨y', hy', hg'⟩ := hs _ enc W held fuel cs xs (by omega) (by simpa using hx) (fun i f hf => hr (i + 1) f (by simpa using hf)) (fun n hn => hz n (by simp only [List.map_cons, DataW.weightsEach, List.mem_append]; exact .inr hn))
    refine ⟨(y, y'), ⟨_, _, ?_, hy, hy'⟩, hg, hg'⟩
    rw [hsz, ← List.drop_drop, List.take_add]

theorem opens_struct {P : Program} {t : TypeId} {fs : List Field} {α β : Type} {d : Kd α} {G : α → Prop} {f : β → α} (g : α → β) (hfg : ∀ x, f (g x) = x) (ht : P.underlying t = some (.struct fs.toArray)) (hc : P.cellsOf t = d.sz) (h : OpensF P fs 0 d G) :
    Opens P t (Kd.iso d f) (fun x => G (f x)) :=
  ⟨hc, fun enc W held fuel cs x hx hz => by
    obtain ⟨xs, n, _, rfl, hl, hxl, hr⟩ := DataW.trod_struct ht hx
    obtain ⟨y, hy, hg⟩ := h _ enc W held n cs xs (by omega) (by simpa using hxl) (fun i f hf => hr i f (by simpa using hf)) (fun m hm => hz m (by simp only [DataW.weights, ht, List.toList_toArray]; exact hm))
    rw [List.drop_zero, List.take_of_length_le (by omega)] at hy
    exact ⟨g y, by show d.K W (f (g y)) cs; rw [hfg]; exact hy, by show G (f (g y)); rw [hfg]; exact hg⟩⟩

/-- More than is known, less. -/
theorem Opens.weaken {P : Program} {t : TypeId} {α : Type} {d : Kd α} {G G' : α → Prop} (h : Opens P t d G) (hg : ∀ x, G x → G' x) : Opens P t d G' :=
  ⟨h.1, fun enc W held fuel cs x hx hz => by
    obtain ⟨y, hy, hG⟩ := h.2 enc W held fuel cs x hx hz
    exact ⟨y, hy, hg y hG⟩⟩

/-- A law's parameter that is a slice. -/
theorem open_param_slice {P : Program} {t e : TypeId} {α : Type} {d : Kd α} {G : List α → Prop} (ho : Opens P t (Kd.slice e d) G) {H : Type} {enc : TypeId × Value → H} {W : World} {held : Bool} {a : Option Addr} {len cap : Nat} {x : DataW H} {ps : List MemPlace} {ts : List TypeId} {ds : List (DataW H)} {j : Nat}
    (hsz : (DataW.weightsEach P ts ds).all (· ≤ reachBytes) = true) (ht : ts[j]? = some t) (hd : ds[j]? = some x) (h : DataW.Trod enc P W 0 (fun _ => true) held t (.slice a len cap) x ps) :
    ∃ l : List α, len = l.length ∧ l.length ≤ cap ∧ d.C W a l.length l ∧ G l := by
  obtain ⟨fuel, hf⟩ := h
  obtain ⟨y, ⟨A, c, he, hl, hC⟩, hG⟩ := ho.2 enc W held fuel _ _ hf (fun n hn => by
    have := List.all_eq_true.1 hsz _ (DataW.weights_mem_each ht hd n hn)
    simpa using this)
  simp [Value.cells] at he
  obtain ⟨rfl, rfl, rfl⟩ := he
  exact ⟨y, rfl, hl, hC, hG⟩
/-- A law's parameter that is a struct. -/
theorem open_param_struct {P : Program} {t : TypeId} {α : Type} {d : Kd α} {G : α → Prop} (ho : Opens P t d G) {H : Type} {enc : TypeId × Value → H} {W : World} {held : Bool} {cs : Array Value} {x : DataW H} {ps : List MemPlace} {ts : List TypeId} {ds : List (DataW H)} {j : Nat}
    (hsz : (DataW.weightsEach P ts ds).all (· ≤ reachBytes) = true) (ht : ts[j]? = some t) (hd : ds[j]? = some x) (h : DataW.Trod enc P W 0 (fun _ => true) held t (.agg cs) x ps) :
    ∃ y : α, d.K W y cs.toList ∧ G y := by
  obtain ⟨fuel, hf⟩ := h
  obtain ⟨y, hK, hG⟩ := ho.2 enc W held fuel _ _ hf (fun n hn => by
    have := List.all_eq_true.1 hsz _ (DataW.weights_mem_each ht hd n hn)
    simpa using this)
  exact ⟨y, by simpa [Value.cells] using hK, hG⟩
end Go.Proofs.Ytimllhflecippaa.Op
