/- Tags: strings.ContainsFunc over the letters: each function of the library on the way, walked. -/
import Derived.Test.YtfcojlagmmgagaaDoorGrA
import Derived.Lib.Strings
import Derived.Lib.Slices
import Derived.Lib.Walk
import Derived.Lib.Bytealg
import Derived.Lib.OthersKept
import Derived.Lib.TrimU
import Derived.Deep.LoopGhost
import Derived.Laws.RangeString
import Derived.Laws.RangeAny
namespace Go.Proofs.YtfcojlagmmgagaaDoor.Ab
open Go.RowKit
set_option linter.unusedVariables false
set_option linter.unusedSimpArgs false

/-- The tables lie in the world. -/
def GWx (w : World) : Prop := GW w (· < w.heap.size)
theorem Okl.x {w : World} {ok : Nat → Prop} (h : Okl w ok) : GWx w := h.gw.keep fun b hb => ⟨h.lt b hb, rfl⟩
theorem GWx.below {w w' : World} (h : GWx w) (hb : Below w.heap.size w w') : GWx w' := GW.keep h fun b hk => ⟨Nat.lt_of_lt_of_le hk hb.size, hb.block b hk⟩
/-- What is returned is one value, and nothing that was has turned. -/
theorem fin_val {w w' : World} {ok : Nat → Prop} {v : Value} {R : RV → Prop} (hb : Below w.heap.size w w') (hok : Okl w ok) (hR : R (.one (.sv (.val v)))) :
    ∃ (r : RV) (vs : List Value) (E1 : Env), R r ∧ Ending.returned v = .returned (r.val vs) ∧ Inv (· < w.heap.size) w' E1 (cst r.comps) ⟨vs.toArray, []⟩ ∧ Evo (· < w.heap.size) w ⟨ok, E1.at_⟩ w' E1 := by
  refine ⟨_, [v], ⟨ok, fun _ => none⟩, hR, rfl, ⟨rfl, rfl, fun d x hx => ?_, fun t o ho => by simp [cst, impM, RV.comps, lk] at ho, fun t t' o o' g c s c' s' k1 => by simp [cst, impM, RV.comps, lk] at k1, fun t o g c s k1 => by simp [cst, impM, RV.comps, lk] at k1, ⟨fun b hb' => Nat.lt_of_lt_of_le (hok b hb') hb.size, hok.gw.keep fun b hb' => ⟨hb', hb.block b (hok b hb')⟩⟩, fun b hb' => Nat.lt_of_lt_of_le hb' hb.size⟩,
    ⟨hb.os, hb.tape, hb.output, hb.size, fun b hb' => hb.block b hb', fun b hb' => ⟨hb', hb.block b (hok b hb')⟩, fun b hb' => .inl hb', fun _ _ => rfl⟩⟩
  simp only [cst, RV.comps, ent1, lk] at hx
  split at hx
  · rename_i e; subst e
    simp only [R1.av, Option.some.injEq] at hx; subst hx
    exact ⟨v, by simp, RepV.val_mk v⟩
  · cases hx
/-- From a contract of the kit's to one of ours: numbers, strings and bools alone. -/
theorem ACalls.ofVals {P : Program} {g g' : FuncId} {us : List Value} {v : Value} (hcall : ∀ (cargs : Array Value) (w : World), (callFunc g cargs).run P w = .ok (.enter g' cargs) w) (h : ∀ w, Calls P g' us.toArray w fun e w' => e = .returned v ∧ Below w.heap.size w w') :
    ACalls P g (us.map .val) (· = .one (.sv (.val v))) := by
  refine ⟨g', hcall, fun w ok cargs hok hargs => ?_⟩
  have : cargs = us.toArray := by
    apply Array.toList_inj.1
    have : ∀ {us vs : List Value}, RepL w ok (us.map .val) vs → vs = us := by
      intro us
      induction us with
      | nil => intro vs h; simpa only [List.map_nil, RepL] using h
      | cons u us ih =>
        intro vs h
        simp only [List.map_cons, RepL, RepS] at h
        obtain ⟨v, vs', rfl, rfl, h⟩ := h
        rw [ih h]
    simpa using this hargs
  subst this
  refine (h w).mono ?_
  rintro e w' ⟨rfl, hb⟩
  exact fin_val hb hok rfl

set_option maxRecDepth 100000 in
theorem stringslite_IndexByte (s : ByteArray) (c : Int) (w : World) :
    Calls Tryd.prog 142 #[.string s, .int .u8 c] w fun e w' => e = .returned (.int .i64 (Lib.indexByte s.data.toList c.toNat.toUInt8)) ∧ w' = w := by
  go_enter Tryd.func142, Tryd.ntmps142
  go_wp2
  rw [run_callFunc_extern Tryd.func144 (by kernel_rfl) (by kernel_rfl) (by kernel_rfl) (e := Extern.BytealgIndexByte.indexByte) (by kernel_rfl), Lib.run_indexByteString]
  simp only [Result.andThen]
  rw [Oper.upon_value]
  go_wp2
  go_ret
  exact ⟨rfl, rfl⟩
set_option maxRecDepth 100000 in
theorem strings_IndexByte (s : ByteArray) (c : Int) (w : World) :
    Calls Tryd.prog 131 #[.string s, .int .u8 c] w fun e w' => e = .returned (.int .i64 (Lib.indexByte s.data.toList c.toNat.toUInt8)) ∧ w' = w := by
  go_enter Tryd.func131, Tryd.ntmps131
  go_wp2_with (go_at_call 142; refine (stringslite_IndexByte _ _ _).mono ?_; rintro e w' ⟨rfl, rfl⟩)
  go_ret
  exact ⟨rfl, rfl⟩
theorem IndexByte_c (s : ByteArray) (c : Int) : ACalls Tryd.prog 131 [.val (.string s), .val (.int .u8 c)] (· = .one (.sv (iv (Lib.indexByte s.data.toList c.toNat.toUInt8)))) :=
  ACalls.ofVals (us := [.string s, .int .u8 c]) (fun _ _ => Tryd.call131 _ _) fun w => (strings_IndexByte s c w).mono fun e w' ⟨h1, h2⟩ => ⟨h1, h2 ▸ Below.refl _ _⟩

/-- The letters of tags. -/
def letters : ByteArray := { data := #[97, 98, 99, 100, 101, 102, 103, 104, 105, 106, 107, 108, 109, 110, 111, 112, 113, 114, 115, 116, 117, 118, 119, 120, 121, 122, 48, 49, 50, 51, 52, 53, 54, 55, 56, 57] }
def isLet (c : Nat) : Bool := (decide (97 ≤ c) && decide (c ≤ 122)) || (decide (48 ≤ c) && decide (c ≤ 57))
theorem let_index (c : Nat) (h : c < 128) : decide (0 ≤ Lib.indexByte letters.data.toList c.toUInt8) = isLet c := by
  revert c
  decide +kernel
theorem let_high (c : UInt8) (h : 128 ≤ c.toNat) (k : Nat) : Lib.indexByte ((letters.extract k letters.size).data.toList) c = -1 := by
  have hall : ∀ b ∈ (letters.extract k letters.size).data.toList, b.toNat < 128 := by
    intro b hb
    have h1 : b ∈ letters.data.toList := by
      rw [ByteArray.data_extract, Array.toList_extract] at hb
      rw [List.extract_eq_take_drop] at hb
      exact List.mem_of_mem_drop (List.mem_of_mem_take hb)
    have : ∀ b ∈ letters.data.toList, b.toNat < 128 := by decide +kernel
    exact this b h1
  have key : ∀ l : List UInt8, (∀ b ∈ l, b.toNat < 128) → Lib.indexByte l c = -1 := by
    intro l
    induction l with
    | nil => intro _; rfl
    | cons b l ih =>
      intro hl
      have hb := hl b List.mem_cons_self
      have : (b == c) = false := by
        rw [beq_eq_false_iff_ne]
        rintro rfl; omega
      simp [Lib.indexByte, this, ih (fun x hx => hl x (List.mem_cons_of_mem _ hx))]
  exact key _ hall

/-- The bytes of a rune that is no ASCII. -/
theorem encode_high (c : Int) (h : 128 ≤ c) : 2 ≤ (Utf8.encode c).size ∧ 128 ≤ bt (Utf8.encode c) ((Utf8.encode c).size - 1 : Int) := by
  have key : ∀ n : Nat, 128 ≤ n → ∀ s : ByteArray, (if n < 0x80 then ⟨#[UInt8.ofNat n]⟩ else if n < 0x800 then ⟨#[UInt8.ofNat (0xC0 + n / 64), UInt8.ofNat (0x80 + n % 64)]⟩ else if n < 0x10000 then ⟨#[UInt8.ofNat (0xE0 + n / 4096), UInt8.ofNat (0x80 + n / 64 % 64), UInt8.ofNat (0x80 + n % 64)]⟩
      else ⟨#[UInt8.ofNat (0xF0 + n / 262144), UInt8.ofNat (0x80 + n / 4096 % 64), UInt8.ofNat (0x80 + n / 64 % 64), UInt8.ofNat (0x80 + n % 64)]⟩) = s → 2 ≤ s.size ∧ 128 ≤ bt s (s.size - 1 : Int) := by
    intro n hn s hs
    have hb : 128 ≤ ((UInt8.ofNat (0x80 + n % 64)).toNat : Int) := by
      rw [UInt8.toNat_ofNat']
      omega
    rw [if_neg (by omega)] at hs
    split at hs
    · subst hs; exact ⟨Nat.le_refl 2, hb⟩
    · split at hs
      · subst hs; exact ⟨(by show 2 ≤ 3; omega), hb⟩
      · subst hs; exact ⟨(by show 2 ≤ 4; omega), hb⟩
  unfold Utf8.encode
  refine key (if Utf8.valid c then c.toNat else Utf8.runeError) ?_ _ rfl
  split
  · omega
  · decide

theorem encode_le (c : Int) : (Utf8.encode c).size ≤ 4 := by
  unfold Utf8.encode
  generalize (if Utf8.valid c then c.toNat else Utf8.runeError) = n
  show (if n < 0x80 then _ else _ : ByteArray).size ≤ 4
  split
  · exact (by decide : 1 ≤ 4)
  · split
    · exact (by decide : 2 ≤ 4)
    · split
      · exact (by decide : 3 ≤ 4)
      · exact (by decide : 4 ≤ 4)

theorem ValidRune_c (c : Int) : ACalls Tryd.prog 132 [.val (.int .i32 c)] (fun r => ∃ b, r = .one (.sv (bv b))) := by
  refine ACalls.of_body (fun _ _ => Tryd.call132 _ _) Tryd.func132 rfl Tryd.ntmps132 (by simp) ?_
  refine Tr.ex ?_
  by_cases h1 : 0 ≤ c <;> by_cases h2 : c < 55296 <;> by_cases h3 : 57343 < c <;> by_cases h4 : c ≤ 1114111 <;> simp [go_sem, h1, h2, h3, h4] <;> exact ⟨_, rfl⟩

theorem IndexRune_low (s : ByteArray) (c : Int) (h0 : 0 ≤ c) (h1 : c < 128) : ACalls Tryd.prog 115 [.val (.string s), .val (.int .i32 c)] (· = .one (.sv (iv (Lib.indexByte s.data.toList c.toNat.toUInt8)))) := by
  refine ACalls.of_body (fun _ _ => Tryd.call115 _ _) Tryd.func115 rfl Tryd.ntmps115 (by simp) ?_
  refine Tr.ex ?_
  have hw : IntKind.u8.wrap c = c := by simp [IntKind.wrap, IntKind.bits, IntKind.signed]; omega
  simp [go_sem, h0, h1, hw]
  refine OpW.fn true (IndexByte_c s c) rfl rfl (by simp [go_sem]) (by rintro _ r rfl; simp [go_sem]) ?_
  rintro r rfl
  simp [go_sem]

theorem IndexRune_high (c : Int) (h0 : 128 ≤ c) (h1 : c ≤ 1114111) (h2 : c ≠ 65533) : ACalls Tryd.prog 115 [.val (.string letters), .val (.int .i32 c)] (· = .one (.sv (iv (-1)))) := by
  refine ACalls.of_body (fun _ _ => Tryd.call115 _ _) Tryd.func115 rfl Tryd.ntmps115 (by simp) ?_
  refine Tr.ex ?_
  obtain ⟨e1, e2⟩ := encode_high c h0
  generalize hs : Utf8.encode c = s at e1 e2
  have e3 : bt s (s.size - 1 : Int) ≤ 255 := by unfold bt; have := UInt8.toNat_lt (s.data.getD ((s.size : Int) - 1).toNat 0); omega
  have a1 : 0 ≤ c := by omega
  have a2 : ¬ c < 128 := by omega
  have a3 : (c == 65533) = false := by simpa using h2
  simp [go_sem, a1, a2, a3]
  refine OpW.fn true (ValidRune_c c) rfl rfl (by simp [go_sem]) (by rintro _ r ⟨b, rfl⟩; simp [go_sem]) ?_
  rintro r ⟨b, rfl⟩
  cases b with
  | false => simp [go_sem]
  | true =>
    have e4 : s.size ≤ 4 := by rw [← hs]; exact encode_le c
    have ew : IntKind.i64.wrap ((s.size : Int) - 1) = (s.size : Int) - 1 := i64w _ (by omega) (by omega)
    have el : letters.size = 36 := rfl
    simp [go_sem, hs, ew]
    refine LoopW.of (fun _ : Unit => ⟨187, [(0, .sv (.val (.string letters))), (1, .sv (.val (.int .i32 c))), (7, .sv (.val (.string s))), (8, .sv (iv ((s.size : Int) - 1))), (9, .sv (iv ((s.size : Int) - 1)))], []⟩) (fun _ => True) (fun _ => 0) () trivial (Ent.chk (by simp [go_sem])) ?_
    rintro _ _
    have l1 : ((s.size : Int) - 1 < 36) := by omega
    simp [go_sem, el, l1]
    refine DrawW.rd rfl ?_
    have lb : ∀ k : Nat, k < 36 → bt letters (k : Int) < 128 := by decide +kernel
    have b1 : bt letters ((s.size : Int) - 1) < 128 := by have := lb (s.size - 1) (by omega); rwa [show ((s.size - 1 : Nat) : Int) = (s.size : Int) - 1 by omega] at this
    have b2 : (bt letters ((s.size : Int) - 1) != bt s ((s.size : Int) - 1)) = true := by simp; omega
    have ew2 : IntKind.i64.wrap ((s.size : Int) - 1 + 1) = (s.size : Int) := by rw [i64w] <;> omega
    simp [go_sem, el, l1, b2, ew2]
    refine ⟨by omega, by omega, by rfl, ?_⟩
    refine DrawW.rd rfl ?_
    have ew3 : IntKind.i64.wrap (s.size : Int) = (s.size : Int) := by rw [i64w] <;> omega
    have hx := let_high (bt s ((s.size : Int) - 1)).toNat.toUInt8 (by rw [UInt8.toNat_ofNat']; omega) s.size
    simp [go_sem, el, l1, ew3]
    refine ⟨by omega, by omega, ?_⟩
    refine OpD.call true (IndexByte_c (letters.extract s.size 36) (bt s ((s.size : Int) - 1))) rfl rfl (by simp [go_sem]) (by intro _; simp [go_sem]) (by simp [go_sem]) (by simp [go_sem]) ?_
    rw [el] at hx
    rw [hx]
    simp [go_sem]
    rfl
theorem ACalls.ofArgs {P : Program} {g g' : FuncId} {args : List SV} {us : List Value} {R : RV → Prop} (hcall : ∀ (cargs : Array Value) (w : World), (callFunc g cargs).run P w = .ok (.enter g' cargs) w) (ha : ∀ (w : World) (ok : Nat → Prop) (vs : List Value), RepL w ok args vs → vs = us)
    (h : ∀ w, GWx w → Calls P g' us.toArray w fun e w' => ∃ v, e = .returned v ∧ R (.one (.sv (.val v))) ∧ Below w.heap.size w w') :
    ACalls P g args R := by
  refine ⟨g', hcall, fun w ok cargs hok hargs => ?_⟩
  have : cargs = us.toArray := Array.toList_inj.1 (by simpa using ha w ok _ hargs)
  subst this
  refine (h w hok.x).mono ?_
  rintro e w' ⟨v, rfl, hR, hb⟩
  exact fin_val hb hok hR
theorem ACalls.toVals {P : Program} {g : FuncId} {us : List Value} {v : Value} (h : ACalls P g (us.map .val) (· = .one (.sv (.val v)))) (he : ∀ (cargs : Array Value) (w : World), (callFunc g cargs).run P w = .ok (.enter g cargs) w) (w : World) (hw : GWx w) :
    Calls P g us.toArray w fun e w' => e = .returned v ∧ Below w.heap.size w w' := by
  obtain ⟨g', h1, h2⟩ := h
  have hg : g' = g := by
    have a1 := h1 #[] w
    rw [he #[] w] at a1
    simp only [Result.ok.injEq, Next.enter.injEq] at a1
    exact a1.1.1.symm
  subst hg
  refine (h2 w (· < w.heap.size) us.toArray ⟨fun _ h => h, hw⟩ ?_).mono ?_
  · have : ∀ us : List Value, RepL w (· < w.heap.size) (us.map .val) us := by
      intro us
      induction us with
      | nil => simp only [List.map_nil, RepL]
      | cons u us ih => simp only [List.map_cons, RepL]; exact ⟨u, us, rfl, rfl, ih⟩
    simpa using this us
  · rintro e w' ⟨r, vs, E1, rfl, rfl, hI, hE⟩
    refine ⟨?_, ⟨hE.os, hE.tape, hE.output, hE.size, fun k hk => hE.kp k hk⟩⟩
    obtain ⟨v', h1, h2⟩ := hI.tm 0 (.sv (.val v)) (by simp [cst, RV.comps, ent1, lk, R1.av])
    have h3 := h2.val
    subst h3
    have h4 : vs[0]? = some v' := by simpa using h1
    simp [RV.val, List.headD_eq_head?_getD, List.head?_eq_getElem?, h4]

set_option maxHeartbeats 2000000 in
set_option maxRecDepth 1000000 in
theorem IndexRune_err (w : World) : Calls Tryd.prog 115 #[.string letters, .int .i32 65533] w fun e w' => e = .returned (.int .i64 (-1)) ∧ Below w.heap.size w w' := by
  have hall : ∀ pos, pos < 36 → (Utf8.decode letters pos).1 < 128 ∧ (Utf8.decode letters pos).2 = 1 := by decide +kernel
  have hsz : letters.size = 36 := rfl
  go_enter Tryd.func115, Tryd.ntmps115
  go_wp2
  go_loopg [] 36 (fun gf wx => ∃ pos : Nat, wx.heap[w.heap.size]? = some (.stringIter letters pos) ∧ Below w.heap.size w wx ∧ 36 ≤ pos + gf)
  case atStart => exact ⟨0, World.iter_heap w letters 0, (Below.refl _ w).alloc (Nat.le_refl _) _, by omega⟩
  case round =>
    obtain ⟨pos, hit, hbw, hfu⟩ := hrel
    by_cases hps : pos < letters.size
    · obtain ⟨g', rfl⟩ : ∃ g', gk = g' + 1 := ⟨gk - 1, by omega⟩
      have hnx : ∀ ty, (Instr.next (.pointer (some ⟨w.heap.size, 0, none⟩)) true ty).run Tryd.prog wr = _ := fun ty => Lib.run_next_any_at wr w.heap.size letters pos ty hit hps
      obtain ⟨hr, hk⟩ := hall pos (by omega)
      obtain ⟨R, hR⟩ : ∃ R, (Utf8.decode letters pos).1 = R := ⟨_, rfl⟩
      rw [hR, hk] at hnx
      rw [hR] at hr
      have hit2 := Lib.iterAt_heap wr w.heap.size letters pos (pos + 1) hit
      have hbw2 := Lib.below_iterAt hbw (k := w.heap.size) (Nat.le_refl _) letters (pos + 1)
      obtain ⟨W, hWd⟩ : ∃ W, wr.iterAt w.heap.size letters (pos + 1) = W := ⟨_, rfl⟩
      rw [hWd] at hnx hit2 hbw2
      have hne : ((R : Int) == 65533) = false := by simp; omega
      go_wp2
      go_roundg g'
      case measure => omega
      case rel => exact ⟨pos + 1, hit2, hbw2, by omega⟩
    · have hnx : ∀ ty, (Instr.next (.pointer (some ⟨w.heap.size, 0, none⟩)) true ty).run Tryd.prog wr = _ := fun ty => Lib.run_next_end_at wr w.heap.size letters pos ty hit hps
      go_wp2
      go_ret
      exact ⟨rfl, hbw⟩

theorem IndexRune_err_c : ACalls Tryd.prog 115 [.val (.string letters), .val (.int .i32 65533)] (· = .one (.sv (iv (-1)))) :=
  ACalls.ofVals (us := [.string letters, .int .i32 65533]) (fun _ _ => Tryd.call115 _ _) IndexRune_err
/-- The letters hold it, at every rune. -/
theorem IndexRune_c (c : Int) (h0 : 0 ≤ c) (h1 : c ≤ 1114111) : ∃ i : Int, decide (0 ≤ i) = isLet c.toNat ∧ ACalls Tryd.prog 115 [.val (.string letters), .val (.int .i32 c)] (· = .one (.sv (iv i))) := by
  by_cases h2 : c < 128
  · exact ⟨_, let_index c.toNat (by omega), IndexRune_low letters c h0 h2⟩
  · have hl : isLet c.toNat = false := by
      unfold isLet
      have h3 : ¬ c.toNat ≤ 122 := by omega
      have h4 : ¬ c.toNat ≤ 57 := by omega
      simp [h3, h4]
    by_cases h3 : c = 65533
    · subst h3; exact ⟨-1, by rw [hl]; rfl, IndexRune_err_c⟩
    · exact ⟨-1, by rw [hl]; rfl, IndexRune_high c (by omega) h1 h3⟩
theorem ContainsRune_c (c : Int) (h0 : 0 ≤ c) (h1 : c ≤ 1114111) : ACalls Tryd.prog 100 [.val (.string letters), .val (.int .i32 c)] (· = .one (.sv (bv (isLet c.toNat)))) := by
  obtain ⟨i, hi, hc⟩ := IndexRune_c c h0 h1
  refine ACalls.of_body (fun _ _ => Tryd.call100 _ _) Tryd.func100 rfl Tryd.ntmps100 (by simp) ?_
  refine Tr.ex ?_
  simp [go_sem]
  refine OpW.fn true hc rfl rfl (by simp [go_sem]) (by rintro _ r rfl; simp [go_sem]) ?_
  rintro r rfl
  simp [go_sem, hi]
end Go.Proofs.YtfcojlagmmgagaaDoor.Ab
