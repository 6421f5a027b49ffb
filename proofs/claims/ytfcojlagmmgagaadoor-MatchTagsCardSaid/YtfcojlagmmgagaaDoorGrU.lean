/- Tags: the closure, strings.indexFunc over it, graph.Tag. -/
import Derived.Test.YtfcojlagmmgagaaDoorGrT
namespace Go.Proofs.YtfcojlagmmgagaaDoor.Ab
open Go.RowKit
set_option linter.unusedVariables false
set_option linter.unusedSimpArgs false
theorem tag1_c (c : Int) (h0 : 0 ≤ c) (h1 : c ≤ 1114111) : ACalls Tryd.prog 99 [.val (.int .i32 c)] (· = .one (.sv (bv (!isLet c.toNat)))) := by
  refine ACalls.of_body (fun _ _ => Tryd.call99 _ _) Tryd.func99 rfl Tryd.ntmps99 (by simp) ?_
  refine Tr.ex ?_
  simp [go_sem]
  refine OpW.fn true (ContainsRune_c c h0 h1) rfl rfl (by simp [go_sem, letters]) (by rintro _ r rfl; simp [go_sem]) ?_
  rintro r rfl
  simp [go_sem]
theorem tag1_w (R : Nat) (h1 : R ≤ 1114111) (w : World) (hw : GWx w) : Calls Tryd.prog 99 #[.int .i32 R] w fun e w' => e = .returned (.bool (!isLet R)) ∧ Below w.heap.size w w' :=
  ACalls.toVals (us := [.int .i32 R]) (tag1_c R (by omega) (by omega)) (fun _ _ => Tryd.call99 _ _) w hw

/-- Letters alone, from a place on. -/
def tagBytes (s : ByteArray) : Bool := s.data.toList.all fun b => isLet b.toNat
theorem tag_upto {s : ByteArray} {pos : Nat} (h : ¬ pos < s.size) (hp : ∀ j, j < pos → ∀ b, s.data.toList[j]? = some b → isLet b.toNat = true) : tagBytes s = true := by
  unfold tagBytes
  rw [List.all_eq_true]
  intro b hb
  obtain ⟨j, hj, rfl⟩ := List.getElem_of_mem hb
  have hs : s.data.toList.length = s.size := Array.length_toList
  exact hp j (by omega) _ (List.getElem?_eq_getElem hj)
theorem tag_not {s : ByteArray} {pos : Nat} {b : UInt8} (h : s.data.toList[pos]? = some b) (hb : isLet b.toNat = false) : tagBytes s = false := by
  unfold tagBytes
  rw [List.all_eq_false]
  exact ⟨b, List.mem_of_getElem? h, by simp [hb]⟩
theorem isLet_lt {n : Nat} (h : isLet n = true) : n < 128 := by
  unfold isLet at h
  simp at h
  omega

set_option maxHeartbeats 2000000 in
set_option maxRecDepth 1000000 in
theorem indexFunc_w (s : ByteArray) (w : World) (hgw : GWx w) : Calls Tryd.prog 130 #[.string s, .func (.func 99) #[] #[], .bool true] w fun e w' => ∃ v, e = .returned v ∧ (∃ i : Int, v = .int .i64 i ∧ decide (0 ≤ i) = !tagBytes s) ∧ Below w.heap.size w w' := by
  go_enter Tryd.func130, Tryd.ntmps130
  go_wp2
  go_loopg [] s.size (fun gf wx => ∃ pos : Nat, wx.heap[w.heap.size]? = some (.stringIter s pos) ∧ Below w.heap.size w wx ∧ (∀ j, j < pos → ∀ b, s.data.toList[j]? = some b → isLet b.toNat = true) ∧ s.size ≤ pos + gf)
  case atStart => exact ⟨0, World.iter_heap w s 0, (Below.refl _ w).alloc (Nat.le_refl _) _, fun j hj => by omega, by omega⟩
  case round =>
    obtain ⟨pos, hit, hbw, hleft, hfu⟩ := hrel
    by_cases hps : pos < s.size
    · obtain ⟨g', rfl⟩ : ∃ g', gk = g' + 1 := ⟨gk - 1, by omega⟩
      have hnx : ∀ ty, (Instr.next (.pointer (some ⟨w.heap.size, 0, none⟩)) true ty).run Tryd.prog wr = _ := fun ty => Lib.run_next_any_at wr w.heap.size s pos ty hit hps
      have hle := Lib.rune_le s pos
      have hbyte : s.data.toList[pos]? = some s[pos] := by simp [hps]; rfl
      have hdec : isLet (Utf8.decode s pos).1 = true → (Utf8.decode s pos).2 = 1 ∧ isLet (s[pos]).toNat = true := fun h => by
        have h1 := isLet_lt h
        by_cases ha : (s[pos]).toNat < 128
        · rw [decode_ascii s pos hps ha] at h ⊢
          exact ⟨rfl, h⟩
        · have := (decode_high s pos hps (by omega)).1
          omega
      have hdec2 : isLet (Utf8.decode s pos).1 = false → isLet (s[pos]).toNat = false := fun h => by
        by_cases ha : (s[pos]).toNat < 128
        · rw [decode_ascii s pos hps ha] at h
          exact h
        · cases hb : isLet (s[pos]).toNat with
          | false => rfl
          | true => exact absurd (isLet_lt hb) ha
      obtain ⟨R, hR⟩ : ∃ R, (Utf8.decode s pos).1 = R := ⟨_, rfl⟩
      obtain ⟨K, hK⟩ : ∃ K, (Utf8.decode s pos).2 = K := ⟨_, rfl⟩
      rw [hR, hK] at hnx hdec
      rw [hR] at hle hdec2
      have hit2 := Lib.iterAt_heap wr w.heap.size s pos (pos + K) hit
      have hbw2 := Lib.below_iterAt hbw (k := w.heap.size) (Nat.le_refl _) s (pos + K)
      obtain ⟨W, hWd⟩ : ∃ W, wr.iterAt w.heap.size s (pos + K) = W := ⟨_, rfl⟩
      rw [hWd] at hnx hit2 hbw2
      have cS : Calls Tryd.prog 99 #[.int .i32 (R : Int)] W _ := tag1_w R hle W (hgw.below hbw2)
      cases hsp : isLet R <;> rw [hsp] at cS
      · go_wp2_with (go_at_call 99; refine cS.mono ?_; rintro e W' ⟨rfl, q⟩)
        go_ret
        exact ⟨_, rfl, ⟨(pos : Int), rfl, by rw [tag_not hbyte (hdec2 hsp)]; simp⟩, hbw2.trans (q.mono hbw2.size)⟩
      · obtain ⟨rfl, hb1⟩ := hdec hsp
        go_wp2_with (go_at_call 99; refine cS.mono ?_; rintro e W' ⟨rfl, q⟩)
        go_roundg g'
        case measure => omega
        case rel =>
          refine ⟨pos + 1, ?_, hbw2.trans (q.mono hbw2.size), fun j hj b hb => ?_, by omega⟩
          · rw [q.block _ ?_]; exact hit2
            exact (Array.getElem?_eq_some_iff.1 hit2).1
          · by_cases hjp : j = pos
            · subst hjp; rw [hbyte] at hb; simp only [Option.some.injEq] at hb; subst hb; exact hb1
            · exact hleft j (by omega) b hb
    · have hnx : ∀ ty, (Instr.next (.pointer (some ⟨w.heap.size, 0, none⟩)) true ty).run Tryd.prog wr = _ := fun ty => Lib.run_next_end_at wr w.heap.size s pos ty hit hps
      go_wp2
      go_ret
      exact ⟨_, rfl, ⟨-1, rfl, by rw [tag_upto hps hleft]; rfl⟩, hbw⟩
theorem indexFunc_c (s : ByteArray) : ACalls Tryd.prog 130 [.val (.string s), .fn 99 [], .val (.bool true)] (fun r => ∃ i : Int, r = .one (.sv (iv i)) ∧ decide (0 ≤ i) = !tagBytes s) := by
  refine ACalls.ofArgs (us := [.string s, .func (.func 99) #[] #[], .bool true]) (fun _ _ => Tryd.call130 _ _) ?_ fun w hw => (indexFunc_w s w hw).mono ?_
  · intro w ok vs h
    simp only [RepL, RepS] at h
    obtain ⟨v1, vs1, rfl, rfl, v2, vs2, rfl, ⟨cs, rfl, h3⟩, v3, vs3, rfl, rfl, rfl⟩ := h
    have : cs = #[] := Array.toList_inj.1 (by simpa using h3)
    subst this
    rfl
  · rintro e w' ⟨v, rfl, ⟨i, rfl, hi⟩, hb⟩
    exact ⟨_, rfl, ⟨i, rfl, hi⟩, hb⟩
theorem IndexFunc_c (s : ByteArray) : ACalls Tryd.prog 114 [.val (.string s), .fn 99 []] (fun r => ∃ i : Int, r = .one (.sv (iv i)) ∧ decide (0 ≤ i) = !tagBytes s) := by
  refine ACalls.of_body (fun _ _ => Tryd.call114 _ _) Tryd.func114 rfl Tryd.ntmps114 (by simp) ?_
  refine Tr.ex ?_
  simp [go_sem]
  refine OpW.fn true (indexFunc_c s) rfl rfl (by simp [go_sem]) (by rintro _ r ⟨i, rfl, hi⟩; simp [go_sem]) ?_
  rintro r ⟨i, rfl, hi⟩
  simp [go_sem, hi]
theorem ContainsFunc_c (s : ByteArray) : ACalls Tryd.prog 98 [.val (.string s), .fn 99 []] (· = .one (.sv (bv (!tagBytes s)))) := by
  refine ACalls.of_body (fun _ _ => Tryd.call98 _ _) Tryd.func98 rfl Tryd.ntmps98 (by simp) ?_
  refine Tr.ex ?_
  simp [go_sem]
  refine OpW.fn true (IndexFunc_c s) rfl rfl (by simp [go_sem]) (by rintro _ r ⟨i, rfl, hi⟩; simp [go_sem]) ?_
  rintro r ⟨i, rfl, hi⟩
  simp [go_sem, hi]
/-- A tag is right. -/
def isTag (s : ByteArray) : Bool := decide (s.size ≤ 16) && tagBytes s
theorem Tag_c (s : ByteArray) (hs : s.size ≤ 9223372036854775807) : ACalls Tryd.prog 65 [.val (.string s)] (· = .one (.sv (bv (isTag s)))) := by
  refine ACalls.of_body (fun _ _ => Tryd.call65 _ _) Tryd.func65 rfl Tryd.ntmps65 (by simp) ?_
  refine Tr.ex ?_
  unfold isTag
  by_cases h : s.size ≤ 16
  · have h' : (s.size : Int) ≤ 16 := by omega
    simp [go_sem, h, h']
    refine OpW.fn true (ContainsFunc_c s) rfl rfl (by simp [go_sem]) (by rintro _ r rfl; simp [go_sem]) ?_
    rintro r rfl
    simp [go_sem]
  · have h' : ¬ (s.size : Int) ≤ 16 := by omega
    simp [go_sem, h, h']

end Go.Proofs.YtfcojlagmmgagaaDoor.Ab
