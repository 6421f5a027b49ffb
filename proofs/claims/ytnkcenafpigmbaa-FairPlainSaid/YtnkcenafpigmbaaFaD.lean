/- fair: Order. -/
import Derived.Test.YtnkcenafpigmbaaFaA
import Derived.Test.YtnkcenafpigmbaaFaB
import Derived.Test.YtnkcenafpigmbaaFaC
import Derived.Test.YtnkcenafpigmbaaAbMp
import Derived.Test.YtnkcenafpigmbaaQu5
namespace Go.Proofs.Ytnkcenafpigmbaa.Ab
open Go.RowKit Go.Proofs.Ytnkcenafpigmbaa.Fl
set_option linter.unusedVariables false
set_option linter.unusedSimpArgs false

def cmpR (a b : Rk) : Int := or2 (c3I b.rank a.rank) (c3I a.id b.id)
set_option maxRecDepth 100000 in
theorem cmpR_c (a b : Rk) : ACalls Try.prog 61 [rkSV a, rkSV b] (· = .one (.sv (iv (cmpR a b)))) := by
  refine ACalls.of_bodyS (fun _ _ => Try.call61 _ _) Try.func61 rfl Try.ntmps61 (by simp) ?_
  refine Tr.ex ?_
  have c1 := CmpI_c b.rank a.rank
  have c2 := CmpI_c a.id b.id
  have c3 := Or_c (c3I b.rank a.rank) (c3I a.id b.id)
  unfold cmpR
  generalize or2 (c3I b.rank a.rank) (c3I a.id b.id) = z at *
  generalize c3I b.rank a.rank = x at *
  generalize c3I a.id b.id = y at *
  simp [go_sem]
  refine DrawW.rdN [15] (by simp [go_sem]) rfl ?_
  simp [go_sem]
  refine OpD.call true c1 rfl rfl (by simp [go_sem]) (by intro _; simp [go_sem]) (by simp [go_sem]) (by simp [go_sem]) ?_
  simp [go_sem]
  refine OpD.call true c2 rfl rfl (by simp [go_sem]) (by intro _; simp [go_sem]) (by simp [go_sem]) (by simp [go_sem]) ?_
  simp [go_sem]
  refine OpD.bslice rfl rfl (by simp [go_sem]) (by simp [go_sem]) (by simp [go_sem]; rfl) (by simp [go_sem]; rfl) (by simp [go_sem]) (by simp [go_sem]) (by decide) (by simp [go_sem]) (by simp [go_sem]; rfl) ?_
  simp [go_sem]
  refine OpD.call true c3 rfl rfl (by simp [go_sem]) (by intro _; simp [go_sem]) (by simp [go_sem]) (by simp [go_sem]) ?_
  simp [go_sem]
  show _ = true
  kernel_rfl
/-- A job's number, and its rank. -/
def rkOf (l : List Job) (ow : List Owned) (us : List Use) (id : Int) : Rk := ⟨id, (getJ l id).1.spec.prio + bonusN us (whoO ow id)⟩
def rankL (l : List Job) (ow : List Owned) (us : List Use) : List Rk := (readyL l).map (rkOf l ow us)
def orderL (l : List Job) (ow : List Owned) (us : List Use) : List Int := (srt (fun a b => decide (cmpR a b < 0)) (rankL l ow us)).map (·.id)
theorem bonusN_le (l : List Use) (who : Int) : bonusN l who ≤ l.length := by
  unfold bonusN
  split
  · exact List.countP_le_length
  · exact Nat.zero_le _
theorem getJ_prio (l : List Job) (id : Int) : -1000 ≤ (getJ l id).1.spec.prio ∧ (getJ l id).1.spec.prio ≤ 1000 := by
  unfold getJ
  split
  · rename_i h
    obtain ⟨hq, ha⟩ := h
    obtain ⟨j, hj, he⟩ := (isAtJ_low (q_sorted hq)).1 ha
    have hjb : jb l (lowJ l id) = j := by unfold jb; rw [List.getD_eq_getElem?_getD, hj]; rfl
    rw [hjb]
    have h1 := (q_row hq hj).1
    unfold isJob isSpec inR at h1
    simp only [Bool.and_eq_true, decide_eq_true_eq] at h1
    have e : (j, true).1.spec.prio = j.spec.prio := rfl
    omega
  · simp [noJ]
set_option maxHeartbeats 16000000 in
set_option maxRecDepth 100000 in
theorem OrderX (l : List Job) (ow : List Owned) (us : List Use) (hl : l.length < 20) (hh : Jobs l) (ho : ow.length ≤ 1000000) (hu : us.length ≤ 1000000) (hw : UsesW us) (R : List Int) (hR : R = readyL l) (hRl : R.length ≤ 20)
    (L g : List Rk) (hL : L = R.map (rkOf l ow us)) (hg : g.length = L.length)
    (hsort : ACallsI Try.prog 60 [.own, .sv (.fn 61 [])] (.row 2 (L.map rkSV)) (fun r o => r = .many [] ∧ o = .row 2 (g.map rkSV))) :
    ACalls Try.prog 31 [jobs l, owneds ow, uses us] (· = .one (.sv (ints (g.map (·.id))))) := by
  refine ACalls.of_bodyS (fun _ _ => Try.call31 _ _) Try.func31 rfl Try.ntmps31 (by simp) ?_
  have fR := qReady_c l hl hh
  rw [← hR] at fR
  have hLl : L.length = R.length := by rw [hL]; simp
  refine Tr.seqS ⟨77, [(0, .sv (jobs l)), (1, .sv (owneds ow)), (2, .sv (uses us)), (6, .nil)], []⟩ (by simp [go_sem]; exact Ent.chk (by simp [go_sem])) ?_
  refine Tr.map (fun who => (bonusN us who : Int)) rfl rfl (by simp [go_sem]) fun r => ?_
  refine MRn.fin ⟨77, [(0, .sv (jobs l)), (1, .sv (owneds ow)), (2, .sv (uses us)), (6, .nil), (7, .sv (.val (.map (some r))))], []⟩ (by simp [go_sem]; exact Ent.chk (by simp [go_sem])) fun s hs => MTr.ent hs ?_
  refine MTr.seqS ⟨77, [(0, .sv (jobs l)), (1, .sv (owneds ow)), (2, .sv (uses us)), (6, .nil), (7, .sv (.val (.map (some r)))), (8, .nil)], []⟩ (by simp [go_sem]; exact Ent.chk (by simp [go_sem])) ?_
  refine MTr.seqM ⟨77, [(6, .nil), (8, .own 8)], [(8, .row 2 (L.map rkSV))]⟩ ?_ fun S' => MTr.of (Tr.ex ?_)
  · refine MTr.seqS ⟨77, [(0, .sv (jobs l)), (1, .sv (owneds ow)), (2, .sv (uses us)), (6, .nil), (7, .sv (.val (.map (some r)))), (8, .nil), (21, .sv (ints R)), (22, .sv (iv R.length)), (23, .sv (iv 0))], []⟩ ?_ ?_
    · simp [go_sem]
      refine OpW.fn false fR rfl rfl (by simp [go_sem]) (fun h => by cases h) ?_
      rintro r rfl
      simp [go_sem]
      exact Ent.chk (by simp [go_sem])
    · refine MTr.block ?_
      refine MTr.loop (fun i : Nat => ⟨77, [(0, .sv (jobs l)), (1, .sv (owneds ow)), (2, .sv (uses us)), (6, .nil), (7, .sv (.val (.map (some r)))), (8, .own 8), (21, .sv (ints R)), (22, .sv (iv R.length)), (23, .sv (iv i))], [(8, .row 2 ((L.take i).map rkSV))]⟩)
        (fun i => i ≤ R.length) (fun i => R.length - i) 0 (by omega) (Ent.thaw 8 8 2 (by simp [go_sem]) (by simp [go_sem]) (by decide) (Ent.chk (by simp [go_sem]))) ?_
      intro i hi
      by_cases hlt : i < R.length
      case neg =>
        have hil : i = R.length := by omega
        subst hil
        rw [← hLl, List.take_length]
        refine MTr.of (Tr.ex ?_)
        simp [go_sem, mthenQ, mblockQ]
        exact Ent.chk (by simp [go_sem])
      case pos =>
      have hlt' : (i : Int) < R.length := by omega
      have hwr : IntKind.i64.wrap ((i : Int) + 1) = (i : Int) + 1 := by rw [i64w] <;> omega
      obtain ⟨id, hid⟩ : ∃ x, R[i]? = some x := ⟨_, List.getElem?_eq_getElem hlt⟩
      have hLi : L[i]? = some (rkOf l ow us id) := by rw [hL, List.getElem?_map, hid]; rfl
      have hLt : L.take (i + 1) = L.take i ++ [rkOf l ow us id] := by rw [List.take_succ_eq_append_getElem (by omega), gE hLi]
      have fG := qGet_c l id (by omega) hh
      have hpr := getJ_prio l id
      have fW := Who_c ow id (by omega)
      have hbl := bonusN_le us (whoO ow id)
      have fB := Bonus_c us (whoO ow id) (by omega) hw
      have hrk : rkOf l ow us id = ⟨id, (getJ l id).1.spec.prio + bonusN us (whoO ow id)⟩ := rfl
      rw [hrk] at hLt
      have htl : (L.take i).length = i := by rw [List.length_take]; omega
      generalize getJ l id = J at *
      obtain ⟨J, ok⟩ := J
      simp only at *
      generalize hwho : whoO ow id = who at *
      have hwb : IntKind.i64.wrap (J.spec.prio + (bonusN us who : Int)) = J.spec.prio + (bonusN us who : Int) := by rw [i64w] <;> omega
      have hm := congrArg (List.map rkSV) hLt
      rw [List.map_append] at hm
      simp only [List.map_cons, List.map_nil, rkSV, iv] at hm
      generalize hnx : L.take (i + 1) = nx at *
      generalize hcu : L.take i = cu at *
      refine MTr.seqS ⟨77, [(0, .sv (jobs l)), (1, .sv (owneds ow)), (2, .sv (uses us)), (6, .nil), (7, .sv (.val (.map (some r)))), (8, .own 8), (21, .sv (ints R)), (22, .sv (iv R.length)), (23, .sv (iv i)), (24, .sv (bv true))], [(8, .row 2 (cu.map rkSV))]⟩ (by simp [go_sem, hlt, hlt']; exact Ent.chk (by simp [go_sem])) ?_
      refine MTr.seqS ⟨77, [(0, .sv (jobs l)), (1, .sv (owneds ow)), (2, .sv (uses us)), (6, .nil), (7, .sv (.val (.map (some r)))), (8, .own 8), (21, .sv (ints R)), (22, .sv (iv R.length)), (23, .sv (iv i))], [(8, .row 2 (cu.map rkSV))]⟩ (by simp [go_sem]; exact Ent.chk (by simp [go_sem])) ?_
      refine MTr.seqM ⟨77, [(0, .sv (jobs l)), (1, .sv (owneds ow)), (2, .sv (uses us)), (6, .nil), (7, .sv (.val (.map (some r)))), (8, .own 8), (21, .sv (ints R)), (22, .sv (iv R.length)), (23, .sv (iv i))], [(8, .row 2 (nx.map rkSV))]⟩ ?_ fun S2 => MTr.of (Tr.ex ?_)
      · refine MTr.block ?_
        refine MTr.seqS ⟨77, [(0, .sv (jobs l)), (1, .sv (owneds ow)), (2, .sv (uses us)), (6, .nil), (7, .sv (.val (.map (some r)))), (8, .own 8), (10, .sv (iv id)), (21, .sv (ints R)), (22, .sv (iv R.length)), (23, .sv (iv i))], [(8, .row 2 (cu.map rkSV))]⟩ (by simp [go_sem, hlt, hlt', hid, gE hid]; exact Ent.chk (by simp [go_sem])) ?_
        refine MTr.seqS ⟨77, [(0, .sv (jobs l)), (1, .sv (owneds ow)), (2, .sv (uses us)), (6, .nil), (7, .sv (.val (.map (some r)))), (8, .own 8), (10, .sv (iv id)), (11, .box 11 0), (21, .sv (ints R)), (22, .sv (iv R.length)), (23, .sv (iv i))], [(8, .row 2 (cu.map rkSV)), (11, .box ((jobCells J).map .sv))]⟩ ?_ ?_
        · simp [go_sem]
          refine OpW.fn false fG rfl rfl (by simp [go_sem]) (fun h => by cases h) ?_
          rintro r rfl
          simp [go_sem]
          exact Ent.chk (by simp [go_sem])
        refine MTr.seqS ⟨77, [(0, .sv (jobs l)), (1, .sv (owneds ow)), (2, .sv (uses us)), (6, .nil), (7, .sv (.val (.map (some r)))), (8, .own 8), (10, .sv (iv id)), (11, .box 11 0), (13, .sv (iv who)), (21, .sv (ints R)), (22, .sv (iv R.length)), (23, .sv (iv i))], [(8, .row 2 (cu.map rkSV)), (11, .box ((jobCells J).map .sv))]⟩ ?_ ?_
        · simp [go_sem]
          refine OpW.fn true fW rfl rfl (by simp [go_sem]) (by rintro _ r rfl; simp [go_sem]) ?_
          rintro r rfl
          simp [go_sem]
          exact Ent.chk (by simp [go_sem])
        refine MTr.seqN ⟨77, [(0, .sv (jobs l)), (1, .sv (owneds ow)), (2, .sv (uses us)), (6, .nil), (7, .sv (.val (.map (some r)))), (8, .own 8), (10, .sv (iv id)), (11, .box 11 0), (13, .sv (iv who)), (21, .sv (ints R)), (22, .sv (iv R.length)), (23, .sv (iv i))], [(8, .row 2 (cu.map rkSV)), (11, .box ((jobCells J).map .sv))]⟩ [who] ?_ ?_
        · refine MTr.seq (MTr.region ?_)
          refine MRn.go 2 ⟨77, [(0, .sv (jobs l)), (1, .sv (owneds ow)), (2, .sv (uses us)), (6, .nil), (7, .sv (.val (.map (some r)))), (8, .own 8), (10, .sv (iv id)), (11, .box 11 0), (13, .sv (iv who)), (21, .sv (ints R)), (22, .sv (iv R.length)), (23, .sv (iv i)), (37, .sv (.val (.map (some r)))), (38, .sv (iv who))], [(8, .row 2 (cu.map rkSV)), (11, .box ((jobCells J).map .sv))]⟩ (by simp [go_sem]; exact Ent.chk (by simp [go_sem])) ?_
          refine MRn.ask (kt := 3) (et := 3) (k := who) rfl (by simp [go_sem]) (by simp [go_sem]) (by simp [go_sem]) (by kernel_rfl) (by kernel_rfl) (by kernel_rfl) (by simp [go_sem]) ?_ ?_
          · refine MRn.fin ⟨77, [(0, .sv (jobs l)), (1, .sv (owneds ow)), (2, .sv (uses us)), (6, .nil), (7, .sv (.val (.map (some r)))), (8, .own 8), (10, .sv (iv id)), (11, .box 11 0), (13, .sv (iv who)), (21, .sv (ints R)), (22, .sv (iv R.length)), (23, .sv (iv i)), (15, .sv (bv true))], [(8, .row 2 (cu.map rkSV)), (11, .box ((jobCells J).map .sv))]⟩ (by simp [go_sem]; exact Ent.chk (by simp [go_sem])) fun s hs => MTr.ent hs ?_
            refine MTr.of (Tr.ex ?_)
            simp [go_sem]
            exact Ent.chk (by simp [go_sem])
          · refine MRn.fin ⟨77, [(0, .sv (jobs l)), (1, .sv (owneds ow)), (2, .sv (uses us)), (6, .nil), (7, .sv (.val (.map (some r)))), (8, .own 8), (10, .sv (iv id)), (11, .box 11 0), (13, .sv (iv who)), (21, .sv (ints R)), (22, .sv (iv R.length)), (23, .sv (iv i)), (15, .sv (bv false))], [(8, .row 2 (cu.map rkSV)), (11, .box ((jobCells J).map .sv))]⟩ (by simp [go_sem]; exact Ent.chk (by simp [go_sem])) fun s hs => MTr.ent hs ?_
            refine MTr.seqS ⟨77, [(0, .sv (jobs l)), (1, .sv (owneds ow)), (2, .sv (uses us)), (6, .nil), (7, .sv (.val (.map (some r)))), (8, .own 8), (10, .sv (iv id)), (11, .box 11 0), (13, .sv (iv who)), (21, .sv (ints R)), (22, .sv (iv R.length)), (23, .sv (iv i)), (43, .sv (bv true))], [(8, .row 2 (cu.map rkSV)), (11, .box ((jobCells J).map .sv))]⟩ (by simp [go_sem]; exact Ent.chk (by simp [go_sem])) ?_
            refine MTr.cond (b := true) (by simp [go_sem]) (fun _ => ?_) (fun h => by cases h)
            refine MTr.region ?_
            refine MRn.go 5 ⟨77, [(0, .sv (jobs l)), (1, .sv (owneds ow)), (2, .sv (uses us)), (6, .nil), (7, .sv (.val (.map (some r)))), (8, .own 8), (10, .sv (iv id)), (11, .box 11 0), (13, .sv (iv who)), (21, .sv (ints R)), (22, .sv (iv R.length)), (23, .sv (iv i)), (44, .sv (.val (.map (some r)))), (45, .sv (iv who)), (48, .sv (iv (bonusN us who)))], [(8, .row 2 (cu.map rkSV)), (11, .box ((jobCells J).map .sv))]⟩ ?_ ?_
            · simp [go_sem]
              refine OpW.fn true fB rfl rfl (by simp [go_sem]) (by rintro _ r rfl; simp [go_sem]) ?_
              rintro r rfl
              simp [go_sem]
              exact Ent.chk (by simp [go_sem])
            refine MRn.tell (kt := 3) (et := 3) (k := who) rfl (by simp [go_sem]) (by simp [go_sem]) (by simp [go_sem]) (by simp [go_sem]) (by kernel_rfl) (by kernel_rfl) rfl ?_
            exact MRn.nil ⟨rfl, Ent.chk (by simp [go_sem]), rfl⟩
        · refine MTr.region ?_
          refine MRn.go 7 ⟨77, [(0, .sv (jobs l)), (1, .sv (owneds ow)), (2, .sv (uses us)), (6, .nil), (7, .sv (.val (.map (some r)))), (8, .own 8), (10, .sv (iv id)), (11, .box 11 0), (13, .sv (iv who)), (21, .sv (ints R)), (22, .sv (iv R.length)), (23, .sv (iv i)), (49, .own 8), (50, .sv (iv id)), (53, .sv (iv J.spec.prio)), (54, .sv (.val (.map (some r)))), (55, .sv (iv who))], [(8, .row 2 (cu.map rkSV)), (11, .box ((jobCells J).map .sv))]⟩ (by simp [go_sem]; exact Ent.chk (by simp [go_sem])) ?_
          refine MRn.get (kt := 3) (et := 3) (k := who) rfl (by simp [go_sem]) (by simp [go_sem]) (by simp [go_sem]) (by kernel_rfl) (by kernel_rfl) (by kernel_rfl) (by simp [go_sem]) (by simp) ?_
          refine MRn.fin ⟨77, [(0, .sv (jobs l)), (1, .sv (owneds ow)), (2, .sv (uses us)), (6, .nil), (7, .sv (.val (.map (some r)))), (8, .own 8), (21, .sv (ints R)), (22, .sv (iv R.length)), (23, .sv (iv i))], [(8, .row 2 (nx.map rkSV))]⟩ ?_ fun s hs => ⟨rfl, hs⟩
          simp [go_sem, hwb]
          exact ⟨by omega, Ent.rename2 60 8 (by simp [go_sem]) (Ent.chk (by simp [go_sem, hm]))⟩
      · simp [go_sem, mthenQ, mblockQ, hwr]
        have hnx2 : List.take (i + 1) (L.map rkSV) = nx.map rkSV := by rw [← List.map_take, hnx]
        exact ⟨i + 1, by omega, by omega, Ent.chk (by simp [go_sem, hnx2])⟩
  · simp [go_sem]
    refine OpW.callI 8 hsort rfl (by simp [go_sem]) (by simp [go_sem]) (by simp [go_sem, hg]) (by simp [go_sem, hg]) ?_
    rintro r' o ⟨rfl, rfl⟩
    simp [go_sem, hg]
    refine LoopW.of (fun i : Nat => ⟨77, [(6, .nil), (16, .own 16), (64, .own 8), (65, .sv (iv L.length)), (66, .sv (iv i))], [(8, .row 2 (g.map rkSV)), (16, .row 1 (((g.take i).map (·.id)).map iv))]⟩)
      (fun i => i ≤ L.length) (fun i => L.length - i) 0 (by omega) (Ent.thaw 16 16 1 (by simp [go_sem]) (by simp [go_sem]) (by decide) (Ent.chk (by simp [go_sem]))) ?_
    intro i hi
    by_cases hlt : i < L.length
    case neg =>
      have hil : i = L.length := by omega
      subst hil
      rw [← hg, List.take_length]
      simp [go_sem]
    case pos =>
    have hlt' : (i : Int) < L.length := by omega
    have hgl : i < g.length := by omega
    have hgl' : (i : Int) < g.length := by omega
    have hwr : IntKind.i64.wrap ((i : Int) + 1) = (i : Int) + 1 := by rw [i64w] <;> omega
    obtain ⟨x, hx⟩ : ∃ x, g[i]? = some x := ⟨_, List.getElem?_eq_getElem hgl⟩
    have hgt : g.take (i + 1) = g.take i ++ [x] := by rw [List.take_succ_eq_append_getElem hgl, gE hx]
    have htl : (g.take i).length = i := by rw [List.length_take]; omega
    have hm : ((g.take (i + 1)).map (·.id)).map iv = ((g.take i).map (·.id)).map iv ++ [SV.val (.int .i64 x.id)] := by rw [hgt]; simp [iv]
    have hm2 : (g.map (iv ∘ fun x : Rk => x.id)).take (i + 1) = ((g.take i).map (·.id)).map iv ++ [SV.val (.int .i64 x.id)] := by rw [← hm]; simp [List.map_take]
    have hnl : ((g.take i).map (·.id)).length = i := by simp; omega
    generalize hcu : (g.take i).map (·.id) = cu at *
    simp [go_sem, hlt, hlt', hgl, hgl', hx, gE hx]
    exact ⟨by omega, i + 1, by omega, by omega, Ent.rename2 74 16 (by simp [go_sem]) (Ent.chk (by simp [go_sem, hwr, hm2]))⟩
end Go.Proofs.Ytnkcenafpigmbaa.Ab
