/- Plain helpers for the pure statements: numbers in range, bytes, loops that end. -/
import Derived.Test.YtimllhflecippaaWWords
import Derived.Test.YtimllhflecippaaWMore
import Derived.Laws.BitsLemmas
import Derived.Laws.Strings
namespace Go.Proofs.Ytimllhflecippaa.Pk
open Go.RowKit Go.Proofs.YtimllhflecippaaW.PrintWords Go.Proofs.YtimllhflecippaaW.PrintMore
set_option linter.unusedSimpArgs false
set_option linter.unusedVariables false

theorem wf_u8 {x : Int} : (Lit.int .u8 x).wf = true ↔ 0 ≤ x ∧ x ≤ 255 := by simp [Lit.wf, IntKind.min, IntKind.max, IntKind.signed, IntKind.bits]
theorem wf_u16 {x : Int} : (Lit.int .u16 x).wf = true ↔ 0 ≤ x ∧ x ≤ 65535 := by simp [Lit.wf, IntKind.min, IntKind.max, IntKind.signed, IntKind.bits]
theorem wf_i64 {x : Int} : (Lit.int .i64 x).wf = true ↔ -9223372036854775808 ≤ x ∧ x ≤ 9223372036854775807 := by simp [Lit.wf, IntKind.min, IntKind.max, IntKind.signed, IntKind.bits]
theorem w64 {n : Int} (h0 : -9223372036854775808 ≤ n) (h1 : n ≤ 9223372036854775807) : wrap64 n = n := by unfold wrap64; omega
theorem w64_rng (n : Int) : -9223372036854775808 ≤ wrap64 n ∧ wrap64 n ≤ 9223372036854775807 := by unfold wrap64; omega
theorem mx_eq (x y : Int) : mx x y = if x < y then y else x := by unfold mx; rfl
theorem mn_eq (x y : Int) : mn x y = if y < x then y else x := by unfold mn; rfl

/-- Bytes. -/
def Bs (l : List Int) : Prop := ∀ x ∈ l, 0 ≤ x ∧ x ≤ 255
theorem Bs.of {l : List Int} (h : ∀ x ∈ l, (Lit.int .u8 x).wf = true) : Bs l := fun x hx => wf_u8.1 (h x hx)
theorem Bs.sub {l m : List Int} (h : Bs l) (hs : ∀ x ∈ m, x ∈ l) : Bs m := fun x hx => h x (hs x hx)
theorem Bs.take {l : List Int} (h : Bs l) (n : Nat) : Bs (l.take n) := h.sub fun _ hx => List.mem_of_mem_take hx
theorem Bs.drop {l : List Int} (h : Bs l) (n : Nat) : Bs (l.drop n) := h.sub fun _ hx => List.mem_of_mem_drop hx
theorem Bs.append {l m : List Int} (h : Bs l) (k : Bs m) : Bs (l ++ m) := fun x hx => by
  rcases List.mem_append.1 hx with hx | hx
  · exact h x hx
  · exact k x hx
theorem Bs.nil : Bs [] := fun x hx => by cases hx

theorem strs_inj : ∀ {xs ys : List Int}, Bs xs → Bs ys → xs.map (fun n => UInt8.ofNat n.toNat) = ys.map (fun n => UInt8.ofNat n.toNat) → xs = ys
  | [], [], _, _, _ => rfl
  | [], _ :: _, _, _, h => by simp at h
  | _ :: _, [], _, _, h => by simp at h
  | x :: xs, y :: ys, hx, hy, h => by
    simp only [List.map_cons, List.cons.injEq] at h
    have h1 := hx x List.mem_cons_self
    have h2 := hy y List.mem_cons_self
    have e : x = y := by
      have h3 := congrArg UInt8.toNat h.1
      simp only [UInt8.toNat_ofNat'] at h3
      omega
    rw [e, strs_inj (fun z hz => hx z (List.mem_cons_of_mem _ hz)) (fun z hz => hy z (List.mem_cons_of_mem _ hz)) h.2]
theorem strs_eq {xs ys : List Int} (hx : Bs xs) (hy : Bs ys) : (strOfNums xs).toList = (strOfNums ys).toList ↔ xs = ys := by
  unfold strOfNums
  rw [ByteArray.toList_mk, ByteArray.toList_mk]
  exact ⟨strs_inj hx hy, fun h => by rw [h]⟩
theorem strs_beq {xs ys : List Int} (hx : Bs xs) (hy : Bs ys) : ((strOfNums xs).toList == (strOfNums ys).toList) = (xs == ys) := by
  rw [Bool.eq_iff_iff, beq_iff_eq, beq_iff_eq, strs_eq hx hy]
theorem strs_bne {xs ys : List Int} (hx : Bs xs) (hy : Bs ys) : ((strOfNums xs).toList != (strOfNums ys).toList) = (xs != ys) := by
  rw [bne, strs_beq hx hy]; rfl
theorem or256 {a b : Int} (ha : 0 ≤ a) (ha2 : a < 36028797018963968) (hb : 0 ≤ b) (hb2 : b < 256) : Go.bits .or .i64 (a * 256) b = a * 256 + b :=
  bits_join .i64 63 (by decide) (fun n h0 h1 => by rw [IntKind.wrap_i64]; omega) 8 (a * 256) b (by omega) (by omega) (by omega) (by omega) (by omega) (by omega)
theorem rd_mem {l : List Int} {i : Int} (h0 : 0 ≤ i) (h1 : i < l.length) : rd l i ∈ l := by
  unfold rd
  rw [List.getD_eq_getElem?_getD, List.getElem?_eq_getElem (by omega)]
  exact List.getElem_mem _
theorem rd_nat (l : List Int) (i : Nat) : rd l (i : Int) = l.getD i 0 := by unfold rd; simp
end Go.Proofs.Ytimllhflecippaa.Pk
