/-
  muezzinsee.Is: is an error this one?
-/
import Derived.Test.YthjjneanabnjoaaDoorErr
namespace Go.Proofs.YthjjneanabnjoaaDoor
open Go.ChangeShapes Go.WideShapes Go.ChangeAt Go.RowKit
set_option linter.unusedVariables false

/-- a fault as a value -/
def faultV (code : Int) (placed : Bool) (pos : Int) : Value := .agg #[.int .i64 code, .bool placed, .int .i64 pos]

set_option maxHeartbeats 400000 in
theorem none_any (w : World) : Calls Tryd.prog 69 #[] w fun e w' => e = .returned (.agg #[.int .i64 0, .bool false, .int .i64 0]) ∧ Below w.heap.size w w' := by
  go_enter Tryd.func69, Tryd.ntmps69
  go_wp2_with fail
  exact bodyPost_ret (v := .agg #[.int .i64 0, .bool false, .int .i64 0]) (by simp [results, Tryd.results69, go_sem]) rfl ⟨rfl, (Below.refl _ _).alloc (Nat.le_refl _) _⟩

set_option maxHeartbeats 400000 in
theorem bare_any (n : Int) (w : World) : Calls Tryd.prog 54 #[.int .i64 n] w fun e w' => e = .returned (.agg #[.int .i64 n, .bool false, .int .i64 0]) ∧ Below w.heap.size w w' := by
  go_enter Tryd.func54, Tryd.ntmps54
  go_wp2_with fail
  exact bodyPost_ret (v := .agg #[.int .i64 n, .bool false, .int .i64 0]) (by simp [results, Tryd.results54, go_sem]) rfl ⟨rfl, (Below.refl _ _).alloc (Nat.le_refl _) _⟩

set_option maxHeartbeats 400000 in
theorem sameFault_any (a a' : Int) (w : World) : Calls Tryd.prog 65 #[.agg #[.int .i64 a, .bool false, .int .i64 0], .agg #[.int .i64 a', .bool false, .int .i64 0]] w
    fun e w' => e = .returned (.bool (a == a')) ∧ Below w.heap.size w w' := by
  by_cases h : a = a'
  · subst h
    go_enter Tryd.func65, Tryd.ntmps65
    go_wp2_with fail
    go_ret
    exact ⟨ret_bool (by simp), ((Below.refl _ _).alloc (Nat.le_refl _) _).alloc (by simp) _⟩
  · have hf : (a == a') = false := by simp [h]
    go_enter Tryd.func65, Tryd.ntmps65
    go_wp2_with fail
    go_ret
    exact ⟨ret_bool (by simp [h]), ((Below.refl _ _).alloc (Nat.le_refl _) _).alloc (by simp) _⟩

set_option maxHeartbeats 400000 in
theorem alike_any {w : World} {E : Nat → Addr} (h : Errs allErr w E) (i j : Nat) (hi : i ∈ allErr) (hj : j ∈ allErr) :
    Calls Tryd.prog 73 #[.iface 115 (.pointer (some (E i))), .iface 115 (.pointer (some (E j)))] w fun e w' => e = .returned (.bool (decide (i = j))) ∧ w = w' := by
  by_cases hij : i = j
  · subst hij
    have he := err_same (E i) w
    go_enter Tryd.func73, Tryd.ntmps73
    go_wp2_with fail
    go_ret
    exact ⟨by simp, rfl⟩
  · have he := err_other h hi hj hij
    go_enter Tryd.func73, Tryd.ntmps73
    go_wp2_with fail
    go_ret
    exact ⟨by simp [hij], rfl⟩

theorem sentinels_any {w : World} {E : Nat → Addr} (h : Errs allErr w E) :
    Calls Tryd.prog 72 #[] w fun e w' => ∃ a, e = .returned (.slice a 14 14) ∧ Row w' 1 a 14 14 ((List.range 14).map (errV E)) ∧ Below w.heap.size w w' := by
  have h0 := h.at_ 0 5 (by decide) rfl
  have h1 := h.at_ 1 6 (by decide) rfl
  have h2 := h.at_ 2 0 (by decide) rfl
  have h3 := h.at_ 3 7 (by decide) rfl
  have h4 := h.at_ 4 8 (by decide) rfl
  have h5 := h.at_ 5 9 (by decide) rfl
  have h6 := h.at_ 6 3 (by decide) rfl
  have h7 := h.at_ 7 10 (by decide) rfl
  have h8 := h.at_ 8 2 (by decide) rfl
  have h9 := h.at_ 9 1 (by decide) rfl
  have h10 := h.at_ 10 4 (by decide) rfl
  have h11 := h.at_ 11 11 (by decide) rfl
  have h12 := h.at_ 12 12 (by decide) rfl
  have h13 := h.at_ 13 13 (by decide) rfl
  go_enter Tryd.func72, Tryd.ntmps72
  go_wp2_with fail
  go_ret
  refine ⟨_, rfl, ?_, (Below.refl _ _).alloc (Nat.le_refl _) _⟩
  rcases row_new w ((List.range 14).map (errV E)).toArray 26 with hr | hr
  · exact hr
  · simp [maxLen] at hr

set_option maxHeartbeats 400000 in
theorem sentinel_any {w : World} {E : Nat → Addr} (h : Errs allErr w E) (i : Nat) (hi : i ∈ allErr) :
    Calls Tryd.prog 70 #[.iface 115 (.pointer (some (E i)))] w fun e w' => e = .returned (.int .i64 (101 + (i : Int))) ∧ Below w.heap.size w w' := by
  have hi14 : i < 14 := by simp [allErr] at hi; omega
  have HI := Lib.hid hi
  clear hi
  go_enter Tryd.func70, Tryd.ntmps70
  go_wp2_with fail
  refine (sentinels_any h).mono ?_
  rintro e w1 ⟨a, rfl, hr, hb⟩
  have h1 := h.below hb (Nat.le_refl _)
  obtain ⟨b, off, rfl, hlt, hc⟩ := hr.at_ (by omega)
  go_wp2_with fail
  go_loop [2, 4] (fun r k => ∃ j : Nat, j ≤ i ∧ k = .int .i64 j) (fun _ k => 14 - (intOf k).toNat)
  case atStart => exact ⟨0, Nat.zero_le _, rfl⟩
  case round =>
    obtain ⟨j, hj, rfl⟩ := hrel
    have hcell : w1.cell? ⟨b, off + j, none⟩ = some (.iface 115 (.pointer (some (E j)))) := hc j _ (by simp [List.getElem?_range (show j < 14 by omega), errV])
    have hj14 : j < 14 := by omega
    clear hc
    have hjm : j ∈ allErr := by simp [allErr]; omega
    go_wp2_with fail
    refine (alike_any h1 i j HI.out hjm).mono ?_
    rintro e w2 ⟨rfl, rfl⟩
    by_cases hij : i = j
    · subst hij
      have hd : decide (i = i) = true := by simp
      rw [hd]
      go_wp2_with fail
      go_ret
      exact ⟨rfl, hb⟩
    · have hd : decide (i = j) = false := by simp [hij]
      rw [hd]
      go_wp2_with fail
      go_round
      case rel => exact ⟨j + 1, by omega, by go_num⟩
      case measure => simp [intOf]; omega

theorem not_at (a : Addr) (w : World) : (Instr.typeAssert (.iface 115 (.pointer (some a))) 26 106 true).run Tryd.prog w = .ok (.tuple #[.pointer none, .bool false]) w := by kernel_rfl
set_option maxHeartbeats 400000 in
theorem fault_any {w : World} {E : Nat → Addr} (h : Errs allErr w E) (o : Option Nat) (ho : ∀ i, o = some i → i ∈ allErr) :
    Calls Tryd.prog 66 #[errO E o] w fun e w' => e = .returned (.agg #[.int .i64 (errCode o), .bool false, .int .i64 0]) ∧ Below w.heap.size w w' := by
  rcases o with _ | i
  · unfold errO
    go_enter Tryd.func66, Tryd.ntmps66
    go_wp2_with fail
    refine (none_any _).mono ?_
    rintro e w1 ⟨rfl, hb⟩
    have hk := Blk.made hb
    have c0 : w1.cell? ⟨w.heap.size, 0, none⟩ = some (.int .i64 0) := hk.cell 0
    have c1 : w1.cell? ⟨w.heap.size, 1, none⟩ = some (.bool false) := hk.cell 1
    have c2 : w1.cell? ⟨w.heap.size, 2, none⟩ = some (.int .i64 0) := hk.cell 2
    have f0 := hk.frozen 0
    have f1 := hk.frozen 1
    have f2 := hk.frozen 2
    clear hk
    go_wp2_with fail
    exact bodyPost_ret (v := .agg #[.int .i64 0, .bool false, .int .i64 0]) (by simp [results, Tryd.results66, go_sem, c0, c1, c2]) rfl
      ⟨rfl, (((((Below.refl _ _).alloc (Nat.le_refl _) _).trans (hb.mono (by simp))).setCell (p := ⟨w.heap.size, 0, none⟩) (Nat.le_refl _) _).setCell (p := ⟨w.heap.size, 1, none⟩) (Nat.le_refl _) _).setCell (p := ⟨w.heap.size, 2, none⟩) (Nat.le_refl _) _⟩
  · have hi := ho i rfl
    unfold errO errV
    have hta := not_at (E i)
    go_enter Tryd.func66, Tryd.ntmps66
    go_wp2_with fail
    refine (sentinel_any (h.alloc _) i hi).mono ?_
    rintro e w1 ⟨rfl, hb⟩
    have hk := Blk.made hb
    have hsz := hb.size
    simp only [World.size_alloc] at hsz
    go_wp2_with fail
    refine (bare_any _ _).mono ?_
    rintro e w2 ⟨rfl, hb2⟩
    have hk2 := hk.below hb2 (by omega)
    have c0 : w2.cell? ⟨w.heap.size, 0, none⟩ = some (.int .i64 0) := hk2.cell 0
    have c1 : w2.cell? ⟨w.heap.size, 1, none⟩ = some (.bool false) := hk2.cell 1
    have c2 : w2.cell? ⟨w.heap.size, 2, none⟩ = some (.int .i64 0) := hk2.cell 2
    have f0 := hk2.frozen 0
    have f1 := hk2.frozen 1
    have f2 := hk2.frozen 2
    clear hk hk2
    go_wp2_with fail
    exact bodyPost_ret (v := .agg #[.int .i64 (101 + (i : Int)), .bool false, .int .i64 0]) (by simp [results, Tryd.results66, go_sem, c0, c1, c2]) rfl
      ⟨rfl, ((((((Below.refl _ _).alloc (Nat.le_refl _) _).trans (hb.mono (by simp))).trans (hb2.mono (by omega))).setCell (p := ⟨w.heap.size, 0, none⟩) (Nat.le_refl _) _).setCell (p := ⟨w.heap.size, 1, none⟩) (Nat.le_refl _) _).setCell (p := ⟨w.heap.size, 2, none⟩) (Nat.le_refl _) _⟩

/-- what stays while Same holds its fault in a variable of its own (block n) -/
abbrev SameS (w : World) (E : Nat → Addr) (code : Int) (w' : World) : Prop :=
  w'.cell? ⟨w.heap.size, 0, none⟩ = some (.int .i64 code) ∧ w'.cell? ⟨w.heap.size, 1, none⟩ = some (.bool false) ∧ w'.cell? ⟨w.heap.size, 2, none⟩ = some (.int .i64 0) ∧ Errs allErr w' E ∧ Below w.heap.size w w' ∧ w.heap.size < w'.heap.size
theorem sameS_errs {w w' : World} {E : Nat → Addr} {code : Int} (h : SameS w E code w') : Errs allErr w' E := h.2.2.2.1
theorem sameS_keep {w w' w1 : World} {E : Nat → Addr} {code : Int} (h : SameS w E code w') (hb : Below w'.heap.size w' w1) : SameS w E code w1 := by
  obtain ⟨h0, h1, h2, h3, h4, h5⟩ := h
  exact ⟨(hb.cell h5).trans h0, (hb.cell h5).trans h1, (hb.cell h5).trans h2, h3.below hb (Nat.le_refl _), h4.trans (hb.mono (by omega)), by have := hb.size; omega⟩

set_option maxHeartbeats 400000 in
theorem same_any {w : World} {E : Nat → Addr} (h : Errs allErr w E) (o : Option Nat) (ho : ∀ i, o = some i → i ∈ allErr) (code : Int) :
    Calls Tryd.prog 53 #[errO E o, .agg #[.int .i64 code, .bool false, .int .i64 0]] w fun e w' => e = .returned (.bool (errCode o == code)) ∧ Below w.heap.size w w' := by
  have hS0 : SameS w E code (w.alloc (.cells #[.int .i64 code, .bool false, .int .i64 0] 91)).drew :=
    ⟨by simp, by simp, by simp, (h.alloc _).drew, ((Below.refl _ _).alloc (Nat.le_refl _) _).drew, by simp⟩
  go_enter Tryd.func53, Tryd.ntmps53
  go_wp2_with fail
  go_region_held3 (fun w' => w'.cell? ⟨w.heap.size, 0, none⟩ = some (.int .i64 code) ∧ w'.cell? ⟨w.heap.size, 1, none⟩ = some (.bool false) ∧ w'.cell? ⟨w.heap.size, 2, none⟩ = some (.int .i64 0) ∧ Errs allErr w' E ∧ Below w.heap.size w w' ∧ w.heap.size < w'.heap.size)
    (first | exact hS0 | (exact sameS_keep (by assumption) hb1) | (exact sameS_keep (by assumption) hb2))
    (first
      | (go_at_call 66; refine (fault_any (sameS_errs (w := w) (code := code) (by assumption)) o ho).mono ?_; rintro e w1 ⟨rfl, hb1⟩)
      | (go_at_call 65; refine (sameFault_any _ _ _).mono ?_; rintro e w2 ⟨rfl, hb2⟩))
  have hS2 : SameS w E code w2 := by assumption
  go_wp2_with fail
  go_ret
  exact ⟨rfl, hS2.2.2.2.2.1⟩

/-- IS AN ERROR THIS ONE? -/
theorem is_any {w : World} {E : Nat → Addr} (h : Errs allErr w E) (o : Option Nat) (ho : ∀ i, o = some i → i ∈ allErr) (code : Int) :
    Calls Tryd.prog 25 #[errO E o, .int .i64 code] w fun e w' => e = .returned (.bool (errCode o == code)) ∧ Below w.heap.size w w' := by
  go_enter Tryd.func25, Tryd.ntmps25
  go_wp2_with fail
  refine (bare_any _ _).mono ?_
  rintro e w1 ⟨rfl, hb1⟩
  have h1 := h.below hb1 (Nat.le_refl _)
  have hsz := hb1.size
  go_wp2_with fail
  refine (same_any h1 o ho code).mono ?_
  rintro e w2 ⟨rfl, hb2⟩
  go_wp2_with fail
  go_ret
  exact ⟨rfl, hb1.trans (hb2.mono hsz)⟩
end Go.Proofs.YthjjneanabnjoaaDoor
