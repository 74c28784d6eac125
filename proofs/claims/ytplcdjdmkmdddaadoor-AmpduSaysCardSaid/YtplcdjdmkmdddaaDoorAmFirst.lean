/-
  Lists of parts just made; how long parts are; the chapter's example.
-/
import Derived.Test.YtplcdjdmkmdddaaDoorPack
import Derived.Test.YtplcdjdmkmdddaaDoorSee
namespace Go.Proofs.YtplcdjdmkmdddaaDoor
open Go.ChangeShapes Go.WideShapes Go.ChangeAt Go.RowKit
set_option linter.unusedVariables false

theorem rowP_nil (w : World) : RowP w none 0 0 [] := ⟨rfl, [], row_nil _ _, fun i u x hu _ => by simp at hu⟩
theorem rowP_one (w : World) (A : Option Addr) (n C : Nat) (x : List UInt8) (hn : x.length = n) (h : Row w 1 A n C (x.map u8v)) (t : TypeId) : RowP (w.alloc (.cells #[.slice A n C] t)) (some ⟨w.heap.size, 0, none⟩) 1 1 [x] := by
  subst hn
  refine ⟨rfl, [.slice A x.length C], row_one w _ t, fun i u y hu hy => ?_⟩
  rcases i with _ | i
  · simp at hu hy
    subst hu hy
    exact ⟨A, C, rfl, h.alloc _⟩
  · simp at hu
theorem rowP_two (w : World) (A A2 : Option Addr) (n C n2 C2 : Nat) (x y : List UInt8) (hn : x.length = n) (h : Row w 1 A n C (x.map u8v)) (hn2 : y.length = n2) (h2 : Row w 1 A2 n2 C2 (y.map u8v)) (t : TypeId) : RowP (w.alloc (.cells #[.slice A n C, .slice A2 n2 C2] t)) (some ⟨w.heap.size, 0, none⟩) 2 2 [x, y] := by
  subst hn hn2
  refine ⟨rfl, [.slice A x.length C, .slice A2 y.length C2], ?_, fun i u z hu hz => ?_⟩
  · rcases row_new w #[.slice A x.length C, .slice A2 y.length C2] t with h | h
    · exact h
    · simp [maxLen] at h
  · rcases i with _ | _ | i
    · simp at hu hz
      subst hu hz
      exact ⟨A, C, rfl, h.alloc _⟩
    · simp at hu hz
      subst hu hz
      exact ⟨A2, C2, rfl, h2.alloc _⟩
    · simp at hu
theorem row_three8 (w : World) (a b c : UInt8) (t : TypeId) : Row (w.alloc (.cells #[.int .u8 (a.toNat : Int), .int .u8 (b.toNat : Int), .int .u8 (c.toNat : Int)] t)) 1 (some ⟨w.heap.size, 0, none⟩) 3 3 ([a, b, c].map u8v) := by
  rcases row_new w #[.int .u8 (a.toNat : Int), .int .u8 (b.toNat : Int), .int .u8 (c.toNat : Int)] t with h | h
  · exact h
  · simp [maxLen] at h

theorem agg_pack (L : List (List UInt8)) : aggP (lensP L) = ((packP L).length : Int) := by
  refine snoc_ind (P := fun L => aggP (lensP L) = ((packP L).length : Int)) rfl (fun L x ih => ?_) L
  show _ = _
  rw [lens_snoc rfl, agg_snoc, ih, pack_snoc]
  simp only [List.length_append, pad4_len, delim_len, aggS, upP]
  have := up4_le (packP L).length
  unfold up4 at *
  omega
theorem flat_rep (x : List UInt8) (k : Nat) : ((List.replicate k x).flatMap encp).length = k * (4 + up4 x.length) := by
  induction k with
  | zero => simp
  | succ k ih => rw [List.replicate_succ, List.flatMap_cons, List.length_append, ih, encp_len, Nat.succ_mul]; omega
theorem pack_rep (x : List UInt8) (k : Nat) : (packP (List.replicate (k + 1) x)).length = k * (4 + up4 x.length) + 4 + x.length := by
  rw [List.replicate_succ', pack_last, List.length_append, flat_rep, enc_len]; omega
theorem packR_yes {L : List (List UInt8)} (hg : goodL L) (h0 : L ≠ []) (h1 : L.length ≤ 64) (h2 : (packP L).length ≤ 65535) : packR L = .ok (packP L) := by
  rw [packR, if_neg, if_neg h0, if_neg]
  · rw [agg_pack]; omega
  · rw [List.any_eq_true]
    rintro ⟨x, hx, hb⟩
    obtain ⟨a, b⟩ := hg x hx
    simp only [badX, Bool.or_eq_true, decide_eq_true_eq] at hb
    omega
theorem packR_many {L : List (List UInt8)} (hg : goodL L) (h0 : L ≠ []) (h1 : 64 < L.length ∨ 65535 < (packP L).length) : packR L = .error 3 := by
  rw [packR, if_neg, if_neg h0, if_pos]
  · rw [agg_pack]; omega
  · rw [List.any_eq_true]
    rintro ⟨x, hx, hb⟩
    obtain ⟨a, b⟩ := hg x hx
    simp only [badX, Bool.or_eq_true, decide_eq_true_eq] at hb
    omega
theorem packR_bad {L : List (List UInt8)} (x : List UInt8) (hx : x ∈ L) (hb : badX x = true) : packR L = .error 2 := by
  rw [packR, if_pos (List.any_eq_true.2 ⟨x, hx, hb⟩)]
theorem packR_nil : packR [] = .error 2 := rfl
theorem packR_take_err {w w' : World} {E : Nat → Addr} {r : Except Nat (List UInt8)} {e : Ending} (h : PackR w E r e w') {i : Nat} (hr : r = .error i) : e = .returned (.tuple #[.slice none 0 0, errV E i]) ∧ Below w.heap.size w w' := by
  subst hr; exact h
theorem packR_take_ok {w w' : World} {E : Nat → Addr} {r : Except Nat (List UInt8)} {e : Ending} (h : PackR w E r e w') {b : List UInt8} (hr : r = .ok b) : ∃ A C, e = .returned (.tuple #[.slice A b.length C, .nilIface]) ∧ OwnU8 w' w.heap.size A b.length C b ∧ Below w.heap.size w w' := by
  subst hr; exact h

set_option maxHeartbeats 400000 in
theorem amfirst_any {w : World} {E : Nat → Addr} (hE : Errs [2, 3] w E) : Calls Tryd.prog 8 #[] w fun e w' => e = .returned (.bool true) ∧ Below w.heap.size w w' := by
  have HE := Lib.hid hE
  clear hE
  have hlen : (packP [[1, 2, 3]]).length = 7 := by decide +kernel
  have HP := Lib.hid (packR_yes (L := [[1, 2, 3]]) (by intro x hx; simp at hx; subst hx; decide) (by simp) (by decide) (by rw [hlen]; omega))
  have HL := Lib.hid hlen
  clear hlen
  have R1 : Row (w.alloc (.cells #[.int .u8 1, .int .u8 2, .int .u8 3] 5)) 1 (some ⟨w.heap.size, 0, none⟩) 3 3 (([1, 2, 3] : List UInt8).map u8v) := row_three8 w 1 2 3 _
  have R2 := rowP_one _ _ 3 3 [1, 2, 3] rfl R1 25
  have HC := Lib.hid (pack_any ((HE.out.alloc _).alloc _) _ 1 1 [[1, 2, 3]] R2 (by omega))
  have hsz : (w.alloc (.cells #[.int .u8 1, .int .u8 2, .int .u8 3] 5)).heap.size = w.heap.size + 1 := by simp
  rw [hsz] at HC
  clear R1 R2 hsz
  go_enter Tryd.func8, Tryd.ntmps8
  go_wp2_with fail
  refine HC.out.mono ?_
  intro e w1 hpk
  obtain ⟨A1, C1, rfl, hown, hb⟩ := packR_take_ok hpk HP.out
  rw [HL.out]
  have HB := Lib.hid ((((Below.refl w.heap.size w).alloc (Nat.le_refl _) _).alloc (by simp) _).trans (hb.mono (by simp; omega)))
  clear hown hb hpk
  go_wp2_with fail
  refine (len_any _ 1 1 [3] _ ⟨rfl, row_int1 _ _ _⟩ (by omega) (by decide)).mono ?_
  rintro e w2 ⟨rfl, rfl⟩
  rw [show aggP [3] = 7 by decide]
  go_wp2_with fail
  go_ret
  exact ⟨rfl, HB.out.alloc HB.out.size _⟩
end Go.Proofs.YtplcdjdmkmdddaaDoor
