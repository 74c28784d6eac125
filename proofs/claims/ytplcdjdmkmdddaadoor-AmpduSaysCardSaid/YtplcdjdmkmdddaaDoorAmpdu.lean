/-
  ampdu.long, part.
-/
import Derived.Test.YtplcdjdmkmdddaaDoorAmpduPlain
import Derived.Test.YtplcdjdmkmdddaaDoorJoin
import Derived.Test.YtplcdjdmkmdddaaDoorSeal
import Derived.Test.YtplcdjdmkmdddaaDoorErr
namespace Go.Proofs.YtplcdjdmkmdddaaDoor
open Go.ChangeShapes Go.WideShapes Go.ChangeAt Go.RowKit
set_option linter.unusedVariables false

set_option maxHeartbeats 800000 in
theorem long_any (b off n C : Nat) (x y : UInt8) (w : World) (hl : 2 ≤ n) (h0 : w.cell? ⟨b, off, none⟩ = some (.int .u8 (x.toNat : Int))) (h1 : w.cell? ⟨b, off + 1, none⟩ = some (.int .u8 (y.toNat : Int))) :
    Calls Tryd.prog 39 #[.slice (some ⟨b, off, none⟩) n C] w fun e w' => e = .returned (.tuple #[.int .i64 (((x.toNat + 256 * y.toNat) / 16 : Nat) : Int), .int .i64 (((x.toNat + 256 * y.toNat) % 16 : Nat) : Int)]) ∧ ∃ k, w' = w.drewN k := by
  have l0 : (0 : Int) < (n : Int) := by omega
  have l1 : (1 : Int) < (n : Int) := by omega
  have hx := UInt8.toNat_lt x
  have hy := UInt8.toNat_lt y
  have TJ := Lib.hid (go_join x y)
  obtain ⟨v, hv⟩ : ∃ v : Nat, x.toNat + 256 * y.toNat = v := ⟨_, rfl⟩
  rw [hv] at TJ ⊢
  have HV := Lib.hid hv
  have hv6 : v < 65536 := by omega
  clear hv
  go_enter Tryd.func39, Tryd.ntmps39
  go_wp2_with fail
  go_quiet (fail)
  rw [TJ.out]
  have q1 : (0 : Int) ≤ (v : Int) := by omega
  have q2 : (v : Int) < 65536 := by omega
  go_wp2_with fail
  go_ret2
  exact ⟨by rw [Int.natCast_ediv, Int.natCast_emod]; rfl, _, rfl⟩

theorem cell4 {w : World} {b off n C : Nat} {xs : List UInt8} (h : Row w 1 (some ⟨b, off, none⟩) n C (xs.map u8v)) {j : Nat} (hj : j < n) : w.cell? ⟨b, off + j, none⟩ = some (.int .u8 ((xs.getD j 0).toNat : Int)) := by
  have hlx : xs.length = n := by simpa using h.1
  obtain ⟨b', off', e, _, hc⟩ := h.at_ (by omega)
  injection e with e
  injection e with e1 e2
  subst e1 e2
  have := hc j _ (u8_get (xs := xs) (k := j) (by omega))
  rw [this, List.getD_eq_getElem?_getD, List.getElem?_eq_getElem (by omega)]
  rfl
theorem row_take8 {w : World} {A : Option Addr} {n C : Nat} {xs : List UInt8} (h : Row w 1 A n C (xs.map u8v)) {k : Nat} (hk : k ≤ n) : Row w 1 A k C ((xs.take k).map u8v) := by
  have := h.take hk
  rwa [Nat.mul_one, ← List.map_take] at this
theorem row_drop8 {w : World} {b off n C : Nat} {xs : List UInt8} (h : Row w 1 (some ⟨b, off, none⟩) n C (xs.map u8v)) {k : Nat} (hk : k ≤ n) : Row w 1 (if C = k then some ⟨b, off, none⟩ else some ⟨b, off + k, none⟩) (n - k) (C - k) ((xs.drop k).map u8v) := by
  have := h.cut hk
  rwa [← List.map_drop] at this

set_option maxHeartbeats 1600000 in
theorem part_err {w : World} {E : Nat → Addr} (hE : Errs [0, 1, 5] w E) (A : Option Addr) (n C : Nat) (b : List UInt8) (h : Row w 1 A n C (b.map u8v)) (i : Nat) (hp : partP b = .error i) :
    Calls Tryd.prog 27 #[.slice A n C] w fun e w' => e = .returned (.tuple #[.slice none 0 0, errV E i]) ∧ Below w.heap.size w w' := by
  have hm := h.len_cap
  have hlx : b.length = n := by simpa using h.1
  have hg0 := hE.at_ 0 3 (by decide) rfl
  have hg1 := hE.at_ 1 2 (by decide) rfl
  have hg5 := hE.at_ 5 4 (by decide) rfl
  unfold partP at hp
  by_cases h4 : n < 4
  case pos =>
    rw [if_pos (by omega)] at hp
    injection hp with hp
    subst hp
    clear hlx
    go_enter Tryd.func27, Tryd.ntmps27
    go_wp2_with fail
    go_quiet (fail)
    go_wp2_with fail
    go_ret2
    exact ⟨rfl, by first | exact below_drewN _ | exact (below_drewN _).trans (below_drewN _)⟩
  case neg =>
  rw [if_neg (by omega)] at hp
  obtain ⟨bb, off, rfl, hlt, -⟩ := h.at_ (by omega)
  have c0 := cell4 h (j := 0) (by omega)
  have c1 := cell4 h (j := 1) (by omega)
  have c3 := cell4 h (j := 3) (by omega)
  have HL := Lib.hid (long_any bb off n C (b.getD 0 0) (b.getD 1 0) w (by omega) c0 c1)
  have HF := Lib.hid (fun k => fits_any (some ⟨bb, off, none⟩) 3 C (b.take 3) (w.drewN k) (row_take8 (h.drewN k) (by omega)))
  clear c0 c1
  have hv : numB b < 65536 := by
    unfold numB
    have h1 := UInt8.toNat_lt (b.getD 0 0)
    have h2 := UInt8.toNat_lt (b.getD 1 0)
    omega
  rw [show (b.getD 0 0).toNat + 256 * (b.getD 1 0).toNat = numB b from rfl] at HL
  have g1 : (0 : Int) ≤ 3 := by omega
  have g2 : (3 : Int) ≤ (C : Int) := by omega
  have g3 : (3 : Int) < (n : Int) := by omega
  rcases hf : Crc.fits (b.take 3)
  case false =>
    rw [if_pos hf] at hp
    injection hp with hp
    subst hp
    have HFF := Lib.hid hf
    clear hf hlx
    go_enter Tryd.func27, Tryd.ntmps27
    go_wp2_with fail
    refine HL.out.mono ?_
    rintro e w1 ⟨rfl, k, rfl⟩
    go_wp2_with fail
    refine (HF.out k).mono ?_
    rintro e w1 ⟨rfl, k2, rfl⟩
    rw [HFF.out]
    go_wp2_with fail
    go_quiet (fail)
    go_wp2_with fail
    go_ret2
    exact ⟨rfl, by first | exact below_drewN _ | exact (below_drewN _).trans (below_drewN _)⟩
  case true =>
  rw [if_neg (by rw [hf]; simp)] at hp
  have HFF := Lib.hid hf
  clear hf
  generalize numB b = v at *
  generalize b.getD 3 0 = s at *
  by_cases q1 : s = 78
  case neg =>
    rw [if_pos (.inl q1)] at hp
    injection hp with hp
    subst hp
    have d1 : ((s.toNat : Int) != 78) = true := by
      have : s.toNat ≠ 78 := fun e => q1 (UInt8.toNat_inj.1 e)
      simp; omega
    clear hlx q1
    go_enter Tryd.func27, Tryd.ntmps27
    go_wp2_with fail
    refine HL.out.mono ?_
    rintro e w1 ⟨rfl, k, rfl⟩
    go_wp2_with fail
    refine (HF.out k).mono ?_
    rintro e w1 ⟨rfl, k2, rfl⟩
    rw [HFF.out]
    go_wp2_with fail
    go_quiet (fail)
    go_wp2_with fail
    go_ret2
    exact ⟨rfl, by first | exact below_drewN _ | exact (below_drewN _).trans (below_drewN _)⟩
  case pos =>
  subst q1
  have c3' : w.cell? ⟨bb, off + 3, none⟩ = some (.int .u8 78) := c3
  clear c3
  by_cases q2 : v % 16 = 0
  case neg =>
    rw [if_pos (.inr (.inl q2))] at hp
    injection hp with hp
    subst hp
    have d2 : (((v % 16 : Nat) : Int) != 0) = true := by simp; omega
    generalize v % 16 = lo at *
    generalize v / 16 = nn at *
    clear hlx q2
    go_enter Tryd.func27, Tryd.ntmps27
    go_wp2_with fail
    refine HL.out.mono ?_
    rintro e w1 ⟨rfl, k, rfl⟩
    go_wp2_with fail
    refine (HF.out k).mono ?_
    rintro e w1 ⟨rfl, k2, rfl⟩
    rw [HFF.out]
    go_wp2_with fail
    go_quiet (fail)
    go_wp2_with fail
    go_ret2
    exact ⟨rfl, by first | exact below_drewN _ | exact (below_drewN _).trans (below_drewN _)⟩
  case pos =>
  by_cases q3 : v / 16 = 0
  case pos =>
    rw [if_pos (.inr (.inr q3))] at hp
    injection hp with hp
    subst hp
    rw [q2, q3] at HL
    clear hlx q2 q3
    go_enter Tryd.func27, Tryd.ntmps27
    go_wp2_with fail
    refine HL.out.mono ?_
    rintro e w1 ⟨rfl, k, rfl⟩
    go_wp2_with fail
    refine (HF.out k).mono ?_
    rintro e w1 ⟨rfl, k2, rfl⟩
    rw [HFF.out]
    go_wp2_with fail
    go_quiet (fail)
    go_wp2_with fail
    go_ret2
    exact ⟨rfl, by first | exact below_drewN _ | exact (below_drewN _).trans (below_drewN _)⟩
  case neg =>
  rw [if_neg (by rintro (h | h | h); exact h rfl; exact h q2; exact q3 h)] at hp
  by_cases q4 : b.length - 4 < v / 16
  case neg => rw [if_neg q4] at hp; cases hp
  case pos =>
    rw [if_pos q4] at hp
    injection hp with hp
    subst hp
    rw [q2] at HL
    rw [hlx] at q4
    have d3 : (((v / 16 : Nat) : Int) == 0) = false := by simp; omega
    have d4 : (n : Int) - 4 < ((v / 16 : Nat) : Int) := by omega
    have d5 : IntKind.i64.wrap ((n : Int) - 4) = (n : Int) - 4 := IntWalk.i64_in _ (by omega)
    generalize v / 16 = nn at *
    clear hlx q2 q3 q4
    go_enter Tryd.func27, Tryd.ntmps27
    go_wp2_with fail
    refine HL.out.mono ?_
    rintro e w1 ⟨rfl, k, rfl⟩
    go_wp2_with fail
    refine (HF.out k).mono ?_
    rintro e w1 ⟨rfl, k2, rfl⟩
    rw [HFF.out]
    go_wp2_with fail
    go_quiet (fail)
    go_wp2_with fail
    go_ret2
    exact ⟨rfl, by first | exact below_drewN _ | exact (below_drewN _).trans (below_drewN _)⟩

set_option maxHeartbeats 1600000 in
theorem part_yes {w : World} (A : Option Addr) (n C : Nat) (b x : List UInt8) (h : Row w 1 A n C (b.map u8v)) (hp : partP b = .ok x) :
    Calls Tryd.prog 27 #[.slice A n C] w fun e w' => ∃ A2 C2, e = .returned (.tuple #[.slice A2 x.length C2, .nilIface]) ∧ OwnU8 w' w.heap.size A2 x.length C2 x ∧ Below w.heap.size w w' := by
  have hm := h.len_cap
  have hlx : b.length = n := by simpa using h.1
  obtain ⟨p1, p2, p3, p4, p5⟩ := part_ok hp
  rw [hlx] at p1 p4
  obtain ⟨bb, off, rfl, hlt, -⟩ := h.at_ (by omega)
  have c0 := cell4 h (j := 0) (by omega)
  have c1 := cell4 h (j := 1) (by omega)
  have c3 := cell4 h (j := 3) (by omega)
  have HL := Lib.hid (long_any bb off n C (b.getD 0 0) (b.getD 1 0) w (by omega) c0 c1)
  have HF := Lib.hid (fun k => fits_any (some ⟨bb, off, none⟩) 3 C (b.take 3) (w.drewN k) (row_take8 (h.drewN k) (by omega)))
  rw [show (b.getD 0 0).toNat + 256 * (b.getD 1 0).toNat = numB b from rfl] at HL
  clear c0 c1
  obtain ⟨hf, hs, hlo, hnn⟩ : Crc.fits (b.take 3) = true ∧ b.getD 3 0 = 78 ∧ numB b % 16 = 0 ∧ numB b / 16 = x.length := by
    unfold partP at hp
    rw [if_neg (by omega)] at hp
    split at hp
    · cases hp
    · rename_i hf
      split at hp
      · cases hp
      · rename_i hq
        split at hp
        · cases hp
        · rename_i hq4
          injection hp with hp
          refine ⟨by simpa using hf, ?_, ?_, ?_⟩
          · rcases Decidable.em (b.getD 3 0 = 78) with h | h
            · exact h
            · exact absurd (.inl h) hq
          · rcases Decidable.em (numB b % 16 = 0) with h | h
            · exact h
            · exact absurd (.inr (.inl h)) hq
          · have h1 : x.length = min (numB b / 16) (b.length - 4) := by rw [← hp, List.length_take, List.length_drop]
            omega
  rw [hs] at c3
  have c3' : w.cell? ⟨bb, off + 3, none⟩ = some (.int .u8 78) := c3
  have HFF := Lib.hid hf
  rw [hlo, hnn] at HL
  have hrow : Row w 1 (if C = 4 then some ⟨bb, off, none⟩ else some ⟨bb, off + 4, none⟩) x.length (C - 4) (x.map u8v) := by
    have h1 := row_take8 (row_drop8 h (k := 4) (by omega)) (k := x.length) (by omega)
    rwa [← p2] at h1
  have HR := Lib.hid hrow
  have hC4 : ¬ C = 4 := by omega
  rw [if_neg hC4] at HR
  have HC := Lib.hid (fun k => clone_any (some ⟨bb, off + 4, none⟩) x.length (C - 4) x (w.drewN k) (HR.out.drewN k) (by omega))
  have g1 : (0 : Int) ≤ 3 := by omega
  have g2 : (3 : Int) ≤ (C : Int) := by omega
  have g3 : (3 : Int) < (n : Int) := by omega
  have d4 : ¬ (n : Int) - 4 < (x.length : Int) := by omega
  have d4' : decide ((n : Int) - 4 < (x.length : Int)) = false := decide_eq_false d4
  have d5 : IntKind.i64.wrap ((n : Int) - 4) = (n : Int) - 4 := IntWalk.i64_in _ (by omega)
  have d6 : (4 : Int) + (x.length : Int) ≤ (C : Int) := by omega
  have d7 : (4 : Int) ≤ 4 + (x.length : Int) := by omega
  generalize hN : x.length = nn at *
  have d3 : (((nn : Nat) : Int) == 0) = false := by simp; omega
  have HN := Lib.hid hN
  clear hN
  clear hf hs hlo hnn hrow p2 hlx c3 hp
  go_enter Tryd.func27, Tryd.ntmps27
  go_wp2_with fail
  refine HL.out.mono ?_
  rintro e w1 ⟨rfl, k, rfl⟩
  go_wp2_with fail
  refine (HF.out k).mono ?_
  rintro e w1 ⟨rfl, k2, rfl⟩
  rw [HFF.out]
  go_wp2_with fail
  refine (HC.out (k + k2)).mono ?_
  rintro e w3 ⟨⟨A2, n2, C2, rfl, hown, hb⟩, -⟩
  obtain rfl : n2 = nn := hown.len.symm.trans HN.out
  have HO := Lib.hid hown
  have HB := Lib.hid hb
  clear hown hb
  go_wp2_with fail
  go_ret2
  exact ⟨A2, C2, rfl, HO.out, (below_drewN _).trans HB.out⟩
end Go.Proofs.YtplcdjdmkmdddaaDoor
