/-
  ampdu.Pack.
-/
import Derived.Test.YtplcdjdmkmdddaaDoorAgg
import Derived.Test.YtplcdjdmkmdddaaDoorZerosAny
namespace Go.Proofs.YtplcdjdmkmdddaaDoor
open Go.ChangeShapes Go.WideShapes Go.ChangeAt Go.RowKit
set_option linter.unusedVariables false

def badX (x : List UInt8) : Bool := decide (x.length < 1) || decide (4095 < x.length)
def lensP (L : List (List UInt8)) : List Int := L.map fun x => (x.length : Int)
/-- parts as one, or the error's place: 2 Range, 3 Many -/
def packR (L : List (List UInt8)) : Except Nat (List UInt8) :=
  if L.any badX = true then .error 2
  else if L = [] then .error 2
  else if 64 < L.length ∨ 65535 < aggP (lensP L) then .error 3
  else .ok (packP L)
def PackR (w : World) (E : Nat → Addr) (r : Except Nat (List UInt8)) (e : Ending) (w' : World) : Prop := match r with
  | .error i => e = .returned (.tuple #[.slice none 0 0, errV E i]) ∧ Below w.heap.size w w'
  | .ok b => ∃ A C, e = .returned (.tuple #[.slice A b.length C, .nilIface]) ∧ OwnU8 w' w.heap.size A b.length C b ∧ Below w.heap.size w w'
theorem packR_err {w w' : World} {E : Nat → Addr} {r : Except Nat (List UInt8)} {i : Nat} (h : r = .error i) {e : Ending} (he : e = .returned (.tuple #[.slice none 0 0, errV E i])) (hb : Below w.heap.size w w') : PackR w E r e w' := by
  subst h; exact ⟨he, hb⟩
theorem packR_ok {w w' : World} {E : Nat → Addr} {r : Except Nat (List UInt8)} {b : List UInt8} (h : r = .ok b) {e : Ending} {A : Option Addr} {n C : Nat} (he : e = .returned (.tuple #[.slice A n C, .nilIface])) (ho : OwnU8 w' w.heap.size A n C b) (hb : Below w.heap.size w w') : PackR w E r e w' := by
  subst h
  have := ho.len
  subst this
  exact ⟨A, C, he, ho, hb⟩
theorem bad_no {x : List UInt8} (h : badX x = false) : 1 ≤ x.length ∧ x.length ≤ 4095 := by simp only [badX, Bool.or_eq_false_iff, decide_eq_false_iff_not] at h; omega
theorem takeL {α : Type} {L : List α} {k : Nat} {z : α} (h : L[k]? = some z) : L.take (k + 1) = L.take k ++ [z] := by
  obtain ⟨hk, rfl⟩ := List.getElem?_eq_some_iff.1 h
  exact List.take_succ_eq_append_getElem hk
theorem any_snoc {L M : List (List UInt8)} {x : List UInt8} (e : M = L ++ [x]) (h : L.any badX = false) (hx : badX x = false) : M.any badX = false := by rw [e, List.any_append, h]; simp [hx]
theorem any_at {L : List (List UInt8)} {k : Nat} {x : List UInt8} (h : L[k]? = some x) (hx : badX x = true) : L.any badX = true := List.any_eq_true.2 ⟨x, List.mem_of_getElem? h, hx⟩
theorem lens_snoc {L M : List (List UInt8)} {x : List UInt8} (e : M = L ++ [x]) : lensP M = lensP L ++ [(x.length : Int)] := by rw [e, lensP, List.map_append]; rfl

theorem row_two8 (w : World) (a b : UInt8) (t : TypeId) : Row (w.alloc (.cells #[.int .u8 (a.toNat : Int), .int .u8 (b.toNat : Int)] t)) 1 (some ⟨w.heap.size, 0, none⟩) 2 2 ([a, b].map u8v) := by
  rcases row_new w #[.int .u8 (a.toNat : Int), .int .u8 (b.toNat : Int)] t with h | h
  · exact h
  · simp [maxLen] at h
theorem hd_lo (n : Nat) : (((UInt8.ofNat (n * 16)).toNat : Nat) : Int) = (n : Int) * 16 % 256 := by rw [UInt8.toNat_ofNat']; omega
theorem hd_hi (n : Nat) (h : n ≤ 4095) : (((UInt8.ofNat (n * 16 / 256)).toNat : Nat) : Int) = (n : Int) * 16 / 256 := by rw [UInt8.toNat_ofNat']; omega
theorem row_hd (w : World) (n : Nat) (h : n ≤ 4095) (t : TypeId) : Row (w.alloc (.cells #[.int .u8 ((n : Int) * 16 % 256), .int .u8 ((n : Int) * 16 / 256)] t)) 1 (some ⟨w.heap.size, 0, none⟩) 2 2 ((hdB n).map u8v) := by
  rw [← hd_lo n, ← hd_hi n h]
  exact row_two8 w _ _ t
theorem pack_to {L M : List (List UInt8)} {x : List UInt8} {m nx d : Nat} (e : M = L ++ [x]) (hm : (packP L).length = m) (hx : x.length = nx) (hp : pad4 m = List.replicate d 0) :
    packP M = packP L ++ List.replicate d 0 ++ Crc.sealed (hdB nx) ++ [78] ++ x := by
  rw [e, pack_snoc, hm, hp, hx, delim]; simp only [List.append_assoc]

set_option maxHeartbeats 4000000 in
theorem pack_any {w : World} {E : Nat → Addr} (hE : Errs [2, 3] w E) (A : Option Addr) (n C : Nat) (L : List (List UInt8)) (h : RowP w A n C L) (hn : n ≤ 1000) :
    Calls Tryd.prog 10 #[.slice A n C] w fun e w' => PackR w E (packR L) e w' := by
  have H := Lib.hid h
  have HNL := Lib.hid h.1
  have hg2 := hE.at_ 2 0 (by decide) rfl
  have hg3 := hE.at_ 3 1 (by decide) rfl
  have HG2 := Lib.hid hg2
  have HG3 := Lib.hid hg3
  clear hE h hg2 hg3
  go_enter Tryd.func10, Tryd.ntmps10
  go_wp2_with fail
  go_loopw [4, 13] (fun s i wr => ∃ (k : Nat) (A1 : Option Addr) (C1 : Nat), k ≤ n ∧ i = .int .i64 k ∧ s = .slice A1 k C1 ∧ OwnI wr w.heap.size A1 k C1 (lensP (L.take k)) ∧ (L.take k).any badX = false ∧ Below w.heap.size w wr)
    (fun _ i _ => n - (intOf i).toNat)
  case atStart => exact ⟨0, none, 0, Nat.zero_le _, rfl, rfl, ownI_nil _ _, rfl, Below.refl _ _⟩
  case round =>
    obtain ⟨k, A1, C1, hk, rfl, rfl, ho, hno, hb⟩ := hrel
    have HO := Lib.hid ho
    have HNO := Lib.hid hno
    have HB := Lib.hid hb
    have zB := hb.size
    clear ho hno hb
    by_cases hlt : k < n
    case pos =>
      obtain ⟨b, off, x, A2, C2, rfl, hb, hx, hc, hr⟩ := H.out.at_ hlt
      have hcw : wr.cell? ⟨b, off + k, none⟩ = some (.slice A2 x.length C2) := (HB.out.cell hb).trans hc
      have HT := Lib.hid (takeL hx)
      have HAT := Lib.hid (any_at hx)
      have hxm := hr.len_le
      clear hc hx hr
      generalize hxl : x.length = nx at *
      have HXL := Lib.hid hxl
      clear hxl
      by_cases q1 : nx < 1
      case pos =>
        have hg2 : wr.cell? _ = _ := (HB.out.cell (World.block_lt_of_cell? w _ HG2.out)).trans HG2.out
        have HBX := Lib.hid (show badX x = true by rw [badX, HXL.out, decide_eq_true q1]; rfl)
        go_wp2_with fail
        go_quiet (fail)
        go_wp2_with fail
        go_ret2
        exact packR_err (show packR L = .error 2 by rw [packR, if_pos (HAT.out HBX.out)]) rfl (HB.out.trans (below_drewN _))
      case neg =>
      by_cases q2 : 4095 < nx
      case pos =>
        have hg2 : wr.cell? _ = _ := (HB.out.cell (World.block_lt_of_cell? w _ HG2.out)).trans HG2.out
        have HBX := Lib.hid (show badX x = true by rw [badX, HXL.out, decide_eq_true q2, Bool.or_true])
        go_wp2_with fail
        go_quiet (fail)
        go_wp2_with fail
        go_ret2
        exact packR_err (show packR L = .error 2 by rw [packR, if_pos (HAT.out HBX.out)]) rfl (HB.out.trans (below_drewN _))
      case neg =>
        have HBX := Lib.hid (show badX x = false by rw [badX, HXL.out, decide_eq_false q1, decide_eq_false q2]; rfl)
        go_wp2_with (at_builtin; refine append_int _ rfl (.tmp 26) (.tmp 29) rfl w.heap.size A1 k C1 _ rfl (HO.out.alloc _) _ 1 1 [(nx : Int)] rfl (row_int1 _ _ _) (by omega) (by simp; omega) ?_; intro A5 C5 w2 hown2 hg2 hat2; have HO2 := Lib.hid hown2; have HB2 := Lib.hid ((HB.out.alloc zB _).trans (below_grown (Below.refl _ _) (HO.out.alloc _) (Nat.le_refl _) (by simp; omega) hg2)); clear hown2 hg2 hat2)
        go_roundw
        case rel =>
          refine ⟨k + 1, A5, C5, by omega, by go_num, rfl, ?_, any_snoc HT.out HNO.out HBX.out, HB2.out⟩
          rw [lens_snoc HT.out, HXL.out]; exact HO2.out
        case measure => simp [intOf]; omega
    case neg =>
      obtain rfl : k = n := by omega
      have HLT := Lib.hid (show L.take k = L from List.take_of_length_le (by rw [← HNL.out]; exact Nat.le_refl _))
      have HG := Lib.hid (show L.any badX = false by rw [← HLT.out]; exact HNO.out)
      have HGD := Lib.hid (show ∀ x ∈ L, 1 ≤ x.length ∧ x.length ≤ 4095 from fun x hx => bad_no (by have h := HG.out; rw [List.any_eq_false] at h; simpa using h x hx))
      by_cases q0 : k = 0
      case pos =>
        have hg2 : wr.cell? _ = _ := (HB.out.cell (World.block_lt_of_cell? w _ HG2.out)).trans HG2.out
        have HNI := Lib.hid (show L = [] from List.eq_nil_of_length_eq_zero (by rw [← HNL.out]; exact q0))
        subst q0
        go_wp2_with fail
        go_quiet (fail)
        go_wp2_with fail
        go_ret2
        exact packR_err (show packR L = .error 2 by rw [HNI.out]; rfl) rfl (HB.out.trans (below_drewN _))
      case neg =>
      have HNN := Lib.hid (show L ≠ [] by intro e; have := HNL.out; rw [e] at this; exact q0 this)
      have d0 : ((k : Int) == 0) = false := by simp; omega
      by_cases q1 : 64 < k
      case pos =>
        have hg3 : wr.cell? _ = _ := (HB.out.cell (World.block_lt_of_cell? w _ HG3.out)).trans HG3.out
        have HK := Lib.hid (show 64 < L.length by rw [← HNL.out]; exact q1)
        have d1 : decide ((64 : Int) < (k : Int)) = true := decide_eq_true (by omega)
        go_wp2_with fail
        go_quiet (fail)
        go_wp2_with fail
        go_ret2
        exact packR_err (show packR L = .error 3 by rw [packR, if_neg (by rw [HG.out]; simp), if_neg HNN.out, if_pos (.inl HK.out)]) rfl (HB.out.trans (below_drewN _))
      case neg =>
      have d1 : decide ((64 : Int) < (k : Int)) = false := decide_eq_false (by omega)
      have HK := Lib.hid (show ¬ 64 < L.length by rw [← HNL.out]; exact q1)
      have HLL := Lib.hid (len_any A1 k C1 (lensP L) wr ⟨by rw [lensP, List.length_map]; exact HNL.out, by have := HO.out; rw [HLT.out] at this; exact this.row⟩ hn (by
        intro z hz
        obtain ⟨x, hx, rfl⟩ := List.mem_map.1 hz
        have := HGD.out x hx
        omega))
      obtain ⟨g, hg⟩ : ∃ g, aggP (lensP L) = g := ⟨_, rfl⟩
      have HGG := Lib.hid hg
      have HL3 := HLL.out
      rw [hg] at HL3
      have HL4 := Lib.hid HL3
      clear HLL HL3 hg
      by_cases q2 : (65535 : Int) < g
      case pos =>
        have hg3 : wr.cell? _ = _ := (HB.out.cell (World.block_lt_of_cell? w _ HG3.out)).trans HG3.out
        go_wp2_with fail
        refine HL4.out.mono ?_
        rintro e w1 ⟨rfl, rfl⟩
        go_wp2_with fail
        go_quiet (fail)
        go_wp2_with fail
        go_ret2
        exact packR_err (show packR L = .error 3 by rw [packR, if_neg (by rw [HG.out]; simp), if_neg HNN.out, if_pos (.inr (by rw [HGG.out]; exact q2))]) rfl (HB.out.trans (below_drewN _))
      case neg =>
      have HPK := Lib.hid (show packR L = .ok (packP L) by rw [packR, if_neg (by rw [HG.out]; simp), if_neg HNN.out, if_neg (by rw [HGG.out]; exact fun h => h.elim HK.out q2)])
      go_wp2_with fail
      refine HL4.out.mono ?_
      rintro e w1 ⟨rfl, rfl⟩
      go_wp2_with fail
      go_loopw [7, 49] (fun s i wx => ∃ (j : Nat) (A6 : Option Addr) (m C6 : Nat), j ≤ k ∧ i = .int .i64 j ∧ s = .slice A6 m C6 ∧ OwnU8 wx w.heap.size A6 m C6 (packP (L.take j)) ∧ m ≤ j * 4110 ∧ Below w.heap.size w wx)
        (fun _ i _ => k - (intOf i).toNat)
      case atStart => exact ⟨0, none, 0, 0, Nat.zero_le _, rfl, rfl, ownU8_nil _ _, Nat.zero_le _, HB.out⟩
      case round =>
        obtain ⟨j, A6, m, C6, hj, rfl, rfl, ho, hm, hb⟩ := hrel
        have HV := Lib.hid ho
        have HW := Lib.hid hb
        have zW := hb.size
        clear ho hb
        by_cases hlt : j < k
        case pos =>
          obtain ⟨b, off, x, A2, C2, rfl, hb, hx, hc, hr⟩ := H.out.at_ hlt
          have hcw : wr.cell? ⟨b, off + j, none⟩ = some (.slice A2 x.length C2) := (HW.out.cell hb).trans hc
          have HT := Lib.hid (takeL hx)
          have HX := Lib.hid hr
          obtain ⟨g1, g2⟩ := HGD.out x (List.mem_of_getElem? hx)
          clear hc hx hr
          generalize hxl : x.length = nx at *
          have HXL := Lib.hid hxl
          clear hxl
          have HUP := Lib.hid (fun w => up4_any m w (by omega))
          have hle := up4_le m
          have hle2 : up4 m ≤ m + 3 := by unfold up4; omega
          have hle3 : m = 0 → up4 m = 0 := by rintro rfl; rfl
          obtain ⟨d, hd⟩ : ∃ d, up4 m - m = d := ⟨_, rfl⟩
          have HPD := Lib.hid (show pad4 m = List.replicate d 0 by rw [pad4, hd])
          generalize up4 m = u at *
          have i1 : (u : Int) - (m : Int) = (d : Int) := by omega
          go_wp2_with fail
          refine (HUP.out _).mono ?_
          rintro e w1 ⟨rfl, rfl⟩
          go_wp2_with (at_builtin; refine list_zeros_any _ rfl (.tmp 53) (.tmp 59) rfl w.heap.size A6 m C6 _ rfl HV.out _ d rfl (by omega) (by omega) (by omega) zW ?_; intro A7 C7 w2 hown2 hb2; have HO2 := Lib.hid hown2; have HB2 := Lib.hid (HW.out.trans hb2); clear hown2 hb2)
          have HZ := Lib.hid HB2.out.size
          refine (seal_any _ 2 2 (hdB nx) _ (row_hd w2 nx g2 _) (by omega)).mono ?_
          rintro e w3 ⟨A8, n8, C8, rfl, hown3, hb3⟩
          obtain rfl : n8 = 3 := by have := hown3.len; simpa [hdB, Crc.sealed] using this.symm
          have HO3 := Lib.hid (OwnU8.below (HO2.out.alloc _) hb3 (Nat.le_refl _))
          have HS3 := Lib.hid hown3.row
          have HB3 := Lib.hid ((HB2.out.alloc HZ.out _).trans (hb3.mono (by have := HZ.out; simp; omega)))
          have HZ3 := Lib.hid HB3.out.size
          clear hown3 hb3
          go_wp2_with (at_builtin; first
            | (refine append_u8 _ rfl (.tmp 64) (.tmp 71) rfl w.heap.size A7 (m + d) C7 _ rfl HO3.out A8 3 C8 (Crc.sealed (hdB nx)) rfl HS3.out (by omega) HZ3.out ?_; intro A9 C9 w4 hown4 hg4 hat4; have HO4 := Lib.hid hown4; have HB4 := Lib.hid (HB3.out.trans (below_grown (Below.refl _ _) HO3.out (Nat.le_refl _) HZ3.out hg4)); have HZ4 := Lib.hid HB4.out.size; clear hown4 hg4 hat4)
            | (refine append_u8 _ rfl (.tmp 73) (.tmp 74) rfl w.heap.size A9 (m + d + 3) C9 _ rfl (HO4.out.alloc _) _ 1 1 [78] rfl (row_one _ _ _) (by omega) (by have := HZ4.out; simp; omega) ?_; intro A10 C10 w5 hown5 hg5 hat5; have HO5 := Lib.hid hown5; have HB5 := Lib.hid ((HB4.out.alloc HZ4.out _).trans (below_grown (Below.refl _ _) (HO4.out.alloc _) (Nat.le_refl _) (by have := HZ4.out; simp; omega) hg5)); have HZ5 := Lib.hid HB5.out.size; clear hown5 hg5 hat5)
            | (refine append_u8 _ rfl (.tmp 75) (.tmp 76) rfl w.heap.size A10 (m + d + 3 + 1) C10 _ rfl HO5.out A2 nx C2 x rfl (HX.out.below HB5.out (Nat.le_refl _)) (by omega) HZ5.out ?_; intro A11 C11 w6 hown6 hg6 hat6; have HO6 := Lib.hid hown6; have HB6 := Lib.hid (HB5.out.trans (below_grown (Below.refl _ _) HO5.out (Nat.le_refl _) HZ5.out hg6)); clear hown6 hg6 hat6))
          go_roundw
          case rel =>
            refine ⟨j + 1, A11, m + d + 3 + 1 + nx, C11, by omega, by go_num, rfl, ?_, by omega, HB6.out⟩
            rw [pack_to HT.out HV.out.len HXL.out HPD.out]; exact HO6.out
          case measure => simp [intOf]; omega
        case neg =>
          obtain rfl : j = k := by omega
          go_wp2_with fail
          go_ret2
          have ho := HV.out
          rw [HLT.out] at ho
          exact packR_ok HPK.out rfl ho HW.out
end Go.Proofs.YtplcdjdmkmdddaaDoor
