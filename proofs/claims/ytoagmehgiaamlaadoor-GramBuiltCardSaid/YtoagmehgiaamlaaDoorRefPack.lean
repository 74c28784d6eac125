/-
  The document's Pack.
-/
import Derived.Test.YtoagmehgiaamlaaDoorMg
import Derived.Test.YtoagmehgiaamlaaDoorMd
import Derived.Test.YtoagmehgiaamlaaDoorMb
namespace Go.Proofs.YtoagmehgiaamlaaDoor
open Go.ChangeShapes Go.WideShapes Go.ChangeAt Go.RowKit
set_option linter.unusedVariables false

/-- what the document's Pack gives back -/
def RPackR (w : World) (r : Except Nat (List UInt8)) (e : Ending) (w' : World) : Prop := match r with
  | .error i => e = .returned (.tuple #[.slice none 0 0, .int .i64 (101 + (i : Int))]) ∧ Below w.heap.size w w'
  | .ok b => ∃ A C, e = .returned (.tuple #[.slice A b.length C, .int .i64 0]) ∧ OwnU8 w' w.heap.size A b.length C b ∧ Below w.heap.size w w'
theorem rpack_err {w w' : World} {r : Except Nat (List UInt8)} {i : Nat} {c : Int} (h : r = .error i) (hc : c = 101 + (i : Int)) {e : Ending} (he : e = .returned (.tuple #[.slice none 0 0, .int .i64 c])) (hb : Below w.heap.size w w') : RPackR w r e w' := by
  subst h hc; exact ⟨he, hb⟩
theorem rpack_ok {w w' : World} {r : Except Nat (List UInt8)} {b : List UInt8} (h : r = .ok b) {e : Ending} {A : Option Addr} {n C : Nat} (he : e = .returned (.tuple #[.slice A n C, .int .i64 0])) (ho : OwnU8 w' w.heap.size A n C b) (hb : Below w.heap.size w w') : RPackR w r e w' := by
  subst h
  have := ho.len
  subst this
  exact ⟨A, C, he, ho, hb⟩
theorem hd_two (n : Nat) : ([] : List UInt8) ++ [UInt8.ofNat (n * 16 % 256), UInt8.ofNat (n * 16 / 256)] = hdB n := by
  rw [List.nil_append, hdB]
  congr 1
  apply UInt8.toNat_inj.1
  rw [UInt8.toNat_ofNat', UInt8.toNat_ofNat']
  omega
theorem row_sealed (w : World) (n : Nat) (t : TypeId) (x y z : UInt8) (h : [x, y, z] = Crc.sealed (hdB n)) : Row (w.alloc (.cells #[.int .u8 (x.toNat : Int), .int .u8 (y.toNat : Int), .int .u8 (z.toNat : Int), .int .u8 78] t)) 1 (some ⟨w.heap.size, 0, none⟩) 4 4 ((delim n).map u8v) := by
  have := row_four w x y z 78 t
  rw [delim, ← h]
  exact this

set_option maxRecDepth 100000 in
set_option maxHeartbeats 4000000 in
theorem refPack_any {w : World} (A : Option Addr) (n C : Nat) (L : List (List UInt8)) (h : RowP w A n C L) (hn : n ≤ 1000) :
    Calls Tryd.prog 19 #[.slice A n C] w fun e w' => RPackR w (packR L) e w' := by
  have hm := h.len_le
  have H := Lib.hid h
  have HNL := Lib.hid h.1
  clear h
  go_enter Tryd.func19, Tryd.ntmps19
  by_cases hn0 : n = 0
  · subst hn0
    have HP := Lib.hid (show packR L = .error 2 by rw [List.eq_nil_of_length_eq_zero HNL.out.symm]; rfl)
    go_wp2_with fail
    go_ret2
    exact rpack_err HP.out rfl rfl (Below.refl _ _)
  have e0 : ((n : Int) == 0) = false := by simp; omega
  go_wp2_with fail
  clear e0
  go_loopw [4] (fun i wr => ∃ k : Nat, k ≤ n ∧ i = .int .i64 k ∧ (L.take k).any badX = false ∧ wr = w) (fun i _ => n - (intOf i).toNat)
  case atStart => exact ⟨0, Nat.zero_le _, rfl, rfl, rfl⟩
  case round =>
    obtain ⟨k, hk, rfl, hany, rfl⟩ := hrel
    have HA := Lib.hid hany
    clear hany
    by_cases hlt : k < n
    case pos =>
      obtain ⟨x, hx⟩ : ∃ x, L[k]? = some x := ⟨_, List.getElem?_eq_getElem (by rw [← HNL.out]; exact hlt)⟩
      obtain ⟨b1, o1, A3, C3, rfl, l1, e0, r1⟩ := H.out.at2 hx
      have HT := Lib.hid (fun (hb : badX x = false) => any_snoc (takeL hx) HA.out hb)
      have HBAD := Lib.hid (fun (hb : badX x = true) => (show packR L = .error 2 by rw [packR, if_pos (any_at hx hb)]))
      have HX1 := Lib.hid (show x.length < 1 → badX x = true by intro h; rw [badX, decide_eq_true h, Bool.true_or])
      have HX2 := Lib.hid (show 4095 < x.length → badX x = true by intro h; rw [badX, decide_eq_true h, Bool.or_true])
      have HX3 := Lib.hid (show ¬ x.length < 1 → ¬ 4095 < x.length → badX x = false by intro h1 h2; rw [badX, decide_eq_false h1, decide_eq_false h2]; rfl)
      clear hx r1
      generalize x.length = nx at *
      by_cases q1 : nx < 1
      case pos =>
        have HP := Lib.hid (HBAD.out (HX1.out q1))
        go_wp2_with fail
        go_ret2
        exact rpack_err HP.out rfl rfl (Below.refl _ _)
      case neg =>
      by_cases q2 : 4095 < nx
      case pos =>
        have HP := Lib.hid (HBAD.out (HX2.out q2))
        go_wp2_with fail
        go_ret2
        exact rpack_err HP.out rfl rfl (Below.refl _ _)
      case neg =>
        have HP := Lib.hid (HT.out (HX3.out q1 q2))
        go_wp2_with fail
        go_roundw
        case rel => exact ⟨k + 1, by omega, by go_num, HP.out, by trivial⟩
        case measure => simp [intOf]; omega
    case neg =>
      obtain ⟨w0, hw0⟩ : ∃ w0, w0 = wr := ⟨_, rfl⟩
      subst hw0
      obtain rfl : k = n := by omega
      have HLT := Lib.hid (show L.take k = L by rw [List.take_of_length_le]; rw [HNL.out]; exact Nat.le_refl _)
      have hany : L.any badX = false := by have := HA.out; rwa [HLT.out] at this
      have hgood : goodL L := by
        intro x hx
        refine bad_no ?_
        rcases hb : badX x with _ | _
        · rfl
        · rw [List.any_eq_true.2 ⟨x, hx, hb⟩] at hany; cases hany
      have hne : L ≠ [] := by intro e; rw [e] at HNL; exact hn0 HNL.out
      have HGOOD := Lib.hid hgood
      by_cases q1 : 64 < k
      case pos =>
        have HP := Lib.hid (packR_many hgood hne (.inl (by rw [← HNL.out]; exact q1)))
        clear hgood hne hany
        go_wp2_with fail
        go_ret2
        exact rpack_err HP.out rfl rfl (Below.refl _ _)
      case neg =>
      have HLE := Lib.hid (refLens_any A k C L w0 H.out (by omega))
      obtain ⟨M, hM⟩ : ∃ M, (packP L).length = M := ⟨_, rfl⟩
      have HAG := Lib.hid (show aggP (lensP L) = (M : Int) by rw [agg_pack, hM])
      have HMANY := Lib.hid (fun (q2 : 65535 < M) => packR_many hgood hne (.inr (by rw [hM]; exact q2)))
      have HFINE := Lib.hid (fun (q2 : ¬ 65535 < M) => packR_yes hgood hne (by rw [← HNL.out]; omega) (by rw [hM]; omega))
      have HMM := Lib.hid hM
      clear hgood hne hany hM
      go_wp2_with fail
      refine HLE.out.mono ?_
      rintro e w1 ⟨A8, C8, rfl, ho8, hb8⟩
      have HB8 := Lib.hid hb8
      have z8 := hb8.size
      have HLN := Lib.hid (aggLen_any A8 k C8 (lensP L) w1 ⟨by rw [lensP, List.length_map]; exact HNL.out, ho8.row⟩ (by omega) (by
        intro z hz
        obtain ⟨x, hx, rfl⟩ := List.mem_map.1 hz
        have := HGOOD.out x hx
        omega))
      clear ho8 hb8
      go_wp2_with fail
      refine HLN.out.mono ?_
      rintro e w2 ⟨rfl, rfl⟩
      rw [HAG.out]
      by_cases q2 : 65535 < M
      case pos =>
        have HP := Lib.hid (HMANY.out q2)
        go_wp2_with fail
        go_ret2
        exact rpack_err HP.out rfl rfl HB8.out
      case neg =>
      have HP := Lib.hid (HFINE.out q2)
      go_wp2_with fail
      go_loopw [5, 6] (fun o i wl => ∃ (j : Nat) (A5 : Option Addr) (m C5 : Nat), j ≤ k ∧ i = .int .i64 j ∧ o = .slice A5 m C5 ∧ OwnU8 wl w0.heap.size A5 m C5 (packP (L.take j)) ∧ m ≤ 5000 * j ∧ Below w0.heap.size w0 wl)
        (fun _ i _ => k - (intOf i).toNat)
      case atStart => exact ⟨0, none, 0, 0, Nat.zero_le _, rfl, rfl, ownU8_nil _ _, Nat.zero_le _, HB8.out⟩
      case round =>
        obtain ⟨j, A5, m, C5, hj, rfl, rfl, hown, hm5, hbl⟩ := hrel
        have HV := Lib.hid hown
        have HBL := Lib.hid hbl
        have zl := hbl.size
        have HML := Lib.hid hown.len
        clear hown hbl
        by_cases hjk : j < k
        case pos =>
          obtain ⟨x, hx⟩ : ∃ x, L[j]? = some x := ⟨_, List.getElem?_eq_getElem (by rw [← HNL.out]; exact hjk)⟩
          obtain ⟨b1, o1, A3, C3, rfl, l1, e0, r1⟩ := H.out.at2 hx
          have HGX := Lib.hid (HGOOD.out x (List.mem_of_getElem? hx))
          have HR1 := Lib.hid r1
          have HE0 := Lib.hid e0
          have HTL := Lib.hid (takeL hx)
          obtain ⟨nx, hnx⟩ : ∃ nx, x.length = nx := ⟨_, rfl⟩
          rw [hnx] at HE0 HR1 HGX
          have HNX := Lib.hid hnx
          have g2 := HGX.out
          obtain ⟨d, hd⟩ : ∃ d, up4 m - m = d := ⟨_, rfl⟩
          have hd1 : d ≤ 3 ∧ (m + d) % 4 = 0 := by unfold up4 at hd; omega
          have hd2 : ∀ t, t < d → ¬ (m + t) % 4 = 0 := by unfold up4 at hd; intro t ht; omega
          have HPD := Lib.hid (show pad4 m = List.replicate d 0 by rw [pad4, hd])
          clear hx r1 e0 hnx hd
          go_wp2_with fail
          obtain ⟨wa, hwa⟩ : ∃ wa, wa = wr := ⟨_, rfl⟩
          subst hwa
          go_loopw [5] (fun o wl => ∃ (t : Nat) (A6 : Option Addr) (C6 : Nat), t ≤ d ∧ o = .slice A6 (m + t) C6 ∧ OwnU8 wl w0.heap.size A6 (m + t) C6 (packP (L.take j) ++ List.replicate t 0) ∧ Below w0.heap.size w0 wl)
            (fun o _ => match o with | .slice _ l _ => m + d - l | _ => 0)
          case atStart => exact ⟨0, A5, C5, Nat.zero_le _, rfl, by rw [List.replicate_zero, List.append_nil]; exact HV.out, HBL.out⟩
          case round =>
            obtain ⟨t, A6, C6, ht, rfl, hown, hbt⟩ := hrel
            have HVT := Lib.hid hown
            have HBT := Lib.hid hbt
            have zt := hbt.size
            clear hown hbt
            by_cases htd : t < d
            case pos =>
              have hne := hd2 t htd
              have e1 : (((m + t : Nat) : Int) % 4 != 0) = true := by simp; omega
              generalize hmt : m + t = mt at *
              go_wp2_with (at_builtin; refine append_u8 _ rfl (.tmp 50) (.tmp 51) rfl w0.heap.size A6 mt C6 _ rfl (HVT.out.alloc _) _ 1 1 [0] rfl (row_one _ _ _) (by omega) (by simp; omega) ?_; intro A7 C7 w5 hown5 hg5 hat5; have HV5 := Lib.hid hown5; have HB5 := Lib.hid (below_grown (HBT.out.alloc zt _) (HVT.out.alloc _) (Nat.le_refl _) (by simp; omega) hg5); clear hown5 hg5 hat5)
              go_roundw
              case rel => exact ⟨t + 1, A7, C7, by omega, by rw [← hmt]; rfl, by rw [List.replicate_succ', ← List.append_assoc, ← Nat.add_assoc, hmt]; exact HV5.out, HB5.out⟩
              case measure => simp; omega
            case neg =>
              obtain rfl : t = d := by omega
              have e1 : (((m + t : Nat) : Int) % 4 != 0) = false := by simp; omega
              have HTWO := Lib.hid (fun wq => two_any wq.heap.size none 0 0 [] (nx * 16) (by omega) wq (ownU8_nil _ _) (by omega) (Nat.le_refl _))
              have HTWO2 := Lib.hid (HTWO.out wr)
              rw [hd_two, show (((nx * 16 : Nat) : Int)) = (nx : Int) * 16 by omega] at HTWO2
              clear HTWO
              have e2 : wr.cell? ⟨b1, o1 + j, none⟩ = some (.slice A3 nx C3) := (HBT.out.cell (p := ⟨b1, o1 + j, none⟩) l1).trans HE0.out
              generalize hmt : m + t = mt at *
              go_wp2_with fail
              refine HTWO2.out.mono ?_
              rintro e w5 ⟨A9, C9, rfl, ho9, hb9⟩
              obtain ⟨x0, x1, hx01⟩ : ∃ x0 x1, hdB nx = [x0, x1] := ⟨_, _, rfl⟩
              have HSE := Lib.hid (show [x0, x1, Crc.sum [x0, x1]] = Crc.sealed (hdB nx) by rw [hx01]; rfl)
              rw [hx01] at ho9
              obtain ⟨g9, rfl, hg9, hl9, hc9, -, -⟩ := ho9.open_ (by omega)
              have i0 : w5.cell? ⟨g9, 0, none⟩ = some (.int .u8 (x0.toNat : Int)) := hc9 0 (by simp)
              have i1 : w5.cell? ⟨g9, 1, none⟩ = some (.int .u8 (x1.toNat : Int)) := hc9 1 (by simp)
              have HR9 := Lib.hid ho9.row
              have HV9 := Lib.hid (HVT.out.below hb9 (Nat.le_refl _))
              have HB9 := Lib.hid (HBT.out.trans (hb9.mono zt))
              have z9 := HB9.out.size
              have HNE := Lib.hid (show some g9 ≠ blk A6 by
                intro e
                have := HVT.out.blk_ge g9 e.symm
                omega)
              clear hc9 ho9 hb9 e2 e1
              go_wp2_with fail
              go_region_held3 (fun y => y.cell? ⟨g9, 0, none⟩ = some (.int .u8 (x0.toNat : Int)) ∧ y.cell? ⟨g9, 1, none⟩ = some (.int .u8 (x1.toNat : Int)))
                (first
                  | go_keep
                  | exact ⟨i0, i1⟩
                  | (go_split_ands
                     refine ⟨?_, ?_⟩
                     · (rw [hg5.cell_far _ (by simp; omega) HNE.out]; assumption)
                     · (rw [hg5.cell_far _ (by simp; omega) HNE.out]; assumption)))
                (first
                  | (go_at_call 44; refine (refSum_any _ 2 C9 [x0, x1] _ HR9.out.drew).mono ?_; rintro e w6 ⟨rfl, rfl⟩)
                  | (refine step_append_u8 _ (by rfl) (.tmp 60) (.tmp 69) rfl w0.heap.size A6 mt C6 _ (by rfl) (HV9.out.alloc _) _ 4 4 (delim nx) (by rfl) (row_sealed _ nx _ x0 x1 _ HSE.out) (by omega) (by simp; omega) ?_; intro A7 C7 w7 hown7 hg5 hat7))
              have HO7 := Lib.hid hown7
              have HB7 := Lib.hid (below_grown ((HB9.out.alloc z9 _).drew) (HV9.out.alloc _) (Nat.le_refl _) (by simp; omega) hg5)
              have z7 := HB7.out.size
              have e3 : w7.cell? ⟨b1, o1 + j, none⟩ = some (.slice A3 nx C3) := (HB7.out.cell (p := ⟨b1, o1 + j, none⟩) l1).trans HE0.out
              have HX7 := Lib.hid (HR1.out.below HB7.out (Nat.le_refl _))
              clear hown7 hg5 hat7 i0 i1
              go_wp2_with (at_builtin; refine append_u8 _ rfl (.tmp 71) (.tmp 75) rfl w0.heap.size A7 (mt + 4) C7 _ rfl HO7.out A3 nx C3 x rfl HX7.out (by omega) z7 ?_; intro A8' C8' w8 hown8 hg8 hat8; have HO8 := Lib.hid hown8; have HB8' := Lib.hid (below_grown HB7.out HO7.out (Nat.le_refl _) z7 hg8); clear hown8 hg8 hat8)
              go_roundw
              case rel =>
                refine ⟨j + 1, A8', mt + 4 + nx, C8', by omega, by go_num, rfl, ?_, by omega, HB8'.out⟩
                rw [HTL.out, pack_snoc, HML.out, HPD.out, HNX.out]; exact HO8.out
              case measure => simp [intOf]; omega
        case neg =>
          obtain rfl : j = k := by omega
          have hF : L.take j = L := by rw [List.take_of_length_le]; rw [HNL.out]; exact Nat.le_refl _
          have HV2 := HV.out
          rw [hF] at HV2
          go_wp2_with fail
          go_ret2
          exact rpack_ok HP.out rfl HV2 HBL.out
end Go.Proofs.YtoagmehgiaamlaaDoor
