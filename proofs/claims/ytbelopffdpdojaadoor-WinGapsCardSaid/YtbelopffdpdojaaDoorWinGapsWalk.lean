/-
  WinGaps: the walk.
-/
import Derived.Test.YtbelopffdpdojaaDoorWinRoundWalk
import Derived.Test.YtbelopffdpdojaaDoorSee
namespace Go.Proofs.YtbelopffdpdojaaDoor
open Go.ChangeShapes Go.WideShapes Go.ChangeAt Go.RowKit
set_option linter.unusedVariables false

/-- the j-th number -/
def fN (S : Nat) (j : Nat) : Int := ((S : Int) + (j : Int)) % 4096
theorem fN_inj {S i j Z : Nat} (hi : i < Z) (hj : j < Z) (hZ : Z ≤ 64) (h : fN S i = fN S j) : i = j := by unfold fN at h; omega
/-- of the first m all are out, of those behind them T -/
def GS (S Z m : Nat) (T : List Nat) : WS := ⟨((List.range m ++ T).map (fN S)).headD (fN S Z), fN S Z, (Z : Int), (List.range m ++ T).map (fN S)⟩
theorem GS_start (S Z : Nat) (h : 0 < Z) : RS S Z 0 Z = GS S Z Z [] := by
  have e1 : rng S 0 (Z - 0) = (List.range Z ++ []).map (fN S) := by
    simp only [rng, List.append_nil, Nat.sub_zero, Nat.zero_add]; rfl
  have e2 : ((List.range Z ++ []).map (fN S)).headD (fN S Z) = fN S 0 := by
    rw [List.headD_eq_head?_getD, List.head?_eq_getElem?, List.append_nil, List.getElem?_map, List.getElem?_range h]; rfl
  simp only [RS, GS, e1, e2]
  rfl
theorem GS_len (S Z m : Nat) (T : List Nat) : (GS S Z m T).o.length = m + T.length := by simp [GS]
theorem GS_at (S Z m : Nat) (T : List Nat) : (GS S Z (m + 1) T).o[m]? = some (fN S m) := by
  show ((List.range (m + 1) ++ T).map (fN S))[m]? = _
  rw [List.getElem?_map, List.getElem?_append_left (by simp), List.getElem?_range (by omega)]; rfl
theorem GS_before {S Z m : Nat} {T : List Nat} (hZ : Z ≤ 64) (hm : m < Z) : ∀ j, j < m → (GS S Z (m + 1) T).o[j]? ≠ some (fN S m) := by
  intro j hj
  show ((List.range (m + 1) ++ T).map (fN S))[j]? ≠ _
  rw [List.getElem?_map, List.getElem?_append_left (by simp; omega), List.getElem?_range (by omega)]
  intro e
  have := fN_inj (S := S) (Z := Z) (by omega) hm hZ (Option.some.inj e)
  omega
theorem GS_done (S Z m : Nat) (T : List Nat) : doneS (GS S Z (m + 1) T) m = GS S Z m T := by
  have e : ((List.range (m + 1) ++ T).map (fN S)).eraseIdx m = (List.range m ++ T).map (fN S) := by
    rw [List.range_succ, List.append_assoc, List.map_append, List.map_append]
    rw [List.eraseIdx_append_of_length_le (by simp)]
    simp
  simp only [doneS, GS, e]
theorem GS_gone {S Z m : Nat} {T : List Nat} (hZ : Z ≤ 64) (hm : m < Z) (hT : ∀ t ∈ T, m + 1 ≤ t ∧ t < Z) : fN S m ∉ (GS S Z m T).o := by
  intro h
  obtain ⟨j, hj, e⟩ := List.mem_map.1 h
  rcases List.mem_append.1 hj with hj | hj
  · have := List.mem_range.1 hj
    have := fN_inj (S := S) (Z := Z) (by omega) hm hZ e
    omega
  · have := hT j hj
    have := fN_inj (S := S) (Z := Z) this.2 hm hZ e
    omega
theorem GS_keep (S Z m : Nat) (T : List Nat) : GS S Z (m + 1) T = GS S Z m (m :: T) := by
  have e : List.range (m + 1) ++ T = List.range m ++ (m :: T) := by rw [List.range_succ, List.append_assoc]; rfl
  simp only [GS, e]
/-- Next so often -/
def PS (S Z h : Nat) (T : List Nat) : Nat → WS
  | 0 => GS S Z 0 T
  | p + 1 => nextS (PS S Z h T p)
theorem PS_len (S Z h : Nat) (T : List Nat) (p : Nat) : (PS S Z h T p).o.length = T.length + p := by
  induction p with
  | zero => simp [PS, GS]
  | succ p ih => simp [PS, nextS, ih]; omega
theorem PS_nx (S Z h : Nat) (T : List Nat) (p : Nat) : (PS S Z h T p).nx = fN S (Z + p) := by
  induction p with
  | zero => rfl
  | succ p ih => simp only [PS, nextS, ih]; unfold fN; omega
theorem PS_sz (S Z h : Nat) (T : List Nat) (p : Nat) : (PS S Z h T p).sz = (Z : Int) := by
  induction p with
  | zero => rfl
  | succ p ih => simp only [PS, nextS, ih]
theorem PS_st {S Z h : Nat} {T : List Nat} (hh : T.headD Z = h) (p : Nat) : (PS S Z h T p).st = fN S h := by
  induction p with
  | zero =>
    rw [← hh]
    show ((List.range 0 ++ T).map (fN S)).headD (fN S Z) = _
    cases T <;> rfl
  | succ p ih => simp only [PS, nextS, ih]
theorem PS_room {S Z h : Nat} {T : List Nat} (hh : T.headD Z = h) (p : Nat) (hZ : Z ≤ 64) (hT : h ≤ Z) (hp : p ≤ 64) : room (PS S Z h T p) = max ((h : Int) - (p : Int)) 0 := by
  simp only [room, PS_nx, PS_st hh, PS_sz]
  unfold fN
  omega
theorem headD_le {T : List Nat} {Z : Nat} (h : ∀ t ∈ T, t < Z) : T.headD Z ≤ Z := by
  cases T with
  | nil => exact Nat.le_refl _
  | cons t T => exact Nat.le_of_lt (h t (List.mem_cons_self ..))

set_option maxHeartbeats 4000000 in
theorem winGaps_walk (w : World) {E : Nat → Addr} (hE : Errs allErr w E) (start : Int) (hs : (Lit.int .i64 start).wf = true) (size : Int) (hz : (Lit.int .i64 size).wf = true) (bits : Int) (hbt : (Lit.int .u64 bits).wf = true) :
    Calls Tryd.prog 5 #[.int .i64 start, .int .i64 size, .int .u64 bits] w fun e w' => e = .returned (.bool true) ∧ Below w.heap.size w w' := by
  obtain ⟨s0, s1⟩ := bounds_i64 hs
  obtain ⟨z0, z1⟩ := bounds_i64 hz
  obtain ⟨S, hS, eS'⟩ := number_nat start 4096 (by omega)
  obtain ⟨Y, hY, eY'⟩ := number_nat size 64 (by omega)
  have eS : start % 4096 = (S : Int) := eS'
  have eY : size % 64 = (Y : Int) := eY'
  clear hs hz eS' eY'
  have HE := Lib.hid hE
  clear hE
  go_enter Tryd.func5, Tryd.ntmps5
  go_wp2_with fail
  refine (wfirst_any _).mono ?_
  rintro e w1 ⟨rfl, b1⟩
  have z1' := b1.size
  go_wp2_with fail
  refine (number_any start 4096 _ (by omega) (by omega) s0 s1).mono ?_
  rintro e w2 ⟨rfl, rfl⟩
  rw [eS]
  go_wp2_with fail
  refine (number_any size 64 _ (by omega) (by omega) z0 z1).mono ?_
  rintro e w2 ⟨rfl, rfl⟩
  rw [eY]
  clear eS eY
  go_wp2_with fail
  refine (new_ok (S : Int) ((Y : Int) + 1) w1 (by omega) (by omega) (by omega) (by omega)).mono ?_
  rintro e w2 ⟨rfl, h2, b2⟩
  have h2' : Wn w2 w.heap.size w1.heap.size none 0 (RS S (Y + 1) 0 0) := by
    have e : RS S (Y + 1) 0 0 = ⟨(S : Int), (S : Int), (Y : Int) + 1, []⟩ := by
      simp only [RS, rng]
      congr 1 <;> simp <;> omega
    rw [e]
    exact ⟨h2.blk, h2.own.base_le z1'⟩
  have HS2 := Lib.hid h2'
  have b2' := b1.trans (b2.mono z1')
  have HB2 := Lib.hid b2'
  clear h2 h2' b2 b2' b1
  go_wp2_with fail
  go_loopw [10] (fun i wr => ∃ k : Nat, k ≤ Y + 1 ∧ i = .int .i64 k ∧ ∃ A C, Wn wr w.heap.size w1.heap.size A C (RS S (Y + 1) 0 k) ∧ Below w.heap.size w wr) (fun i _ => Y + 1 - (intOf i).toNat)
  case atStart => exact ⟨0, Nat.zero_le _, rfl, none, 0, HS2.out, HB2.out⟩
  case round =>
    obtain ⟨k, hk, rfl, A, C, hS3, hB3⟩ := hrel
    have HS3 := Lib.hid hS3
    have HB3 := Lib.hid hB3
    have z3 := hB3.size
    clear hS3 hB3 HS2 HB2
    by_cases hkN : k < Y + 1
    · have hol : (RS S (Y + 1) 0 k).o.length = k - 0 := rng_len _ _ _
      have HOL := Lib.hid hol
      have hroom : ¬ room (RS S (Y + 1) 0 k) = 0 := by rw [RS_room _ _ _ _ (by omega) (by omega)]; omega
      have HRM := Lib.hid hroom
      clear hol hroom
      go_wp2_with fail
      refine (next_yes HS3.out (by show (0 : Int) ≤ ((Y + 1 : Nat) : Int); omega) (by show ((Y + 1 : Nat) : Int) ≤ 1000000; omega) HRM.out (by rw [HOL.out]; omega) z3).mono ?_
      rintro e w4 ⟨rfl, A4, C4, h4, t4, _⟩
      rw [show (RS S (Y + 1) 0 k).nx = ((S : Int) + (k : Int)) % 4096 from rfl]
      rw [RS_next _ _ _ _ (by omega)] at h4
      have b4 := HB3.out.trans (HS3.out.belowT z1' t4)
      have HS4 := Lib.hid h4
      have HB4 := Lib.hid b4
      clear h4 t4 b4
      go_wp2_with fail
      go_roundw
      case rel => exact ⟨k + 1, by omega, by go_num, A4, C4, HS4.out, HB4.out⟩
      case measure => simp [intOf]; omega
    · have hke : k = Y + 1 := by omega
      subst hke
      have hg := HS3.out
      rw [GS_start _ _ (by omega)] at hg
      have HG := Lib.hid hg
      clear hg HS3 z3
      go_wp2_with fail
      go_loopw [13, 14, 15] (fun fi nn i wq => ∃ (m : Nat) (T : List Nat), m ≤ Y + 1 ∧ i = .int .i64 ((m : Int) - 1) ∧ fi = .int .i64 ((T.headD (Y + 1) : Nat) : Int) ∧ nn = .int .i64 (T.length : Int) ∧ (∀ t ∈ T, m ≤ t ∧ t < Y + 1) ∧ T.length + m ≤ Y + 1 ∧ ∃ A C, Wn wq w.heap.size w1.heap.size A C (GS S (Y + 1) m T) ∧ Below w.heap.size w wq) (fun _ _ i _ => (intOf i + 1).toNat)
      case atStart => exact ⟨Y + 1, [], Nat.le_refl _, by go_num, by go_num, rfl, by simp, by simp, A, C, HG.out, HB3.out⟩
      case round =>
        obtain ⟨m, T, hm, rfl, rfl, rfl, hT, hTl, A4, C4, hS4, hB4⟩ := hrel
        have HS4 := Lib.hid hS4
        have HB4 := Lib.hid hB4
        have HT := Lib.hid hT
        have z4 := hB4.size
        clear hS4 hB4 hT HG HB3
        rcases Nat.eq_zero_or_pos m with hm0 | hm0
        · subst hm0
          have hh1 : T.headD (Y + 1) ≤ Y + 1 := headD_le fun t ht => (HT.out t ht).2
          have hpos : 0 < T.length + T.headD (Y + 1) := by
            cases T with
            | nil => simp
            | cons t T => simp; omega
          obtain ⟨h, hh⟩ : ∃ h, T.headD (Y + 1) = h := ⟨_, rfl⟩
          rw [hh] at hh1 hpos ⊢
          have HH := Lib.hid hh
          obtain ⟨tl, htl⟩ : ∃ tl, T.length = tl := ⟨_, rfl⟩
          rw [htl] at hpos hTl ⊢
          have HTL := Lib.hid htl
          clear hh htl
          rw [show (((0 : Nat) : Int) - 1) = -1 from rfl]
          go_wp2_with fail
          go_loopw [16] (fun mo wq => ∃ p : Nat, p ≤ h ∧ mo = .int .i64 (p : Int) ∧ ∃ A C, Wn wq w.heap.size w1.heap.size A C (PS S (Y + 1) h T p) ∧ Below w.heap.size w wq) (fun mo _ => h + 1 - (intOf mo).toNat)
          case atStart => exact ⟨0, Nat.zero_le _, rfl, A4, C4, HS4.out, HB4.out⟩
          case round =>
            obtain ⟨p, hp, rfl, A5, C5, hS5, hB5⟩ := hrel
            have HS5 := Lib.hid hS5
            have HB5 := Lib.hid hB5
            have z5 := hB5.size
            clear hS5 hB5 HS4 HB4
            have RM := Lib.hid (PS_room (S := S) HH.out p (by omega) hh1 (by omega))
            have HPL := Lib.hid (PS_len S (Y + 1) h T p)
            by_cases hph : p < h
            · go_wp2_with fail
              refine (next_yes HS5.out (by rw [PS_sz]; omega) (by rw [PS_sz]; omega) (by rw [RM.out]; omega) (by rw [HPL.out, HTL.out]; omega) z5).mono ?_
              rintro e w6 ⟨rfl, A6, C6, h6, t6, _⟩
              have b6 := HB5.out.trans (HS5.out.belowT z1' t6)
              have HS6 := Lib.hid h6
              have HB6 := Lib.hid b6
              clear h6 t6 b6
              go_wp2_with fail
              refine ⟨?_, ?measure⟩
              (repeat apply Exists.intro)
              refine ⟨?rel, rfl⟩
              case rel => exact ⟨p + 1, by omega, by go_num, A6, C6, HS6.out, HB6.out⟩
              case measure => simp [intOf]; omega
            · obtain rfl : p = h := by omega
              go_wp2_with fail
              refine (next_no HS5.out (by rw [PS_sz]; omega) (by rw [PS_sz]; omega) (by rw [RM.out]; omega)).mono ?_
              rintro e w6 ⟨rfl, nq, rfl⟩
              have HS6 := Lib.hid (HS5.out.drewN nq)
              have HB6 := Lib.hid (HB5.out.trans (below_drewN nq))
              have z6 := HB6.out.size
              clear HS5 HB5
              go_wp2_with fail
              refine (start_any HS6.out).mono ?_
              rintro e w7 ⟨rfl, rfl⟩
              rw [PS_st HH.out, show fN S p = ((S : Int) + (p : Int)) % 4096 from rfl]
              go_wp2_with fail
              refine (out_any HS6.out (by rw [HPL.out, HTL.out]; omega)).mono ?_
              rintro e w7 ⟨A7, C7, rfl, hown7, hb7⟩
              rw [HPL.out, HTL.out]
              have HS7 := Lib.hid (HS6.out.below hb7 (Nat.le_refl _))
              have HB7 := Lib.hid (HB6.out.trans (hb7.mono z6))
              have z7 := HB7.out.size
              clear hown7 hb7 HS6 HB6
              have hrz : rszR (PS S (Y + 1) p T p) 5 = some 9 := by
                simp only [rszR]; rw [if_neg (by decide), if_pos (by rw [HPL.out, HTL.out]; omega)]
              have HRZ := Lib.hid hrz
              clear hrz
              go_wp2_with fail
              refine (resize_any HS7.out ((HE.out.below HB7.out (Nat.le_refl _)).sub (by decide)) 5).mono ?_
              rintro e w8 ⟨rfl, h8, t8⟩
              rw [HRZ.out]
              have HB8 := Lib.hid (HB7.out.trans (HS7.out.belowT z1' t8))
              have z8 := HB8.out.size
              clear h8 t8
              go_wp2_with fail
              refine (is_any (HE.out.below HB8.out (Nat.le_refl _)) (some 9) (by decide) 0).mono ?_
              rintro e w9 ⟨rfl, hb9⟩
              rw [(by decide : (errCode (some 9) == 0) = false)]
              have HB9 := Lib.hid (HB8.out.trans (hb9.mono z8))
              clear hb9
              go_wp2_with fail
              go_ret
              exact ⟨ret_bool (by simp; omega), HB9.out⟩
        · obtain ⟨q, rfl⟩ : ∃ q, m = q + 1 := ⟨m - 1, by omega⟩
          rw [show (((q + 1 : Nat) : Int) - 1) = (q : Int) by omega]
          have hqY : q < Y + 1 := by omega
          go_wp2_with fail
          case roundEnd =>
            refine ⟨⟨q, q :: T, by omega, rfl, rfl, by go_num, ?_, by simp; omega, A4, C4, ?_, HB4.out⟩, ?_⟩
            · intro t ht
              rcases List.mem_cons.1 ht with rfl | ht
              · omega
              · have := HT.out t ht; omega
            · rw [← GS_keep]; exact HS4.out
            · simp [intOf]
          refine (done_yes HS4.out (fN S q) q (GS_at _ _ _ _) (GS_before (by omega) hqY) (by rw [GS_len]; omega) z4).mono ?_
          rintro e w5 ⟨rfl, A5, C5, h5, t5, _⟩
          rw [GS_done] at h5
          have HB5 := Lib.hid (HB4.out.trans (HS4.out.belowT z1' t5))
          have HS5 := Lib.hid h5
          have z5 := HB5.out.size
          clear h5 t5 HS4 HB4
          go_wp2_with fail
          refine (done_no HS5.out ((HE.out.below HB5.out (Nat.le_refl _)).cell 6 (by decide)) (fN S q) (GS_gone (by omega) hqY HT.out)).mono ?_
          rintro e w6 ⟨rfl, rfl⟩
          go_wp2_with fail
          refine (is_any (HE.out.below HB5.out (Nat.le_refl _)) (some 6) (by decide) 107).mono ?_
          rintro e w6 ⟨rfl, hb6⟩
          rw [(by decide : (errCode (some 6) == 107) = true)]
          have HS6 := Lib.hid (HS5.out.below hb6 (Nat.le_refl _))
          have HB6 := Lib.hid (HB5.out.trans (hb6.mono z5))
          clear hb6 HS5 HB5
          go_wp2_with fail
          refine ⟨?_, ?measure⟩
          (repeat apply Exists.intro)
          refine ⟨?rel, rfl⟩
          case rel => exact ⟨q, T, by omega, by go_num, by first | rfl | (rw [List.headD_eq_head?_getD]), rfl, fun t ht => by have := HT.out t ht; omega, by omega, A5, C5, HS6.out, HB6.out⟩
          case measure => simp [intOf]
end Go.Proofs.YtbelopffdpdojaaDoor
