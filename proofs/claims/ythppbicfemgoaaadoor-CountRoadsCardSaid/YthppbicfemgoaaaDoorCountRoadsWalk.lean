/-
  CountRoads: the walk.
-/
import Derived.Test.YthppbicfemgoaaaDoorCountFirst
namespace Go.Proofs.YthppbicfemgoaaaDoor
open Go.ChangeShapes Go.WideShapes Go.ChangeAt Go.RowKit
open Count
set_option linter.unusedVariables false

theorem dp_in (c : Int) (hc : c = 1 ∨ c = 2) (r : Int) (h0 : 1 ≤ r) (h1 : r ≤ 5) : dpR [(c, 0)] 1 r = none := by
  have := dp_over (L := [(c, 0)]) (k := 0) (p := (c, 0)) (c := r) rfl (by omega)
  rw [show (1 : Int) = ((0 : Nat) : Int) + 1 from rfl, this]
  rcases hc with rfl | rfl <;> rfl
theorem dpL_in (c : Int) (hc : c = 1 ∨ c = 2) (r : Int) (h0 : 1 ≤ r) (h1 : r ≤ 5) : dpL [(c, 0)] 1 r = [(4, r)] := by
  have := dpL_fine (L := [(c, 0)]) (k := 0) (c := r) (dp_in c hc r h0 h1)
  exact this
theorem dp_out (c : Int) (r : Int) (h : r < 1 ∨ r > 5) : dpR [(c, 0)] 1 r = some 2 := dp_range (by simp) h
theorem dpL_out (c : Int) (r : Int) (h : r < 1 ∨ r > 5) : dpL [(c, 0)] 1 r = [(c, 0)] := dpL_ill (dp_out c r h)
theorem mv_gone (r : Int) : mvR [(4, r)] 1 2 = some 9 := by
  have := mv_state (L := [(4, r)]) (k := 0) (p := (4, r)) (c := 2) rfl (by decide) (.inl rfl)
  exact this
theorem mvL_gone (r : Int) : mvL [(4, r)] 1 2 = [(4, r)] := mvL_ill (mv_gone r)
theorem dp_gone (r : Int) : dpR [(4, r)] 1 1 = some 9 := dp_over (L := [(4, r)]) (k := 0) (p := (4, r)) (c := 1) rfl (by decide)
theorem dpL_gone (r : Int) : dpL [(4, r)] 1 1 = [(4, r)] := dpL_ill (dp_gone r)
theorem mv_nobody (p : Pl) : mvR [p] 2 2 = some 6 := mv_none (.inr (by simp))
theorem mvL_nobody (p : Pl) : mvL [p] 2 2 = [p] := mvL_ill (mv_nobody p)
theorem len_one (p : Pl) : (([p] : List Pl).length : Int) = 1 := rfl
theorem of_one (p : Pl) : ofR [p] 1 = (p.1, p.2, true) := rfl
theorem nC_one (c r : Int) : ((nC c [(c, r)] : Nat) : Int) = 1 := by simp [nC, isC]

set_option maxHeartbeats 3200000 in
theorem roads_ff0 {w : World} {E : Nat → Addr} (hE : Errs allErr w E) (reason : Int) (hr0 : 1 ≤ reason) (hr1 : reason ≤ 5) :
    Calls Tryd.prog 4 #[.bool false, .bool false, .int .i64 reason] w fun e w' => e = .returned (.bool true) ∧ Below w.heap.size w w' := by
  have E0 := Lib.hid hE
  clear hE
  go_enter Tryd.func4, Tryd.ntmps4
  go_wp2_with fail
  refine (first_any _).mono ?_
  rintro e w0 ⟨rfl, b0⟩
  have z0 := b0.size
  have H1 := Lib.hid ((⟨Blk.new _ _ _, World.ownsRow_nil _ _ _ _⟩ : Bk (w0.alloc (.cells #[.slice none 0 0] 26)) w.heap.size w0.heap.size none 0 []))
  have b1 := b0.alloc z0 (.cells #[.slice none 0 0] 26)
  have z1 := b1.size
  have e1 := Lib.hid (E0.out.below b1 (Nat.le_refl _))
  go_wp2_with fail
  refine (accept_any H1.out (by decide) z1).mono ?_
  rintro e w2 ⟨rfl, A, C, h2, t2, _⟩
  rw [show (([] : List Pl).length : Int) + 1 = 1 from rfl]
  have b2 := b1.trans (Bk.belowT H1.out z0 t2)
  have z2 := b2.size
  have h2' : Bk w2 w.heap.size w0.heap.size A C [(1, 0)] := h2
  have H2 := Lib.hid h2'
  clear h2 h2' t2
  have e2 := Lib.hid (E0.out.below b2 (Nat.le_refl _))
  go_wp2_with fail
  refine (move_any H2.out e2.out 1 3).mono ?_
  rintro e w3 ⟨rfl, h3, t3⟩
  rw [(by decide : mvR [(1, 0)] 1 3 = some 9)]
  rw [(by decide : mvL [(1, 0)] 1 3 = [(1, 0)])] at h3
  have b3 := b2.trans (Bk.belowT H2.out z0 t3)
  have z3 := b3.size
  have H3 := Lib.hid h3
  clear h3 t3
  have e3 := Lib.hid (E0.out.below b3 (Nat.le_refl _))
  go_wp2_with fail
  refine (is_any e3.out (some 9) (by decide) 110).mono ?_
  rintro e w4 ⟨rfl, hx4⟩
  rw [(by decide : (errCode (some 9) == 110) = true)]
  have b4 := b3.trans (hx4.mono z3)
  have z4 := b4.size
  have H4 := Lib.hid (H3.out.below hx4 (Nat.le_refl _))
  have e4 := Lib.hid (E0.out.below b4 (Nat.le_refl _))
  go_wp2_with fail
  refine (drop_any H4.out e4.out 1 reason).mono ?_
  rintro e w5 ⟨rfl, h5, t5⟩
  rw [dp_in 1 (by decide) reason hr0 hr1]
  rw [dpL_in 1 (by decide) reason hr0 hr1] at h5
  simp only [errO]
  have b5 := b4.trans (Bk.belowT H4.out z0 t5)
  have z5 := b5.size
  have H5 := Lib.hid h5
  clear h5 t5
  have e5 := Lib.hid (E0.out.below b5 (Nat.le_refl _))
  go_wp2_with fail
  refine (ofp_any H5.out e5.out 1).mono ?_
  rintro e w6 ⟨rfl, q, rfl⟩
  rw [of_one]
  have b6 := b5.trans (below_drewN (B := w.heap.size) (w := w5) q)
  have z6 := b6.size
  have H6 := Lib.hid (bk_drew H5.out q)
  have e6 := Lib.hid (E0.out.below b6 (Nat.le_refl _))
  go_wp2_with fail
  refine (move_any H6.out e6.out 1 2).mono ?_
  rintro e w7 ⟨rfl, h7, t7⟩
  rw [mv_gone reason]
  rw [mvL_gone reason] at h7
  have b7 := b6.trans (Bk.belowT H6.out z0 t7)
  have z7 := b7.size
  have H7 := Lib.hid h7
  clear h7 t7
  have e7 := Lib.hid (E0.out.below b7 (Nat.le_refl _))
  go_wp2_with fail
  refine (is_any e7.out (some 9) (by decide) 110).mono ?_
  rintro e w8 ⟨rfl, hx8⟩
  rw [(by decide : (errCode (some 9) == 110) = true)]
  have b8 := b7.trans (hx8.mono z7)
  have z8 := b8.size
  have H8 := Lib.hid (H7.out.below hx8 (Nat.le_refl _))
  have e8 := Lib.hid (E0.out.below b8 (Nat.le_refl _))
  go_wp2_with fail
  refine (drop_any H8.out e8.out 1 1).mono ?_
  rintro e w9 ⟨rfl, h9, t9⟩
  rw [dp_gone reason]
  rw [dpL_gone reason] at h9
  have b9 := b8.trans (Bk.belowT H8.out z0 t9)
  have z9 := b9.size
  have H9 := Lib.hid h9
  clear h9 t9
  have e9 := Lib.hid (E0.out.below b9 (Nat.le_refl _))
  go_wp2_with fail
  refine (is_any e9.out (some 9) (by decide) 110).mono ?_
  rintro e w10 ⟨rfl, hx10⟩
  rw [(by decide : (errCode (some 9) == 110) = true)]
  have b10 := b9.trans (hx10.mono z9)
  have z10 := b10.size
  have H10 := Lib.hid (H9.out.below hx10 (Nat.le_refl _))
  have e10 := Lib.hid (E0.out.below b10 (Nat.le_refl _))
  go_wp2_with fail
  refine (class_any H10.out 4).mono ?_
  rintro e w11 ⟨rfl, hx11⟩
  rw [nC_one]
  have b11 := b10.trans (hx11.mono z10)
  have z11 := b11.size
  have H11 := Lib.hid (H10.out.below hx11 (Nat.le_refl _))
  have e11 := Lib.hid (E0.out.below b11 (Nat.le_refl _))
  go_wp2_with fail
  refine (len_any H11.out).mono ?_
  rintro e w12 ⟨rfl, rfl⟩
  rw [len_one]
  go_wp2_with fail
  refine (move_any H11.out e11.out 2 2).mono ?_
  rintro e w12 ⟨rfl, h12, t12⟩
  rw [mv_nobody]
  rw [mvL_nobody] at h12
  have b12 := b11.trans (Bk.belowT H11.out z0 t12)
  have z12 := b12.size
  have H12 := Lib.hid h12
  clear h12 t12
  have e12 := Lib.hid (E0.out.below b12 (Nat.le_refl _))
  go_wp2_with fail
  refine (is_any e12.out (some 6) (by decide) 107).mono ?_
  rintro e w13 ⟨rfl, hx13⟩
  rw [(by decide : (errCode (some 6) == 107) = true)]
  have b13 := b12.trans (hx13.mono z12)
  have z13 := b13.size
  have H13 := Lib.hid (H12.out.below hx13 (Nat.le_refl _))
  have e13 := Lib.hid (E0.out.below b13 (Nat.le_refl _))
  go_wp2_with fail
  go_ret
  exact ⟨rfl, b13⟩

set_option maxHeartbeats 3200000 in
theorem roads_ff1 {w : World} {E : Nat → Addr} (hE : Errs allErr w E) (reason : Int) (hl : reason < 1) :
    Calls Tryd.prog 4 #[.bool false, .bool false, .int .i64 reason] w fun e w' => e = .returned (.bool true) ∧ Below w.heap.size w w' := by
  have HR := Lib.hid (show reason < 1 ∨ reason > 5 from .inl hl)
  have E0 := Lib.hid hE
  clear hE
  go_enter Tryd.func4, Tryd.ntmps4
  go_wp2_with fail
  refine (first_any _).mono ?_
  rintro e w0 ⟨rfl, b0⟩
  have z0 := b0.size
  have H1 := Lib.hid ((⟨Blk.new _ _ _, World.ownsRow_nil _ _ _ _⟩ : Bk (w0.alloc (.cells #[.slice none 0 0] 26)) w.heap.size w0.heap.size none 0 []))
  have b1 := b0.alloc z0 (.cells #[.slice none 0 0] 26)
  have z1 := b1.size
  have e1 := Lib.hid (E0.out.below b1 (Nat.le_refl _))
  go_wp2_with fail
  refine (accept_any H1.out (by decide) z1).mono ?_
  rintro e w2 ⟨rfl, A, C, h2, t2, _⟩
  rw [show (([] : List Pl).length : Int) + 1 = 1 from rfl]
  have b2 := b1.trans (Bk.belowT H1.out z0 t2)
  have z2 := b2.size
  have h2' : Bk w2 w.heap.size w0.heap.size A C [(1, 0)] := h2
  have H2 := Lib.hid h2'
  clear h2 h2' t2
  have e2 := Lib.hid (E0.out.below b2 (Nat.le_refl _))
  go_wp2_with fail
  refine (move_any H2.out e2.out 1 3).mono ?_
  rintro e w3 ⟨rfl, h3, t3⟩
  rw [(by decide : mvR [(1, 0)] 1 3 = some 9)]
  rw [(by decide : mvL [(1, 0)] 1 3 = [(1, 0)])] at h3
  have b3 := b2.trans (Bk.belowT H2.out z0 t3)
  have z3 := b3.size
  have H3 := Lib.hid h3
  clear h3 t3
  have e3 := Lib.hid (E0.out.below b3 (Nat.le_refl _))
  go_wp2_with fail
  refine (is_any e3.out (some 9) (by decide) 110).mono ?_
  rintro e w4 ⟨rfl, hx4⟩
  rw [(by decide : (errCode (some 9) == 110) = true)]
  have b4 := b3.trans (hx4.mono z3)
  have z4 := b4.size
  have H4 := Lib.hid (H3.out.below hx4 (Nat.le_refl _))
  have e4 := Lib.hid (E0.out.below b4 (Nat.le_refl _))
  go_wp2_with fail
  refine (drop_any H4.out e4.out 1 reason).mono ?_
  rintro e w5 ⟨rfl, h5, t5⟩
  rw [dp_out 1 reason HR.out]
  rw [dpL_out 1 reason HR.out] at h5
  have b5 := b4.trans (Bk.belowT H4.out z0 t5)
  have z5 := b5.size
  have H5 := Lib.hid h5
  clear h5 t5
  have e5 := Lib.hid (E0.out.below b5 (Nat.le_refl _))
  go_wp2_with fail
  refine (is_any e5.out (some 2) (by decide) 103).mono ?_
  rintro e w6 ⟨rfl, hx6⟩
  rw [(by decide : (errCode (some 2) == 103) = true)]
  have b6 := b5.trans (hx6.mono z5)
  have z6 := b6.size
  have H6 := Lib.hid (H5.out.below hx6 (Nat.le_refl _))
  have e6 := Lib.hid (E0.out.below b6 (Nat.le_refl _))
  go_wp2_with fail
  refine (drop_any H6.out e6.out 1 4).mono ?_
  rintro e w7 ⟨rfl, h7, t7⟩
  rw [dp_in 1 (by decide) 4 (by decide) (by decide)]
  rw [dpL_in 1 (by decide) 4 (by decide) (by decide)] at h7
  simp only [errO]
  have b7 := b6.trans (Bk.belowT H6.out z0 t7)
  have z7 := b7.size
  have H7 := Lib.hid h7
  clear h7 t7
  have e7 := Lib.hid (E0.out.below b7 (Nat.le_refl _))
  go_wp2_with fail
  refine (ofp_any H7.out e7.out 1).mono ?_
  rintro e w8 ⟨rfl, q, rfl⟩
  rw [of_one]
  have b8 := b7.trans (below_drewN (B := w.heap.size) (w := w7) q)
  have z8 := b8.size
  have H8 := Lib.hid (bk_drew H7.out q)
  have e8 := Lib.hid (E0.out.below b8 (Nat.le_refl _))
  go_wp2_with fail
  refine (move_any H8.out e8.out 1 2).mono ?_
  rintro e w9 ⟨rfl, h9, t9⟩
  rw [mv_gone 4]
  rw [mvL_gone 4] at h9
  have b9 := b8.trans (Bk.belowT H8.out z0 t9)
  have z9 := b9.size
  have H9 := Lib.hid h9
  clear h9 t9
  have e9 := Lib.hid (E0.out.below b9 (Nat.le_refl _))
  go_wp2_with fail
  refine (is_any e9.out (some 9) (by decide) 110).mono ?_
  rintro e w10 ⟨rfl, hx10⟩
  rw [(by decide : (errCode (some 9) == 110) = true)]
  have b10 := b9.trans (hx10.mono z9)
  have z10 := b10.size
  have H10 := Lib.hid (H9.out.below hx10 (Nat.le_refl _))
  have e10 := Lib.hid (E0.out.below b10 (Nat.le_refl _))
  go_wp2_with fail
  refine (drop_any H10.out e10.out 1 1).mono ?_
  rintro e w11 ⟨rfl, h11, t11⟩
  rw [dp_gone 4]
  rw [dpL_gone 4] at h11
  have b11 := b10.trans (Bk.belowT H10.out z0 t11)
  have z11 := b11.size
  have H11 := Lib.hid h11
  clear h11 t11
  have e11 := Lib.hid (E0.out.below b11 (Nat.le_refl _))
  go_wp2_with fail
  refine (is_any e11.out (some 9) (by decide) 110).mono ?_
  rintro e w12 ⟨rfl, hx12⟩
  rw [(by decide : (errCode (some 9) == 110) = true)]
  have b12 := b11.trans (hx12.mono z11)
  have z12 := b12.size
  have H12 := Lib.hid (H11.out.below hx12 (Nat.le_refl _))
  have e12 := Lib.hid (E0.out.below b12 (Nat.le_refl _))
  go_wp2_with fail
  refine (class_any H12.out 4).mono ?_
  rintro e w13 ⟨rfl, hx13⟩
  rw [nC_one]
  have b13 := b12.trans (hx13.mono z12)
  have z13 := b13.size
  have H13 := Lib.hid (H12.out.below hx13 (Nat.le_refl _))
  have e13 := Lib.hid (E0.out.below b13 (Nat.le_refl _))
  go_wp2_with fail
  refine (len_any H13.out).mono ?_
  rintro e w14 ⟨rfl, rfl⟩
  rw [len_one]
  go_wp2_with fail
  refine (move_any H13.out e13.out 2 2).mono ?_
  rintro e w14 ⟨rfl, h14, t14⟩
  rw [mv_nobody]
  rw [mvL_nobody] at h14
  have b14 := b13.trans (Bk.belowT H13.out z0 t14)
  have z14 := b14.size
  have H14 := Lib.hid h14
  clear h14 t14
  have e14 := Lib.hid (E0.out.below b14 (Nat.le_refl _))
  go_wp2_with fail
  refine (is_any e14.out (some 6) (by decide) 107).mono ?_
  rintro e w15 ⟨rfl, hx15⟩
  rw [(by decide : (errCode (some 6) == 107) = true)]
  have b15 := b14.trans (hx15.mono z14)
  have z15 := b15.size
  have H15 := Lib.hid (H14.out.below hx15 (Nat.le_refl _))
  have e15 := Lib.hid (E0.out.below b15 (Nat.le_refl _))
  go_wp2_with fail
  go_ret
  exact ⟨rfl, b15⟩

set_option maxHeartbeats 3200000 in
theorem roads_ff2 {w : World} {E : Nat → Addr} (hE : Errs allErr w E) (reason : Int) (hl : 5 < reason) (hl2 : 1 ≤ reason) :
    Calls Tryd.prog 4 #[.bool false, .bool false, .int .i64 reason] w fun e w' => e = .returned (.bool true) ∧ Below w.heap.size w w' := by
  have HR := Lib.hid (show reason < 1 ∨ reason > 5 from .inr hl)
  have E0 := Lib.hid hE
  clear hE
  go_enter Tryd.func4, Tryd.ntmps4
  go_wp2_with fail
  refine (first_any _).mono ?_
  rintro e w0 ⟨rfl, b0⟩
  have z0 := b0.size
  have H1 := Lib.hid ((⟨Blk.new _ _ _, World.ownsRow_nil _ _ _ _⟩ : Bk (w0.alloc (.cells #[.slice none 0 0] 26)) w.heap.size w0.heap.size none 0 []))
  have b1 := b0.alloc z0 (.cells #[.slice none 0 0] 26)
  have z1 := b1.size
  have e1 := Lib.hid (E0.out.below b1 (Nat.le_refl _))
  go_wp2_with fail
  refine (accept_any H1.out (by decide) z1).mono ?_
  rintro e w2 ⟨rfl, A, C, h2, t2, _⟩
  rw [show (([] : List Pl).length : Int) + 1 = 1 from rfl]
  have b2 := b1.trans (Bk.belowT H1.out z0 t2)
  have z2 := b2.size
  have h2' : Bk w2 w.heap.size w0.heap.size A C [(1, 0)] := h2
  have H2 := Lib.hid h2'
  clear h2 h2' t2
  have e2 := Lib.hid (E0.out.below b2 (Nat.le_refl _))
  go_wp2_with fail
  refine (move_any H2.out e2.out 1 3).mono ?_
  rintro e w3 ⟨rfl, h3, t3⟩
  rw [(by decide : mvR [(1, 0)] 1 3 = some 9)]
  rw [(by decide : mvL [(1, 0)] 1 3 = [(1, 0)])] at h3
  have b3 := b2.trans (Bk.belowT H2.out z0 t3)
  have z3 := b3.size
  have H3 := Lib.hid h3
  clear h3 t3
  have e3 := Lib.hid (E0.out.below b3 (Nat.le_refl _))
  go_wp2_with fail
  refine (is_any e3.out (some 9) (by decide) 110).mono ?_
  rintro e w4 ⟨rfl, hx4⟩
  rw [(by decide : (errCode (some 9) == 110) = true)]
  have b4 := b3.trans (hx4.mono z3)
  have z4 := b4.size
  have H4 := Lib.hid (H3.out.below hx4 (Nat.le_refl _))
  have e4 := Lib.hid (E0.out.below b4 (Nat.le_refl _))
  go_wp2_with fail
  refine (drop_any H4.out e4.out 1 reason).mono ?_
  rintro e w5 ⟨rfl, h5, t5⟩
  rw [dp_out 1 reason HR.out]
  rw [dpL_out 1 reason HR.out] at h5
  have b5 := b4.trans (Bk.belowT H4.out z0 t5)
  have z5 := b5.size
  have H5 := Lib.hid h5
  clear h5 t5
  have e5 := Lib.hid (E0.out.below b5 (Nat.le_refl _))
  go_wp2_with fail
  refine (is_any e5.out (some 2) (by decide) 103).mono ?_
  rintro e w6 ⟨rfl, hx6⟩
  rw [(by decide : (errCode (some 2) == 103) = true)]
  have b6 := b5.trans (hx6.mono z5)
  have z6 := b6.size
  have H6 := Lib.hid (H5.out.below hx6 (Nat.le_refl _))
  have e6 := Lib.hid (E0.out.below b6 (Nat.le_refl _))
  go_wp2_with fail
  refine (drop_any H6.out e6.out 1 4).mono ?_
  rintro e w7 ⟨rfl, h7, t7⟩
  rw [dp_in 1 (by decide) 4 (by decide) (by decide)]
  rw [dpL_in 1 (by decide) 4 (by decide) (by decide)] at h7
  simp only [errO]
  have b7 := b6.trans (Bk.belowT H6.out z0 t7)
  have z7 := b7.size
  have H7 := Lib.hid h7
  clear h7 t7
  have e7 := Lib.hid (E0.out.below b7 (Nat.le_refl _))
  go_wp2_with fail
  refine (ofp_any H7.out e7.out 1).mono ?_
  rintro e w8 ⟨rfl, q, rfl⟩
  rw [of_one]
  have b8 := b7.trans (below_drewN (B := w.heap.size) (w := w7) q)
  have z8 := b8.size
  have H8 := Lib.hid (bk_drew H7.out q)
  have e8 := Lib.hid (E0.out.below b8 (Nat.le_refl _))
  go_wp2_with fail
  refine (move_any H8.out e8.out 1 2).mono ?_
  rintro e w9 ⟨rfl, h9, t9⟩
  rw [mv_gone 4]
  rw [mvL_gone 4] at h9
  have b9 := b8.trans (Bk.belowT H8.out z0 t9)
  have z9 := b9.size
  have H9 := Lib.hid h9
  clear h9 t9
  have e9 := Lib.hid (E0.out.below b9 (Nat.le_refl _))
  go_wp2_with fail
  refine (is_any e9.out (some 9) (by decide) 110).mono ?_
  rintro e w10 ⟨rfl, hx10⟩
  rw [(by decide : (errCode (some 9) == 110) = true)]
  have b10 := b9.trans (hx10.mono z9)
  have z10 := b10.size
  have H10 := Lib.hid (H9.out.below hx10 (Nat.le_refl _))
  have e10 := Lib.hid (E0.out.below b10 (Nat.le_refl _))
  go_wp2_with fail
  refine (drop_any H10.out e10.out 1 1).mono ?_
  rintro e w11 ⟨rfl, h11, t11⟩
  rw [dp_gone 4]
  rw [dpL_gone 4] at h11
  have b11 := b10.trans (Bk.belowT H10.out z0 t11)
  have z11 := b11.size
  have H11 := Lib.hid h11
  clear h11 t11
  have e11 := Lib.hid (E0.out.below b11 (Nat.le_refl _))
  go_wp2_with fail
  refine (is_any e11.out (some 9) (by decide) 110).mono ?_
  rintro e w12 ⟨rfl, hx12⟩
  rw [(by decide : (errCode (some 9) == 110) = true)]
  have b12 := b11.trans (hx12.mono z11)
  have z12 := b12.size
  have H12 := Lib.hid (H11.out.below hx12 (Nat.le_refl _))
  have e12 := Lib.hid (E0.out.below b12 (Nat.le_refl _))
  go_wp2_with fail
  refine (class_any H12.out 4).mono ?_
  rintro e w13 ⟨rfl, hx13⟩
  rw [nC_one]
  have b13 := b12.trans (hx13.mono z12)
  have z13 := b13.size
  have H13 := Lib.hid (H12.out.below hx13 (Nat.le_refl _))
  have e13 := Lib.hid (E0.out.below b13 (Nat.le_refl _))
  go_wp2_with fail
  refine (len_any H13.out).mono ?_
  rintro e w14 ⟨rfl, rfl⟩
  rw [len_one]
  go_wp2_with fail
  refine (move_any H13.out e13.out 2 2).mono ?_
  rintro e w14 ⟨rfl, h14, t14⟩
  rw [mv_nobody]
  rw [mvL_nobody] at h14
  have b14 := b13.trans (Bk.belowT H13.out z0 t14)
  have z14 := b14.size
  have H14 := Lib.hid h14
  clear h14 t14
  have e14 := Lib.hid (E0.out.below b14 (Nat.le_refl _))
  go_wp2_with fail
  refine (is_any e14.out (some 6) (by decide) 107).mono ?_
  rintro e w15 ⟨rfl, hx15⟩
  rw [(by decide : (errCode (some 6) == 107) = true)]
  have b15 := b14.trans (hx15.mono z14)
  have z15 := b15.size
  have H15 := Lib.hid (H14.out.below hx15 (Nat.le_refl _))
  have e15 := Lib.hid (E0.out.below b15 (Nat.le_refl _))
  go_wp2_with fail
  go_ret
  exact ⟨rfl, b15⟩

set_option maxHeartbeats 3200000 in
theorem roads_ft0 {w : World} {E : Nat → Addr} (hE : Errs allErr w E) (reason : Int) (hr0 : 1 ≤ reason) (hr1 : reason ≤ 5) :
    Calls Tryd.prog 4 #[.bool false, .bool true, .int .i64 reason] w fun e w' => e = .returned (.bool true) ∧ Below w.heap.size w w' := by
  have E0 := Lib.hid hE
  clear hE
  go_enter Tryd.func4, Tryd.ntmps4
  go_wp2_with fail
  refine (first_any _).mono ?_
  rintro e w0 ⟨rfl, b0⟩
  have z0 := b0.size
  have H1 := Lib.hid ((⟨Blk.new _ _ _, World.ownsRow_nil _ _ _ _⟩ : Bk (w0.alloc (.cells #[.slice none 0 0] 26)) w.heap.size w0.heap.size none 0 []))
  have b1 := b0.alloc z0 (.cells #[.slice none 0 0] 26)
  have z1 := b1.size
  have e1 := Lib.hid (E0.out.below b1 (Nat.le_refl _))
  go_wp2_with fail
  refine (accept_any H1.out (by decide) z1).mono ?_
  rintro e w2 ⟨rfl, A, C, h2, t2, _⟩
  rw [show (([] : List Pl).length : Int) + 1 = 1 from rfl]
  have b2 := b1.trans (Bk.belowT H1.out z0 t2)
  have z2 := b2.size
  have h2' : Bk w2 w.heap.size w0.heap.size A C [(1, 0)] := h2
  have H2 := Lib.hid h2'
  clear h2 h2' t2
  have e2 := Lib.hid (E0.out.below b2 (Nat.le_refl _))
  go_wp2_with fail
  refine (move_any H2.out e2.out 1 2).mono ?_
  rintro e w3 ⟨rfl, h3, t3⟩
  rw [(by decide : mvR [(1, 0)] 1 2 = none)]
  rw [(by decide : mvL [(1, 0)] 1 2 = [(2, 0)])] at h3
  simp only [errO]
  have b3 := b2.trans (Bk.belowT H2.out z0 t3)
  have z3 := b3.size
  have H3 := Lib.hid h3
  clear h3 t3
  have e3 := Lib.hid (E0.out.below b3 (Nat.le_refl _))
  go_wp2_with fail
  refine (move_any H3.out e3.out 1 3).mono ?_
  rintro e w4 ⟨rfl, h4, t4⟩
  rw [(by decide : mvR [(2, 0)] 1 3 = none)]
  rw [(by decide : mvL [(2, 0)] 1 3 = [(3, 0)])] at h4
  simp only [errO]
  have b4 := b3.trans (Bk.belowT H3.out z0 t4)
  have z4 := b4.size
  have H4 := Lib.hid h4
  clear h4 t4
  have e4 := Lib.hid (E0.out.below b4 (Nat.le_refl _))
  go_wp2_with fail
  refine (ofp_any H4.out e4.out 1).mono ?_
  rintro e w5 ⟨rfl, q, rfl⟩
  rw [of_one]
  have b5 := b4.trans (below_drewN (B := w.heap.size) (w := w4) q)
  have z5 := b5.size
  have H5 := Lib.hid (bk_drew H4.out q)
  have e5 := Lib.hid (E0.out.below b5 (Nat.le_refl _))
  go_wp2_with fail
  refine (move_any H5.out e5.out 1 2).mono ?_
  rintro e w6 ⟨rfl, h6, t6⟩
  rw [(by decide : mvR [(3, 0)] 1 2 = some 9)]
  rw [(by decide : mvL [(3, 0)] 1 2 = [(3, 0)])] at h6
  have b6 := b5.trans (Bk.belowT H5.out z0 t6)
  have z6 := b6.size
  have H6 := Lib.hid h6
  clear h6 t6
  have e6 := Lib.hid (E0.out.below b6 (Nat.le_refl _))
  go_wp2_with fail
  refine (is_any e6.out (some 9) (by decide) 110).mono ?_
  rintro e w7 ⟨rfl, hx7⟩
  rw [(by decide : (errCode (some 9) == 110) = true)]
  have b7 := b6.trans (hx7.mono z6)
  have z7 := b7.size
  have H7 := Lib.hid (H6.out.below hx7 (Nat.le_refl _))
  have e7 := Lib.hid (E0.out.below b7 (Nat.le_refl _))
  go_wp2_with fail
  refine (drop_any H7.out e7.out 1 1).mono ?_
  rintro e w8 ⟨rfl, h8, t8⟩
  rw [(by decide : dpR [(3, 0)] 1 1 = some 9)]
  rw [(by decide : dpL [(3, 0)] 1 1 = [(3, 0)])] at h8
  have b8 := b7.trans (Bk.belowT H7.out z0 t8)
  have z8 := b8.size
  have H8 := Lib.hid h8
  clear h8 t8
  have e8 := Lib.hid (E0.out.below b8 (Nat.le_refl _))
  go_wp2_with fail
  refine (is_any e8.out (some 9) (by decide) 110).mono ?_
  rintro e w9 ⟨rfl, hx9⟩
  rw [(by decide : (errCode (some 9) == 110) = true)]
  have b9 := b8.trans (hx9.mono z8)
  have z9 := b9.size
  have H9 := Lib.hid (H8.out.below hx9 (Nat.le_refl _))
  have e9 := Lib.hid (E0.out.below b9 (Nat.le_refl _))
  go_wp2_with fail
  refine (class_any H9.out 3).mono ?_
  rintro e w10 ⟨rfl, hx10⟩
  rw [nC_one]
  have b10 := b9.trans (hx10.mono z9)
  have z10 := b10.size
  have H10 := Lib.hid (H9.out.below hx10 (Nat.le_refl _))
  have e10 := Lib.hid (E0.out.below b10 (Nat.le_refl _))
  go_wp2_with fail
  refine (len_any H10.out).mono ?_
  rintro e w11 ⟨rfl, rfl⟩
  rw [len_one]
  go_wp2_with fail
  refine (move_any H10.out e10.out 2 2).mono ?_
  rintro e w11 ⟨rfl, h11, t11⟩
  rw [mv_nobody]
  rw [mvL_nobody] at h11
  have b11 := b10.trans (Bk.belowT H10.out z0 t11)
  have z11 := b11.size
  have H11 := Lib.hid h11
  clear h11 t11
  have e11 := Lib.hid (E0.out.below b11 (Nat.le_refl _))
  go_wp2_with fail
  refine (is_any e11.out (some 6) (by decide) 107).mono ?_
  rintro e w12 ⟨rfl, hx12⟩
  rw [(by decide : (errCode (some 6) == 107) = true)]
  have b12 := b11.trans (hx12.mono z11)
  have z12 := b12.size
  have H12 := Lib.hid (H11.out.below hx12 (Nat.le_refl _))
  have e12 := Lib.hid (E0.out.below b12 (Nat.le_refl _))
  go_wp2_with fail
  go_ret
  exact ⟨rfl, b12⟩

set_option maxHeartbeats 3200000 in
theorem roads_ft1 {w : World} {E : Nat → Addr} (hE : Errs allErr w E) (reason : Int) (hl : reason < 1) :
    Calls Tryd.prog 4 #[.bool false, .bool true, .int .i64 reason] w fun e w' => e = .returned (.bool true) ∧ Below w.heap.size w w' := by
  have HR := Lib.hid (show reason < 1 ∨ reason > 5 from .inl hl)
  have E0 := Lib.hid hE
  clear hE
  go_enter Tryd.func4, Tryd.ntmps4
  go_wp2_with fail
  refine (first_any _).mono ?_
  rintro e w0 ⟨rfl, b0⟩
  have z0 := b0.size
  have H1 := Lib.hid ((⟨Blk.new _ _ _, World.ownsRow_nil _ _ _ _⟩ : Bk (w0.alloc (.cells #[.slice none 0 0] 26)) w.heap.size w0.heap.size none 0 []))
  have b1 := b0.alloc z0 (.cells #[.slice none 0 0] 26)
  have z1 := b1.size
  have e1 := Lib.hid (E0.out.below b1 (Nat.le_refl _))
  go_wp2_with fail
  refine (accept_any H1.out (by decide) z1).mono ?_
  rintro e w2 ⟨rfl, A, C, h2, t2, _⟩
  rw [show (([] : List Pl).length : Int) + 1 = 1 from rfl]
  have b2 := b1.trans (Bk.belowT H1.out z0 t2)
  have z2 := b2.size
  have h2' : Bk w2 w.heap.size w0.heap.size A C [(1, 0)] := h2
  have H2 := Lib.hid h2'
  clear h2 h2' t2
  have e2 := Lib.hid (E0.out.below b2 (Nat.le_refl _))
  go_wp2_with fail
  refine (move_any H2.out e2.out 1 2).mono ?_
  rintro e w3 ⟨rfl, h3, t3⟩
  rw [(by decide : mvR [(1, 0)] 1 2 = none)]
  rw [(by decide : mvL [(1, 0)] 1 2 = [(2, 0)])] at h3
  simp only [errO]
  have b3 := b2.trans (Bk.belowT H2.out z0 t3)
  have z3 := b3.size
  have H3 := Lib.hid h3
  clear h3 t3
  have e3 := Lib.hid (E0.out.below b3 (Nat.le_refl _))
  go_wp2_with fail
  refine (drop_any H3.out e3.out 1 reason).mono ?_
  rintro e w4 ⟨rfl, h4, t4⟩
  rw [dp_out 2 reason HR.out]
  rw [dpL_out 2 reason HR.out] at h4
  have b4 := b3.trans (Bk.belowT H3.out z0 t4)
  have z4 := b4.size
  have H4 := Lib.hid h4
  clear h4 t4
  have e4 := Lib.hid (E0.out.below b4 (Nat.le_refl _))
  go_wp2_with fail
  refine (is_any e4.out (some 2) (by decide) 103).mono ?_
  rintro e w5 ⟨rfl, hx5⟩
  rw [(by decide : (errCode (some 2) == 103) = true)]
  have b5 := b4.trans (hx5.mono z4)
  have z5 := b5.size
  have H5 := Lib.hid (H4.out.below hx5 (Nat.le_refl _))
  have e5 := Lib.hid (E0.out.below b5 (Nat.le_refl _))
  go_wp2_with fail
  refine (move_any H5.out e5.out 1 3).mono ?_
  rintro e w6 ⟨rfl, h6, t6⟩
  rw [(by decide : mvR [(2, 0)] 1 3 = none)]
  rw [(by decide : mvL [(2, 0)] 1 3 = [(3, 0)])] at h6
  simp only [errO]
  have b6 := b5.trans (Bk.belowT H5.out z0 t6)
  have z6 := b6.size
  have H6 := Lib.hid h6
  clear h6 t6
  have e6 := Lib.hid (E0.out.below b6 (Nat.le_refl _))
  go_wp2_with fail
  refine (ofp_any H6.out e6.out 1).mono ?_
  rintro e w7 ⟨rfl, q, rfl⟩
  rw [of_one]
  have b7 := b6.trans (below_drewN (B := w.heap.size) (w := w6) q)
  have z7 := b7.size
  have H7 := Lib.hid (bk_drew H6.out q)
  have e7 := Lib.hid (E0.out.below b7 (Nat.le_refl _))
  go_wp2_with fail
  refine (move_any H7.out e7.out 1 2).mono ?_
  rintro e w8 ⟨rfl, h8, t8⟩
  rw [(by decide : mvR [(3, 0)] 1 2 = some 9)]
  rw [(by decide : mvL [(3, 0)] 1 2 = [(3, 0)])] at h8
  have b8 := b7.trans (Bk.belowT H7.out z0 t8)
  have z8 := b8.size
  have H8 := Lib.hid h8
  clear h8 t8
  have e8 := Lib.hid (E0.out.below b8 (Nat.le_refl _))
  go_wp2_with fail
  refine (is_any e8.out (some 9) (by decide) 110).mono ?_
  rintro e w9 ⟨rfl, hx9⟩
  rw [(by decide : (errCode (some 9) == 110) = true)]
  have b9 := b8.trans (hx9.mono z8)
  have z9 := b9.size
  have H9 := Lib.hid (H8.out.below hx9 (Nat.le_refl _))
  have e9 := Lib.hid (E0.out.below b9 (Nat.le_refl _))
  go_wp2_with fail
  refine (drop_any H9.out e9.out 1 1).mono ?_
  rintro e w10 ⟨rfl, h10, t10⟩
  rw [(by decide : dpR [(3, 0)] 1 1 = some 9)]
  rw [(by decide : dpL [(3, 0)] 1 1 = [(3, 0)])] at h10
  have b10 := b9.trans (Bk.belowT H9.out z0 t10)
  have z10 := b10.size
  have H10 := Lib.hid h10
  clear h10 t10
  have e10 := Lib.hid (E0.out.below b10 (Nat.le_refl _))
  go_wp2_with fail
  refine (is_any e10.out (some 9) (by decide) 110).mono ?_
  rintro e w11 ⟨rfl, hx11⟩
  rw [(by decide : (errCode (some 9) == 110) = true)]
  have b11 := b10.trans (hx11.mono z10)
  have z11 := b11.size
  have H11 := Lib.hid (H10.out.below hx11 (Nat.le_refl _))
  have e11 := Lib.hid (E0.out.below b11 (Nat.le_refl _))
  go_wp2_with fail
  refine (class_any H11.out 3).mono ?_
  rintro e w12 ⟨rfl, hx12⟩
  rw [nC_one]
  have b12 := b11.trans (hx12.mono z11)
  have z12 := b12.size
  have H12 := Lib.hid (H11.out.below hx12 (Nat.le_refl _))
  have e12 := Lib.hid (E0.out.below b12 (Nat.le_refl _))
  go_wp2_with fail
  refine (len_any H12.out).mono ?_
  rintro e w13 ⟨rfl, rfl⟩
  rw [len_one]
  go_wp2_with fail
  refine (move_any H12.out e12.out 2 2).mono ?_
  rintro e w13 ⟨rfl, h13, t13⟩
  rw [mv_nobody]
  rw [mvL_nobody] at h13
  have b13 := b12.trans (Bk.belowT H12.out z0 t13)
  have z13 := b13.size
  have H13 := Lib.hid h13
  clear h13 t13
  have e13 := Lib.hid (E0.out.below b13 (Nat.le_refl _))
  go_wp2_with fail
  refine (is_any e13.out (some 6) (by decide) 107).mono ?_
  rintro e w14 ⟨rfl, hx14⟩
  rw [(by decide : (errCode (some 6) == 107) = true)]
  have b14 := b13.trans (hx14.mono z13)
  have z14 := b14.size
  have H14 := Lib.hid (H13.out.below hx14 (Nat.le_refl _))
  have e14 := Lib.hid (E0.out.below b14 (Nat.le_refl _))
  go_wp2_with fail
  go_ret
  exact ⟨rfl, b14⟩

set_option maxHeartbeats 3200000 in
theorem roads_ft2 {w : World} {E : Nat → Addr} (hE : Errs allErr w E) (reason : Int) (hl : 5 < reason) (hl2 : 1 ≤ reason) :
    Calls Tryd.prog 4 #[.bool false, .bool true, .int .i64 reason] w fun e w' => e = .returned (.bool true) ∧ Below w.heap.size w w' := by
  have HR := Lib.hid (show reason < 1 ∨ reason > 5 from .inr hl)
  have E0 := Lib.hid hE
  clear hE
  go_enter Tryd.func4, Tryd.ntmps4
  go_wp2_with fail
  refine (first_any _).mono ?_
  rintro e w0 ⟨rfl, b0⟩
  have z0 := b0.size
  have H1 := Lib.hid ((⟨Blk.new _ _ _, World.ownsRow_nil _ _ _ _⟩ : Bk (w0.alloc (.cells #[.slice none 0 0] 26)) w.heap.size w0.heap.size none 0 []))
  have b1 := b0.alloc z0 (.cells #[.slice none 0 0] 26)
  have z1 := b1.size
  have e1 := Lib.hid (E0.out.below b1 (Nat.le_refl _))
  go_wp2_with fail
  refine (accept_any H1.out (by decide) z1).mono ?_
  rintro e w2 ⟨rfl, A, C, h2, t2, _⟩
  rw [show (([] : List Pl).length : Int) + 1 = 1 from rfl]
  have b2 := b1.trans (Bk.belowT H1.out z0 t2)
  have z2 := b2.size
  have h2' : Bk w2 w.heap.size w0.heap.size A C [(1, 0)] := h2
  have H2 := Lib.hid h2'
  clear h2 h2' t2
  have e2 := Lib.hid (E0.out.below b2 (Nat.le_refl _))
  go_wp2_with fail
  refine (move_any H2.out e2.out 1 2).mono ?_
  rintro e w3 ⟨rfl, h3, t3⟩
  rw [(by decide : mvR [(1, 0)] 1 2 = none)]
  rw [(by decide : mvL [(1, 0)] 1 2 = [(2, 0)])] at h3
  simp only [errO]
  have b3 := b2.trans (Bk.belowT H2.out z0 t3)
  have z3 := b3.size
  have H3 := Lib.hid h3
  clear h3 t3
  have e3 := Lib.hid (E0.out.below b3 (Nat.le_refl _))
  go_wp2_with fail
  refine (drop_any H3.out e3.out 1 reason).mono ?_
  rintro e w4 ⟨rfl, h4, t4⟩
  rw [dp_out 2 reason HR.out]
  rw [dpL_out 2 reason HR.out] at h4
  have b4 := b3.trans (Bk.belowT H3.out z0 t4)
  have z4 := b4.size
  have H4 := Lib.hid h4
  clear h4 t4
  have e4 := Lib.hid (E0.out.below b4 (Nat.le_refl _))
  go_wp2_with fail
  refine (is_any e4.out (some 2) (by decide) 103).mono ?_
  rintro e w5 ⟨rfl, hx5⟩
  rw [(by decide : (errCode (some 2) == 103) = true)]
  have b5 := b4.trans (hx5.mono z4)
  have z5 := b5.size
  have H5 := Lib.hid (H4.out.below hx5 (Nat.le_refl _))
  have e5 := Lib.hid (E0.out.below b5 (Nat.le_refl _))
  go_wp2_with fail
  refine (move_any H5.out e5.out 1 3).mono ?_
  rintro e w6 ⟨rfl, h6, t6⟩
  rw [(by decide : mvR [(2, 0)] 1 3 = none)]
  rw [(by decide : mvL [(2, 0)] 1 3 = [(3, 0)])] at h6
  simp only [errO]
  have b6 := b5.trans (Bk.belowT H5.out z0 t6)
  have z6 := b6.size
  have H6 := Lib.hid h6
  clear h6 t6
  have e6 := Lib.hid (E0.out.below b6 (Nat.le_refl _))
  go_wp2_with fail
  refine (ofp_any H6.out e6.out 1).mono ?_
  rintro e w7 ⟨rfl, q, rfl⟩
  rw [of_one]
  have b7 := b6.trans (below_drewN (B := w.heap.size) (w := w6) q)
  have z7 := b7.size
  have H7 := Lib.hid (bk_drew H6.out q)
  have e7 := Lib.hid (E0.out.below b7 (Nat.le_refl _))
  go_wp2_with fail
  refine (move_any H7.out e7.out 1 2).mono ?_
  rintro e w8 ⟨rfl, h8, t8⟩
  rw [(by decide : mvR [(3, 0)] 1 2 = some 9)]
  rw [(by decide : mvL [(3, 0)] 1 2 = [(3, 0)])] at h8
  have b8 := b7.trans (Bk.belowT H7.out z0 t8)
  have z8 := b8.size
  have H8 := Lib.hid h8
  clear h8 t8
  have e8 := Lib.hid (E0.out.below b8 (Nat.le_refl _))
  go_wp2_with fail
  refine (is_any e8.out (some 9) (by decide) 110).mono ?_
  rintro e w9 ⟨rfl, hx9⟩
  rw [(by decide : (errCode (some 9) == 110) = true)]
  have b9 := b8.trans (hx9.mono z8)
  have z9 := b9.size
  have H9 := Lib.hid (H8.out.below hx9 (Nat.le_refl _))
  have e9 := Lib.hid (E0.out.below b9 (Nat.le_refl _))
  go_wp2_with fail
  refine (drop_any H9.out e9.out 1 1).mono ?_
  rintro e w10 ⟨rfl, h10, t10⟩
  rw [(by decide : dpR [(3, 0)] 1 1 = some 9)]
  rw [(by decide : dpL [(3, 0)] 1 1 = [(3, 0)])] at h10
  have b10 := b9.trans (Bk.belowT H9.out z0 t10)
  have z10 := b10.size
  have H10 := Lib.hid h10
  clear h10 t10
  have e10 := Lib.hid (E0.out.below b10 (Nat.le_refl _))
  go_wp2_with fail
  refine (is_any e10.out (some 9) (by decide) 110).mono ?_
  rintro e w11 ⟨rfl, hx11⟩
  rw [(by decide : (errCode (some 9) == 110) = true)]
  have b11 := b10.trans (hx11.mono z10)
  have z11 := b11.size
  have H11 := Lib.hid (H10.out.below hx11 (Nat.le_refl _))
  have e11 := Lib.hid (E0.out.below b11 (Nat.le_refl _))
  go_wp2_with fail
  refine (class_any H11.out 3).mono ?_
  rintro e w12 ⟨rfl, hx12⟩
  rw [nC_one]
  have b12 := b11.trans (hx12.mono z11)
  have z12 := b12.size
  have H12 := Lib.hid (H11.out.below hx12 (Nat.le_refl _))
  have e12 := Lib.hid (E0.out.below b12 (Nat.le_refl _))
  go_wp2_with fail
  refine (len_any H12.out).mono ?_
  rintro e w13 ⟨rfl, rfl⟩
  rw [len_one]
  go_wp2_with fail
  refine (move_any H12.out e12.out 2 2).mono ?_
  rintro e w13 ⟨rfl, h13, t13⟩
  rw [mv_nobody]
  rw [mvL_nobody] at h13
  have b13 := b12.trans (Bk.belowT H12.out z0 t13)
  have z13 := b13.size
  have H13 := Lib.hid h13
  clear h13 t13
  have e13 := Lib.hid (E0.out.below b13 (Nat.le_refl _))
  go_wp2_with fail
  refine (is_any e13.out (some 6) (by decide) 107).mono ?_
  rintro e w14 ⟨rfl, hx14⟩
  rw [(by decide : (errCode (some 6) == 107) = true)]
  have b14 := b13.trans (hx14.mono z13)
  have z14 := b14.size
  have H14 := Lib.hid (H13.out.below hx14 (Nat.le_refl _))
  have e14 := Lib.hid (E0.out.below b14 (Nat.le_refl _))
  go_wp2_with fail
  go_ret
  exact ⟨rfl, b14⟩

set_option maxHeartbeats 3200000 in
theorem roads_tf0 {w : World} {E : Nat → Addr} (hE : Errs allErr w E) (reason : Int) (hr0 : 1 ≤ reason) (hr1 : reason ≤ 5) :
    Calls Tryd.prog 4 #[.bool true, .bool false, .int .i64 reason] w fun e w' => e = .returned (.bool true) ∧ Below w.heap.size w w' := by
  have E0 := Lib.hid hE
  clear hE
  go_enter Tryd.func4, Tryd.ntmps4
  go_wp2_with fail
  refine (first_any _).mono ?_
  rintro e w0 ⟨rfl, b0⟩
  have z0 := b0.size
  have H1 := Lib.hid ((⟨Blk.new _ _ _, World.ownsRow_nil _ _ _ _⟩ : Bk (w0.alloc (.cells #[.slice none 0 0] 26)) w.heap.size w0.heap.size none 0 []))
  have b1 := b0.alloc z0 (.cells #[.slice none 0 0] 26)
  have z1 := b1.size
  have e1 := Lib.hid (E0.out.below b1 (Nat.le_refl _))
  go_wp2_with fail
  refine (accept_any H1.out (by decide) z1).mono ?_
  rintro e w2 ⟨rfl, A, C, h2, t2, _⟩
  rw [show (([] : List Pl).length : Int) + 1 = 1 from rfl]
  have b2 := b1.trans (Bk.belowT H1.out z0 t2)
  have z2 := b2.size
  have h2' : Bk w2 w.heap.size w0.heap.size A C [(1, 0)] := h2
  have H2 := Lib.hid h2'
  clear h2 h2' t2
  have e2 := Lib.hid (E0.out.below b2 (Nat.le_refl _))
  go_wp2_with fail
  refine (move_any H2.out e2.out 1 3).mono ?_
  rintro e w3 ⟨rfl, h3, t3⟩
  rw [(by decide : mvR [(1, 0)] 1 3 = some 9)]
  rw [(by decide : mvL [(1, 0)] 1 3 = [(1, 0)])] at h3
  have b3 := b2.trans (Bk.belowT H2.out z0 t3)
  have z3 := b3.size
  have H3 := Lib.hid h3
  clear h3 t3
  have e3 := Lib.hid (E0.out.below b3 (Nat.le_refl _))
  go_wp2_with fail
  refine (is_any e3.out (some 9) (by decide) 110).mono ?_
  rintro e w4 ⟨rfl, hx4⟩
  rw [(by decide : (errCode (some 9) == 110) = true)]
  have b4 := b3.trans (hx4.mono z3)
  have z4 := b4.size
  have H4 := Lib.hid (H3.out.below hx4 (Nat.le_refl _))
  have e4 := Lib.hid (E0.out.below b4 (Nat.le_refl _))
  go_wp2_with fail
  refine (drop_any H4.out e4.out 1 reason).mono ?_
  rintro e w5 ⟨rfl, h5, t5⟩
  rw [dp_in 1 (by decide) reason hr0 hr1]
  rw [dpL_in 1 (by decide) reason hr0 hr1] at h5
  simp only [errO]
  have b5 := b4.trans (Bk.belowT H4.out z0 t5)
  have z5 := b5.size
  have H5 := Lib.hid h5
  clear h5 t5
  have e5 := Lib.hid (E0.out.below b5 (Nat.le_refl _))
  go_wp2_with fail
  refine (ofp_any H5.out e5.out 1).mono ?_
  rintro e w6 ⟨rfl, q, rfl⟩
  rw [of_one]
  have b6 := b5.trans (below_drewN (B := w.heap.size) (w := w5) q)
  have z6 := b6.size
  have H6 := Lib.hid (bk_drew H5.out q)
  have e6 := Lib.hid (E0.out.below b6 (Nat.le_refl _))
  go_wp2_with fail
  refine (move_any H6.out e6.out 1 2).mono ?_
  rintro e w7 ⟨rfl, h7, t7⟩
  rw [mv_gone reason]
  rw [mvL_gone reason] at h7
  have b7 := b6.trans (Bk.belowT H6.out z0 t7)
  have z7 := b7.size
  have H7 := Lib.hid h7
  clear h7 t7
  have e7 := Lib.hid (E0.out.below b7 (Nat.le_refl _))
  go_wp2_with fail
  refine (is_any e7.out (some 9) (by decide) 110).mono ?_
  rintro e w8 ⟨rfl, hx8⟩
  rw [(by decide : (errCode (some 9) == 110) = true)]
  have b8 := b7.trans (hx8.mono z7)
  have z8 := b8.size
  have H8 := Lib.hid (H7.out.below hx8 (Nat.le_refl _))
  have e8 := Lib.hid (E0.out.below b8 (Nat.le_refl _))
  go_wp2_with fail
  refine (drop_any H8.out e8.out 1 1).mono ?_
  rintro e w9 ⟨rfl, h9, t9⟩
  rw [dp_gone reason]
  rw [dpL_gone reason] at h9
  have b9 := b8.trans (Bk.belowT H8.out z0 t9)
  have z9 := b9.size
  have H9 := Lib.hid h9
  clear h9 t9
  have e9 := Lib.hid (E0.out.below b9 (Nat.le_refl _))
  go_wp2_with fail
  refine (is_any e9.out (some 9) (by decide) 110).mono ?_
  rintro e w10 ⟨rfl, hx10⟩
  rw [(by decide : (errCode (some 9) == 110) = true)]
  have b10 := b9.trans (hx10.mono z9)
  have z10 := b10.size
  have H10 := Lib.hid (H9.out.below hx10 (Nat.le_refl _))
  have e10 := Lib.hid (E0.out.below b10 (Nat.le_refl _))
  go_wp2_with fail
  refine (class_any H10.out 4).mono ?_
  rintro e w11 ⟨rfl, hx11⟩
  rw [nC_one]
  have b11 := b10.trans (hx11.mono z10)
  have z11 := b11.size
  have H11 := Lib.hid (H10.out.below hx11 (Nat.le_refl _))
  have e11 := Lib.hid (E0.out.below b11 (Nat.le_refl _))
  go_wp2_with fail
  refine (len_any H11.out).mono ?_
  rintro e w12 ⟨rfl, rfl⟩
  rw [len_one]
  go_wp2_with fail
  refine (move_any H11.out e11.out 2 2).mono ?_
  rintro e w12 ⟨rfl, h12, t12⟩
  rw [mv_nobody]
  rw [mvL_nobody] at h12
  have b12 := b11.trans (Bk.belowT H11.out z0 t12)
  have z12 := b12.size
  have H12 := Lib.hid h12
  clear h12 t12
  have e12 := Lib.hid (E0.out.below b12 (Nat.le_refl _))
  go_wp2_with fail
  refine (is_any e12.out (some 6) (by decide) 107).mono ?_
  rintro e w13 ⟨rfl, hx13⟩
  rw [(by decide : (errCode (some 6) == 107) = true)]
  have b13 := b12.trans (hx13.mono z12)
  have z13 := b13.size
  have H13 := Lib.hid (H12.out.below hx13 (Nat.le_refl _))
  have e13 := Lib.hid (E0.out.below b13 (Nat.le_refl _))
  go_wp2_with fail
  go_ret
  exact ⟨rfl, b13⟩

set_option maxHeartbeats 3200000 in
theorem roads_tf1 {w : World} {E : Nat → Addr} (hE : Errs allErr w E) (reason : Int) (hl : reason < 1) :
    Calls Tryd.prog 4 #[.bool true, .bool false, .int .i64 reason] w fun e w' => e = .returned (.bool true) ∧ Below w.heap.size w w' := by
  have HR := Lib.hid (show reason < 1 ∨ reason > 5 from .inl hl)
  have E0 := Lib.hid hE
  clear hE
  go_enter Tryd.func4, Tryd.ntmps4
  go_wp2_with fail
  refine (first_any _).mono ?_
  rintro e w0 ⟨rfl, b0⟩
  have z0 := b0.size
  have H1 := Lib.hid ((⟨Blk.new _ _ _, World.ownsRow_nil _ _ _ _⟩ : Bk (w0.alloc (.cells #[.slice none 0 0] 26)) w.heap.size w0.heap.size none 0 []))
  have b1 := b0.alloc z0 (.cells #[.slice none 0 0] 26)
  have z1 := b1.size
  have e1 := Lib.hid (E0.out.below b1 (Nat.le_refl _))
  go_wp2_with fail
  refine (accept_any H1.out (by decide) z1).mono ?_
  rintro e w2 ⟨rfl, A, C, h2, t2, _⟩
  rw [show (([] : List Pl).length : Int) + 1 = 1 from rfl]
  have b2 := b1.trans (Bk.belowT H1.out z0 t2)
  have z2 := b2.size
  have h2' : Bk w2 w.heap.size w0.heap.size A C [(1, 0)] := h2
  have H2 := Lib.hid h2'
  clear h2 h2' t2
  have e2 := Lib.hid (E0.out.below b2 (Nat.le_refl _))
  go_wp2_with fail
  refine (move_any H2.out e2.out 1 3).mono ?_
  rintro e w3 ⟨rfl, h3, t3⟩
  rw [(by decide : mvR [(1, 0)] 1 3 = some 9)]
  rw [(by decide : mvL [(1, 0)] 1 3 = [(1, 0)])] at h3
  have b3 := b2.trans (Bk.belowT H2.out z0 t3)
  have z3 := b3.size
  have H3 := Lib.hid h3
  clear h3 t3
  have e3 := Lib.hid (E0.out.below b3 (Nat.le_refl _))
  go_wp2_with fail
  refine (is_any e3.out (some 9) (by decide) 110).mono ?_
  rintro e w4 ⟨rfl, hx4⟩
  rw [(by decide : (errCode (some 9) == 110) = true)]
  have b4 := b3.trans (hx4.mono z3)
  have z4 := b4.size
  have H4 := Lib.hid (H3.out.below hx4 (Nat.le_refl _))
  have e4 := Lib.hid (E0.out.below b4 (Nat.le_refl _))
  go_wp2_with fail
  refine (drop_any H4.out e4.out 1 reason).mono ?_
  rintro e w5 ⟨rfl, h5, t5⟩
  rw [dp_out 1 reason HR.out]
  rw [dpL_out 1 reason HR.out] at h5
  have b5 := b4.trans (Bk.belowT H4.out z0 t5)
  have z5 := b5.size
  have H5 := Lib.hid h5
  clear h5 t5
  have e5 := Lib.hid (E0.out.below b5 (Nat.le_refl _))
  go_wp2_with fail
  refine (is_any e5.out (some 2) (by decide) 103).mono ?_
  rintro e w6 ⟨rfl, hx6⟩
  rw [(by decide : (errCode (some 2) == 103) = true)]
  have b6 := b5.trans (hx6.mono z5)
  have z6 := b6.size
  have H6 := Lib.hid (H5.out.below hx6 (Nat.le_refl _))
  have e6 := Lib.hid (E0.out.below b6 (Nat.le_refl _))
  go_wp2_with fail
  refine (drop_any H6.out e6.out 1 4).mono ?_
  rintro e w7 ⟨rfl, h7, t7⟩
  rw [dp_in 1 (by decide) 4 (by decide) (by decide)]
  rw [dpL_in 1 (by decide) 4 (by decide) (by decide)] at h7
  simp only [errO]
  have b7 := b6.trans (Bk.belowT H6.out z0 t7)
  have z7 := b7.size
  have H7 := Lib.hid h7
  clear h7 t7
  have e7 := Lib.hid (E0.out.below b7 (Nat.le_refl _))
  go_wp2_with fail
  refine (ofp_any H7.out e7.out 1).mono ?_
  rintro e w8 ⟨rfl, q, rfl⟩
  rw [of_one]
  have b8 := b7.trans (below_drewN (B := w.heap.size) (w := w7) q)
  have z8 := b8.size
  have H8 := Lib.hid (bk_drew H7.out q)
  have e8 := Lib.hid (E0.out.below b8 (Nat.le_refl _))
  go_wp2_with fail
  refine (move_any H8.out e8.out 1 2).mono ?_
  rintro e w9 ⟨rfl, h9, t9⟩
  rw [mv_gone 4]
  rw [mvL_gone 4] at h9
  have b9 := b8.trans (Bk.belowT H8.out z0 t9)
  have z9 := b9.size
  have H9 := Lib.hid h9
  clear h9 t9
  have e9 := Lib.hid (E0.out.below b9 (Nat.le_refl _))
  go_wp2_with fail
  refine (is_any e9.out (some 9) (by decide) 110).mono ?_
  rintro e w10 ⟨rfl, hx10⟩
  rw [(by decide : (errCode (some 9) == 110) = true)]
  have b10 := b9.trans (hx10.mono z9)
  have z10 := b10.size
  have H10 := Lib.hid (H9.out.below hx10 (Nat.le_refl _))
  have e10 := Lib.hid (E0.out.below b10 (Nat.le_refl _))
  go_wp2_with fail
  refine (drop_any H10.out e10.out 1 1).mono ?_
  rintro e w11 ⟨rfl, h11, t11⟩
  rw [dp_gone 4]
  rw [dpL_gone 4] at h11
  have b11 := b10.trans (Bk.belowT H10.out z0 t11)
  have z11 := b11.size
  have H11 := Lib.hid h11
  clear h11 t11
  have e11 := Lib.hid (E0.out.below b11 (Nat.le_refl _))
  go_wp2_with fail
  refine (is_any e11.out (some 9) (by decide) 110).mono ?_
  rintro e w12 ⟨rfl, hx12⟩
  rw [(by decide : (errCode (some 9) == 110) = true)]
  have b12 := b11.trans (hx12.mono z11)
  have z12 := b12.size
  have H12 := Lib.hid (H11.out.below hx12 (Nat.le_refl _))
  have e12 := Lib.hid (E0.out.below b12 (Nat.le_refl _))
  go_wp2_with fail
  refine (class_any H12.out 4).mono ?_
  rintro e w13 ⟨rfl, hx13⟩
  rw [nC_one]
  have b13 := b12.trans (hx13.mono z12)
  have z13 := b13.size
  have H13 := Lib.hid (H12.out.below hx13 (Nat.le_refl _))
  have e13 := Lib.hid (E0.out.below b13 (Nat.le_refl _))
  go_wp2_with fail
  refine (len_any H13.out).mono ?_
  rintro e w14 ⟨rfl, rfl⟩
  rw [len_one]
  go_wp2_with fail
  refine (move_any H13.out e13.out 2 2).mono ?_
  rintro e w14 ⟨rfl, h14, t14⟩
  rw [mv_nobody]
  rw [mvL_nobody] at h14
  have b14 := b13.trans (Bk.belowT H13.out z0 t14)
  have z14 := b14.size
  have H14 := Lib.hid h14
  clear h14 t14
  have e14 := Lib.hid (E0.out.below b14 (Nat.le_refl _))
  go_wp2_with fail
  refine (is_any e14.out (some 6) (by decide) 107).mono ?_
  rintro e w15 ⟨rfl, hx15⟩
  rw [(by decide : (errCode (some 6) == 107) = true)]
  have b15 := b14.trans (hx15.mono z14)
  have z15 := b15.size
  have H15 := Lib.hid (H14.out.below hx15 (Nat.le_refl _))
  have e15 := Lib.hid (E0.out.below b15 (Nat.le_refl _))
  go_wp2_with fail
  go_ret
  exact ⟨rfl, b15⟩

set_option maxHeartbeats 3200000 in
theorem roads_tf2 {w : World} {E : Nat → Addr} (hE : Errs allErr w E) (reason : Int) (hl : 5 < reason) (hl2 : 1 ≤ reason) :
    Calls Tryd.prog 4 #[.bool true, .bool false, .int .i64 reason] w fun e w' => e = .returned (.bool true) ∧ Below w.heap.size w w' := by
  have HR := Lib.hid (show reason < 1 ∨ reason > 5 from .inr hl)
  have E0 := Lib.hid hE
  clear hE
  go_enter Tryd.func4, Tryd.ntmps4
  go_wp2_with fail
  refine (first_any _).mono ?_
  rintro e w0 ⟨rfl, b0⟩
  have z0 := b0.size
  have H1 := Lib.hid ((⟨Blk.new _ _ _, World.ownsRow_nil _ _ _ _⟩ : Bk (w0.alloc (.cells #[.slice none 0 0] 26)) w.heap.size w0.heap.size none 0 []))
  have b1 := b0.alloc z0 (.cells #[.slice none 0 0] 26)
  have z1 := b1.size
  have e1 := Lib.hid (E0.out.below b1 (Nat.le_refl _))
  go_wp2_with fail
  refine (accept_any H1.out (by decide) z1).mono ?_
  rintro e w2 ⟨rfl, A, C, h2, t2, _⟩
  rw [show (([] : List Pl).length : Int) + 1 = 1 from rfl]
  have b2 := b1.trans (Bk.belowT H1.out z0 t2)
  have z2 := b2.size
  have h2' : Bk w2 w.heap.size w0.heap.size A C [(1, 0)] := h2
  have H2 := Lib.hid h2'
  clear h2 h2' t2
  have e2 := Lib.hid (E0.out.below b2 (Nat.le_refl _))
  go_wp2_with fail
  refine (move_any H2.out e2.out 1 3).mono ?_
  rintro e w3 ⟨rfl, h3, t3⟩
  rw [(by decide : mvR [(1, 0)] 1 3 = some 9)]
  rw [(by decide : mvL [(1, 0)] 1 3 = [(1, 0)])] at h3
  have b3 := b2.trans (Bk.belowT H2.out z0 t3)
  have z3 := b3.size
  have H3 := Lib.hid h3
  clear h3 t3
  have e3 := Lib.hid (E0.out.below b3 (Nat.le_refl _))
  go_wp2_with fail
  refine (is_any e3.out (some 9) (by decide) 110).mono ?_
  rintro e w4 ⟨rfl, hx4⟩
  rw [(by decide : (errCode (some 9) == 110) = true)]
  have b4 := b3.trans (hx4.mono z3)
  have z4 := b4.size
  have H4 := Lib.hid (H3.out.below hx4 (Nat.le_refl _))
  have e4 := Lib.hid (E0.out.below b4 (Nat.le_refl _))
  go_wp2_with fail
  refine (drop_any H4.out e4.out 1 reason).mono ?_
  rintro e w5 ⟨rfl, h5, t5⟩
  rw [dp_out 1 reason HR.out]
  rw [dpL_out 1 reason HR.out] at h5
  have b5 := b4.trans (Bk.belowT H4.out z0 t5)
  have z5 := b5.size
  have H5 := Lib.hid h5
  clear h5 t5
  have e5 := Lib.hid (E0.out.below b5 (Nat.le_refl _))
  go_wp2_with fail
  refine (is_any e5.out (some 2) (by decide) 103).mono ?_
  rintro e w6 ⟨rfl, hx6⟩
  rw [(by decide : (errCode (some 2) == 103) = true)]
  have b6 := b5.trans (hx6.mono z5)
  have z6 := b6.size
  have H6 := Lib.hid (H5.out.below hx6 (Nat.le_refl _))
  have e6 := Lib.hid (E0.out.below b6 (Nat.le_refl _))
  go_wp2_with fail
  refine (drop_any H6.out e6.out 1 4).mono ?_
  rintro e w7 ⟨rfl, h7, t7⟩
  rw [dp_in 1 (by decide) 4 (by decide) (by decide)]
  rw [dpL_in 1 (by decide) 4 (by decide) (by decide)] at h7
  simp only [errO]
  have b7 := b6.trans (Bk.belowT H6.out z0 t7)
  have z7 := b7.size
  have H7 := Lib.hid h7
  clear h7 t7
  have e7 := Lib.hid (E0.out.below b7 (Nat.le_refl _))
  go_wp2_with fail
  refine (ofp_any H7.out e7.out 1).mono ?_
  rintro e w8 ⟨rfl, q, rfl⟩
  rw [of_one]
  have b8 := b7.trans (below_drewN (B := w.heap.size) (w := w7) q)
  have z8 := b8.size
  have H8 := Lib.hid (bk_drew H7.out q)
  have e8 := Lib.hid (E0.out.below b8 (Nat.le_refl _))
  go_wp2_with fail
  refine (move_any H8.out e8.out 1 2).mono ?_
  rintro e w9 ⟨rfl, h9, t9⟩
  rw [mv_gone 4]
  rw [mvL_gone 4] at h9
  have b9 := b8.trans (Bk.belowT H8.out z0 t9)
  have z9 := b9.size
  have H9 := Lib.hid h9
  clear h9 t9
  have e9 := Lib.hid (E0.out.below b9 (Nat.le_refl _))
  go_wp2_with fail
  refine (is_any e9.out (some 9) (by decide) 110).mono ?_
  rintro e w10 ⟨rfl, hx10⟩
  rw [(by decide : (errCode (some 9) == 110) = true)]
  have b10 := b9.trans (hx10.mono z9)
  have z10 := b10.size
  have H10 := Lib.hid (H9.out.below hx10 (Nat.le_refl _))
  have e10 := Lib.hid (E0.out.below b10 (Nat.le_refl _))
  go_wp2_with fail
  refine (drop_any H10.out e10.out 1 1).mono ?_
  rintro e w11 ⟨rfl, h11, t11⟩
  rw [dp_gone 4]
  rw [dpL_gone 4] at h11
  have b11 := b10.trans (Bk.belowT H10.out z0 t11)
  have z11 := b11.size
  have H11 := Lib.hid h11
  clear h11 t11
  have e11 := Lib.hid (E0.out.below b11 (Nat.le_refl _))
  go_wp2_with fail
  refine (is_any e11.out (some 9) (by decide) 110).mono ?_
  rintro e w12 ⟨rfl, hx12⟩
  rw [(by decide : (errCode (some 9) == 110) = true)]
  have b12 := b11.trans (hx12.mono z11)
  have z12 := b12.size
  have H12 := Lib.hid (H11.out.below hx12 (Nat.le_refl _))
  have e12 := Lib.hid (E0.out.below b12 (Nat.le_refl _))
  go_wp2_with fail
  refine (class_any H12.out 4).mono ?_
  rintro e w13 ⟨rfl, hx13⟩
  rw [nC_one]
  have b13 := b12.trans (hx13.mono z12)
  have z13 := b13.size
  have H13 := Lib.hid (H12.out.below hx13 (Nat.le_refl _))
  have e13 := Lib.hid (E0.out.below b13 (Nat.le_refl _))
  go_wp2_with fail
  refine (len_any H13.out).mono ?_
  rintro e w14 ⟨rfl, rfl⟩
  rw [len_one]
  go_wp2_with fail
  refine (move_any H13.out e13.out 2 2).mono ?_
  rintro e w14 ⟨rfl, h14, t14⟩
  rw [mv_nobody]
  rw [mvL_nobody] at h14
  have b14 := b13.trans (Bk.belowT H13.out z0 t14)
  have z14 := b14.size
  have H14 := Lib.hid h14
  clear h14 t14
  have e14 := Lib.hid (E0.out.below b14 (Nat.le_refl _))
  go_wp2_with fail
  refine (is_any e14.out (some 6) (by decide) 107).mono ?_
  rintro e w15 ⟨rfl, hx15⟩
  rw [(by decide : (errCode (some 6) == 107) = true)]
  have b15 := b14.trans (hx15.mono z14)
  have z15 := b15.size
  have H15 := Lib.hid (H14.out.below hx15 (Nat.le_refl _))
  have e15 := Lib.hid (E0.out.below b15 (Nat.le_refl _))
  go_wp2_with fail
  go_ret
  exact ⟨rfl, b15⟩

set_option maxHeartbeats 3200000 in
theorem roads_tt0 {w : World} {E : Nat → Addr} (hE : Errs allErr w E) (reason : Int) (hr0 : 1 ≤ reason) (hr1 : reason ≤ 5) :
    Calls Tryd.prog 4 #[.bool true, .bool true, .int .i64 reason] w fun e w' => e = .returned (.bool true) ∧ Below w.heap.size w w' := by
  have E0 := Lib.hid hE
  clear hE
  go_enter Tryd.func4, Tryd.ntmps4
  go_wp2_with fail
  refine (first_any _).mono ?_
  rintro e w0 ⟨rfl, b0⟩
  have z0 := b0.size
  have H1 := Lib.hid ((⟨Blk.new _ _ _, World.ownsRow_nil _ _ _ _⟩ : Bk (w0.alloc (.cells #[.slice none 0 0] 26)) w.heap.size w0.heap.size none 0 []))
  have b1 := b0.alloc z0 (.cells #[.slice none 0 0] 26)
  have z1 := b1.size
  have e1 := Lib.hid (E0.out.below b1 (Nat.le_refl _))
  go_wp2_with fail
  refine (accept_any H1.out (by decide) z1).mono ?_
  rintro e w2 ⟨rfl, A, C, h2, t2, _⟩
  rw [show (([] : List Pl).length : Int) + 1 = 1 from rfl]
  have b2 := b1.trans (Bk.belowT H1.out z0 t2)
  have z2 := b2.size
  have h2' : Bk w2 w.heap.size w0.heap.size A C [(1, 0)] := h2
  have H2 := Lib.hid h2'
  clear h2 h2' t2
  have e2 := Lib.hid (E0.out.below b2 (Nat.le_refl _))
  go_wp2_with fail
  refine (move_any H2.out e2.out 1 2).mono ?_
  rintro e w3 ⟨rfl, h3, t3⟩
  rw [(by decide : mvR [(1, 0)] 1 2 = none)]
  rw [(by decide : mvL [(1, 0)] 1 2 = [(2, 0)])] at h3
  simp only [errO]
  have b3 := b2.trans (Bk.belowT H2.out z0 t3)
  have z3 := b3.size
  have H3 := Lib.hid h3
  clear h3 t3
  have e3 := Lib.hid (E0.out.below b3 (Nat.le_refl _))
  go_wp2_with fail
  refine (drop_any H3.out e3.out 1 reason).mono ?_
  rintro e w4 ⟨rfl, h4, t4⟩
  rw [dp_in 2 (by decide) reason hr0 hr1]
  rw [dpL_in 2 (by decide) reason hr0 hr1] at h4
  simp only [errO]
  have b4 := b3.trans (Bk.belowT H3.out z0 t4)
  have z4 := b4.size
  have H4 := Lib.hid h4
  clear h4 t4
  have e4 := Lib.hid (E0.out.below b4 (Nat.le_refl _))
  go_wp2_with fail
  refine (ofp_any H4.out e4.out 1).mono ?_
  rintro e w5 ⟨rfl, q, rfl⟩
  rw [of_one]
  have b5 := b4.trans (below_drewN (B := w.heap.size) (w := w4) q)
  have z5 := b5.size
  have H5 := Lib.hid (bk_drew H4.out q)
  have e5 := Lib.hid (E0.out.below b5 (Nat.le_refl _))
  go_wp2_with fail
  refine (move_any H5.out e5.out 1 2).mono ?_
  rintro e w6 ⟨rfl, h6, t6⟩
  rw [mv_gone reason]
  rw [mvL_gone reason] at h6
  have b6 := b5.trans (Bk.belowT H5.out z0 t6)
  have z6 := b6.size
  have H6 := Lib.hid h6
  clear h6 t6
  have e6 := Lib.hid (E0.out.below b6 (Nat.le_refl _))
  go_wp2_with fail
  refine (is_any e6.out (some 9) (by decide) 110).mono ?_
  rintro e w7 ⟨rfl, hx7⟩
  rw [(by decide : (errCode (some 9) == 110) = true)]
  have b7 := b6.trans (hx7.mono z6)
  have z7 := b7.size
  have H7 := Lib.hid (H6.out.below hx7 (Nat.le_refl _))
  have e7 := Lib.hid (E0.out.below b7 (Nat.le_refl _))
  go_wp2_with fail
  refine (drop_any H7.out e7.out 1 1).mono ?_
  rintro e w8 ⟨rfl, h8, t8⟩
  rw [dp_gone reason]
  rw [dpL_gone reason] at h8
  have b8 := b7.trans (Bk.belowT H7.out z0 t8)
  have z8 := b8.size
  have H8 := Lib.hid h8
  clear h8 t8
  have e8 := Lib.hid (E0.out.below b8 (Nat.le_refl _))
  go_wp2_with fail
  refine (is_any e8.out (some 9) (by decide) 110).mono ?_
  rintro e w9 ⟨rfl, hx9⟩
  rw [(by decide : (errCode (some 9) == 110) = true)]
  have b9 := b8.trans (hx9.mono z8)
  have z9 := b9.size
  have H9 := Lib.hid (H8.out.below hx9 (Nat.le_refl _))
  have e9 := Lib.hid (E0.out.below b9 (Nat.le_refl _))
  go_wp2_with fail
  refine (class_any H9.out 4).mono ?_
  rintro e w10 ⟨rfl, hx10⟩
  rw [nC_one]
  have b10 := b9.trans (hx10.mono z9)
  have z10 := b10.size
  have H10 := Lib.hid (H9.out.below hx10 (Nat.le_refl _))
  have e10 := Lib.hid (E0.out.below b10 (Nat.le_refl _))
  go_wp2_with fail
  refine (len_any H10.out).mono ?_
  rintro e w11 ⟨rfl, rfl⟩
  rw [len_one]
  go_wp2_with fail
  refine (move_any H10.out e10.out 2 2).mono ?_
  rintro e w11 ⟨rfl, h11, t11⟩
  rw [mv_nobody]
  rw [mvL_nobody] at h11
  have b11 := b10.trans (Bk.belowT H10.out z0 t11)
  have z11 := b11.size
  have H11 := Lib.hid h11
  clear h11 t11
  have e11 := Lib.hid (E0.out.below b11 (Nat.le_refl _))
  go_wp2_with fail
  refine (is_any e11.out (some 6) (by decide) 107).mono ?_
  rintro e w12 ⟨rfl, hx12⟩
  rw [(by decide : (errCode (some 6) == 107) = true)]
  have b12 := b11.trans (hx12.mono z11)
  have z12 := b12.size
  have H12 := Lib.hid (H11.out.below hx12 (Nat.le_refl _))
  have e12 := Lib.hid (E0.out.below b12 (Nat.le_refl _))
  go_wp2_with fail
  go_ret
  exact ⟨rfl, b12⟩

set_option maxHeartbeats 3200000 in
theorem roads_tt1 {w : World} {E : Nat → Addr} (hE : Errs allErr w E) (reason : Int) (hl : reason < 1) :
    Calls Tryd.prog 4 #[.bool true, .bool true, .int .i64 reason] w fun e w' => e = .returned (.bool true) ∧ Below w.heap.size w w' := by
  have HR := Lib.hid (show reason < 1 ∨ reason > 5 from .inl hl)
  have E0 := Lib.hid hE
  clear hE
  go_enter Tryd.func4, Tryd.ntmps4
  go_wp2_with fail
  refine (first_any _).mono ?_
  rintro e w0 ⟨rfl, b0⟩
  have z0 := b0.size
  have H1 := Lib.hid ((⟨Blk.new _ _ _, World.ownsRow_nil _ _ _ _⟩ : Bk (w0.alloc (.cells #[.slice none 0 0] 26)) w.heap.size w0.heap.size none 0 []))
  have b1 := b0.alloc z0 (.cells #[.slice none 0 0] 26)
  have z1 := b1.size
  have e1 := Lib.hid (E0.out.below b1 (Nat.le_refl _))
  go_wp2_with fail
  refine (accept_any H1.out (by decide) z1).mono ?_
  rintro e w2 ⟨rfl, A, C, h2, t2, _⟩
  rw [show (([] : List Pl).length : Int) + 1 = 1 from rfl]
  have b2 := b1.trans (Bk.belowT H1.out z0 t2)
  have z2 := b2.size
  have h2' : Bk w2 w.heap.size w0.heap.size A C [(1, 0)] := h2
  have H2 := Lib.hid h2'
  clear h2 h2' t2
  have e2 := Lib.hid (E0.out.below b2 (Nat.le_refl _))
  go_wp2_with fail
  refine (move_any H2.out e2.out 1 2).mono ?_
  rintro e w3 ⟨rfl, h3, t3⟩
  rw [(by decide : mvR [(1, 0)] 1 2 = none)]
  rw [(by decide : mvL [(1, 0)] 1 2 = [(2, 0)])] at h3
  simp only [errO]
  have b3 := b2.trans (Bk.belowT H2.out z0 t3)
  have z3 := b3.size
  have H3 := Lib.hid h3
  clear h3 t3
  have e3 := Lib.hid (E0.out.below b3 (Nat.le_refl _))
  go_wp2_with fail
  refine (drop_any H3.out e3.out 1 reason).mono ?_
  rintro e w4 ⟨rfl, h4, t4⟩
  rw [dp_out 2 reason HR.out]
  rw [dpL_out 2 reason HR.out] at h4
  have b4 := b3.trans (Bk.belowT H3.out z0 t4)
  have z4 := b4.size
  have H4 := Lib.hid h4
  clear h4 t4
  have e4 := Lib.hid (E0.out.below b4 (Nat.le_refl _))
  go_wp2_with fail
  refine (is_any e4.out (some 2) (by decide) 103).mono ?_
  rintro e w5 ⟨rfl, hx5⟩
  rw [(by decide : (errCode (some 2) == 103) = true)]
  have b5 := b4.trans (hx5.mono z4)
  have z5 := b5.size
  have H5 := Lib.hid (H4.out.below hx5 (Nat.le_refl _))
  have e5 := Lib.hid (E0.out.below b5 (Nat.le_refl _))
  go_wp2_with fail
  refine (drop_any H5.out e5.out 1 4).mono ?_
  rintro e w6 ⟨rfl, h6, t6⟩
  rw [dp_in 2 (by decide) 4 (by decide) (by decide)]
  rw [dpL_in 2 (by decide) 4 (by decide) (by decide)] at h6
  simp only [errO]
  have b6 := b5.trans (Bk.belowT H5.out z0 t6)
  have z6 := b6.size
  have H6 := Lib.hid h6
  clear h6 t6
  have e6 := Lib.hid (E0.out.below b6 (Nat.le_refl _))
  go_wp2_with fail
  refine (ofp_any H6.out e6.out 1).mono ?_
  rintro e w7 ⟨rfl, q, rfl⟩
  rw [of_one]
  have b7 := b6.trans (below_drewN (B := w.heap.size) (w := w6) q)
  have z7 := b7.size
  have H7 := Lib.hid (bk_drew H6.out q)
  have e7 := Lib.hid (E0.out.below b7 (Nat.le_refl _))
  go_wp2_with fail
  refine (move_any H7.out e7.out 1 2).mono ?_
  rintro e w8 ⟨rfl, h8, t8⟩
  rw [mv_gone 4]
  rw [mvL_gone 4] at h8
  have b8 := b7.trans (Bk.belowT H7.out z0 t8)
  have z8 := b8.size
  have H8 := Lib.hid h8
  clear h8 t8
  have e8 := Lib.hid (E0.out.below b8 (Nat.le_refl _))
  go_wp2_with fail
  refine (is_any e8.out (some 9) (by decide) 110).mono ?_
  rintro e w9 ⟨rfl, hx9⟩
  rw [(by decide : (errCode (some 9) == 110) = true)]
  have b9 := b8.trans (hx9.mono z8)
  have z9 := b9.size
  have H9 := Lib.hid (H8.out.below hx9 (Nat.le_refl _))
  have e9 := Lib.hid (E0.out.below b9 (Nat.le_refl _))
  go_wp2_with fail
  refine (drop_any H9.out e9.out 1 1).mono ?_
  rintro e w10 ⟨rfl, h10, t10⟩
  rw [dp_gone 4]
  rw [dpL_gone 4] at h10
  have b10 := b9.trans (Bk.belowT H9.out z0 t10)
  have z10 := b10.size
  have H10 := Lib.hid h10
  clear h10 t10
  have e10 := Lib.hid (E0.out.below b10 (Nat.le_refl _))
  go_wp2_with fail
  refine (is_any e10.out (some 9) (by decide) 110).mono ?_
  rintro e w11 ⟨rfl, hx11⟩
  rw [(by decide : (errCode (some 9) == 110) = true)]
  have b11 := b10.trans (hx11.mono z10)
  have z11 := b11.size
  have H11 := Lib.hid (H10.out.below hx11 (Nat.le_refl _))
  have e11 := Lib.hid (E0.out.below b11 (Nat.le_refl _))
  go_wp2_with fail
  refine (class_any H11.out 4).mono ?_
  rintro e w12 ⟨rfl, hx12⟩
  rw [nC_one]
  have b12 := b11.trans (hx12.mono z11)
  have z12 := b12.size
  have H12 := Lib.hid (H11.out.below hx12 (Nat.le_refl _))
  have e12 := Lib.hid (E0.out.below b12 (Nat.le_refl _))
  go_wp2_with fail
  refine (len_any H12.out).mono ?_
  rintro e w13 ⟨rfl, rfl⟩
  rw [len_one]
  go_wp2_with fail
  refine (move_any H12.out e12.out 2 2).mono ?_
  rintro e w13 ⟨rfl, h13, t13⟩
  rw [mv_nobody]
  rw [mvL_nobody] at h13
  have b13 := b12.trans (Bk.belowT H12.out z0 t13)
  have z13 := b13.size
  have H13 := Lib.hid h13
  clear h13 t13
  have e13 := Lib.hid (E0.out.below b13 (Nat.le_refl _))
  go_wp2_with fail
  refine (is_any e13.out (some 6) (by decide) 107).mono ?_
  rintro e w14 ⟨rfl, hx14⟩
  rw [(by decide : (errCode (some 6) == 107) = true)]
  have b14 := b13.trans (hx14.mono z13)
  have z14 := b14.size
  have H14 := Lib.hid (H13.out.below hx14 (Nat.le_refl _))
  have e14 := Lib.hid (E0.out.below b14 (Nat.le_refl _))
  go_wp2_with fail
  go_ret
  exact ⟨rfl, b14⟩

set_option maxHeartbeats 3200000 in
theorem roads_tt2 {w : World} {E : Nat → Addr} (hE : Errs allErr w E) (reason : Int) (hl : 5 < reason) (hl2 : 1 ≤ reason) :
    Calls Tryd.prog 4 #[.bool true, .bool true, .int .i64 reason] w fun e w' => e = .returned (.bool true) ∧ Below w.heap.size w w' := by
  have HR := Lib.hid (show reason < 1 ∨ reason > 5 from .inr hl)
  have E0 := Lib.hid hE
  clear hE
  go_enter Tryd.func4, Tryd.ntmps4
  go_wp2_with fail
  refine (first_any _).mono ?_
  rintro e w0 ⟨rfl, b0⟩
  have z0 := b0.size
  have H1 := Lib.hid ((⟨Blk.new _ _ _, World.ownsRow_nil _ _ _ _⟩ : Bk (w0.alloc (.cells #[.slice none 0 0] 26)) w.heap.size w0.heap.size none 0 []))
  have b1 := b0.alloc z0 (.cells #[.slice none 0 0] 26)
  have z1 := b1.size
  have e1 := Lib.hid (E0.out.below b1 (Nat.le_refl _))
  go_wp2_with fail
  refine (accept_any H1.out (by decide) z1).mono ?_
  rintro e w2 ⟨rfl, A, C, h2, t2, _⟩
  rw [show (([] : List Pl).length : Int) + 1 = 1 from rfl]
  have b2 := b1.trans (Bk.belowT H1.out z0 t2)
  have z2 := b2.size
  have h2' : Bk w2 w.heap.size w0.heap.size A C [(1, 0)] := h2
  have H2 := Lib.hid h2'
  clear h2 h2' t2
  have e2 := Lib.hid (E0.out.below b2 (Nat.le_refl _))
  go_wp2_with fail
  refine (move_any H2.out e2.out 1 2).mono ?_
  rintro e w3 ⟨rfl, h3, t3⟩
  rw [(by decide : mvR [(1, 0)] 1 2 = none)]
  rw [(by decide : mvL [(1, 0)] 1 2 = [(2, 0)])] at h3
  simp only [errO]
  have b3 := b2.trans (Bk.belowT H2.out z0 t3)
  have z3 := b3.size
  have H3 := Lib.hid h3
  clear h3 t3
  have e3 := Lib.hid (E0.out.below b3 (Nat.le_refl _))
  go_wp2_with fail
  refine (drop_any H3.out e3.out 1 reason).mono ?_
  rintro e w4 ⟨rfl, h4, t4⟩
  rw [dp_out 2 reason HR.out]
  rw [dpL_out 2 reason HR.out] at h4
  have b4 := b3.trans (Bk.belowT H3.out z0 t4)
  have z4 := b4.size
  have H4 := Lib.hid h4
  clear h4 t4
  have e4 := Lib.hid (E0.out.below b4 (Nat.le_refl _))
  go_wp2_with fail
  refine (is_any e4.out (some 2) (by decide) 103).mono ?_
  rintro e w5 ⟨rfl, hx5⟩
  rw [(by decide : (errCode (some 2) == 103) = true)]
  have b5 := b4.trans (hx5.mono z4)
  have z5 := b5.size
  have H5 := Lib.hid (H4.out.below hx5 (Nat.le_refl _))
  have e5 := Lib.hid (E0.out.below b5 (Nat.le_refl _))
  go_wp2_with fail
  refine (drop_any H5.out e5.out 1 4).mono ?_
  rintro e w6 ⟨rfl, h6, t6⟩
  rw [dp_in 2 (by decide) 4 (by decide) (by decide)]
  rw [dpL_in 2 (by decide) 4 (by decide) (by decide)] at h6
  simp only [errO]
  have b6 := b5.trans (Bk.belowT H5.out z0 t6)
  have z6 := b6.size
  have H6 := Lib.hid h6
  clear h6 t6
  have e6 := Lib.hid (E0.out.below b6 (Nat.le_refl _))
  go_wp2_with fail
  refine (ofp_any H6.out e6.out 1).mono ?_
  rintro e w7 ⟨rfl, q, rfl⟩
  rw [of_one]
  have b7 := b6.trans (below_drewN (B := w.heap.size) (w := w6) q)
  have z7 := b7.size
  have H7 := Lib.hid (bk_drew H6.out q)
  have e7 := Lib.hid (E0.out.below b7 (Nat.le_refl _))
  go_wp2_with fail
  refine (move_any H7.out e7.out 1 2).mono ?_
  rintro e w8 ⟨rfl, h8, t8⟩
  rw [mv_gone 4]
  rw [mvL_gone 4] at h8
  have b8 := b7.trans (Bk.belowT H7.out z0 t8)
  have z8 := b8.size
  have H8 := Lib.hid h8
  clear h8 t8
  have e8 := Lib.hid (E0.out.below b8 (Nat.le_refl _))
  go_wp2_with fail
  refine (is_any e8.out (some 9) (by decide) 110).mono ?_
  rintro e w9 ⟨rfl, hx9⟩
  rw [(by decide : (errCode (some 9) == 110) = true)]
  have b9 := b8.trans (hx9.mono z8)
  have z9 := b9.size
  have H9 := Lib.hid (H8.out.below hx9 (Nat.le_refl _))
  have e9 := Lib.hid (E0.out.below b9 (Nat.le_refl _))
  go_wp2_with fail
  refine (drop_any H9.out e9.out 1 1).mono ?_
  rintro e w10 ⟨rfl, h10, t10⟩
  rw [dp_gone 4]
  rw [dpL_gone 4] at h10
  have b10 := b9.trans (Bk.belowT H9.out z0 t10)
  have z10 := b10.size
  have H10 := Lib.hid h10
  clear h10 t10
  have e10 := Lib.hid (E0.out.below b10 (Nat.le_refl _))
  go_wp2_with fail
  refine (is_any e10.out (some 9) (by decide) 110).mono ?_
  rintro e w11 ⟨rfl, hx11⟩
  rw [(by decide : (errCode (some 9) == 110) = true)]
  have b11 := b10.trans (hx11.mono z10)
  have z11 := b11.size
  have H11 := Lib.hid (H10.out.below hx11 (Nat.le_refl _))
  have e11 := Lib.hid (E0.out.below b11 (Nat.le_refl _))
  go_wp2_with fail
  refine (class_any H11.out 4).mono ?_
  rintro e w12 ⟨rfl, hx12⟩
  rw [nC_one]
  have b12 := b11.trans (hx12.mono z11)
  have z12 := b12.size
  have H12 := Lib.hid (H11.out.below hx12 (Nat.le_refl _))
  have e12 := Lib.hid (E0.out.below b12 (Nat.le_refl _))
  go_wp2_with fail
  refine (len_any H12.out).mono ?_
  rintro e w13 ⟨rfl, rfl⟩
  rw [len_one]
  go_wp2_with fail
  refine (move_any H12.out e12.out 2 2).mono ?_
  rintro e w13 ⟨rfl, h13, t13⟩
  rw [mv_nobody]
  rw [mvL_nobody] at h13
  have b13 := b12.trans (Bk.belowT H12.out z0 t13)
  have z13 := b13.size
  have H13 := Lib.hid h13
  clear h13 t13
  have e13 := Lib.hid (E0.out.below b13 (Nat.le_refl _))
  go_wp2_with fail
  refine (is_any e13.out (some 6) (by decide) 107).mono ?_
  rintro e w14 ⟨rfl, hx14⟩
  rw [(by decide : (errCode (some 6) == 107) = true)]
  have b14 := b13.trans (hx14.mono z13)
  have z14 := b14.size
  have H14 := Lib.hid (H13.out.below hx14 (Nat.le_refl _))
  have e14 := Lib.hid (E0.out.below b14 (Nat.le_refl _))
  go_wp2_with fail
  go_ret
  exact ⟨rfl, b14⟩

theorem countRoads_walk (w : World) {E : Nat → Addr} (hE : Errs allErr w E) (drop fly : Bool) (reason : Int) (hw : (Lit.int .i64 reason).wf = true) :
    Calls Tryd.prog 4 #[.bool drop, .bool fly, .int .i64 reason] w fun e w' => e = .returned (.bool true) ∧ Below w.heap.size w w' := by
  by_cases hr : reason < 1
  · rcases drop <;> rcases fly
    · exact roads_ff1 hE reason hr
    · exact roads_ft1 hE reason hr
    · exact roads_tf1 hE reason hr
    · exact roads_tt1 hE reason hr
  by_cases hr2 : 5 < reason
  · rcases drop <;> rcases fly
    · exact roads_ff2 hE reason hr2 (by omega)
    · exact roads_ft2 hE reason hr2 (by omega)
    · exact roads_tf2 hE reason hr2 (by omega)
    · exact roads_tt2 hE reason hr2 (by omega)
  · rcases drop <;> rcases fly
    · exact roads_ff0 hE reason (by omega) (by omega)
    · exact roads_ft0 hE reason (by omega) (by omega)
    · exact roads_tf0 hE reason (by omega) (by omega)
    · exact roads_tt0 hE reason (by omega) (by omega)
end Go.Proofs.YthppbicfemgoaaaDoor
