/-
  The walk of GramBuilt. Printed by gen_built.py.
-/
import Derived.Test.YtoagmehgiaamlaaDoorGramBuiltPlain
import Derived.Test.YtoagmehgiaamlaaDoorMa
namespace Go.Proofs.YtoagmehgiaamlaaDoor
open Go.ChangeShapes Go.WideShapes Go.ChangeAt Go.RowKit
set_option linter.unusedVariables false

theorem shut_in {p : Prop} (h : p) : Shut p := h
theorem own_one (w : World) (base : Nat) (hb : base ≤ w.heap.size) (z : Int) (x : UInt8) (hz : z = (x.toNat : Int)) : OwnU8 (w.alloc (.cells #[.int .u8 z] 5)) base (some ⟨w.heap.size, 0, none⟩) 1 1 [x] := by
  subst hz
  refine ⟨rfl, .inr ⟨w.heap.size, 1, _, rfl, hb, Blk.new _ _ _, Nat.le_refl _, by simp [maxLen], rfl, ?_⟩⟩
  simp [u8v]
theorem bRun_body (start : Int) (zs : List Int) (more eosp : Bool) (j : Nat) : (bRun start zs more eosp).body j = [UInt8.ofNat j] := rfl
theorem sentK_pos {start : Int} {zs : List Int} {more eosp : Bool} {N : Nat} (h : 0 < N) : sentK (bRun start zs more eosp) N = ⟨5, (List.range N).map (seqAt (bRun start zs more eosp)), List.replicate N false, more, eosp, (List.range N).map (bRun start zs more eosp).body⟩ := by
  unfold sentK
  rw [if_neg (by omega), if_neg (by omega), if_neg (by omega)]
  rfl
theorem q_res {d s t : Nat → UInt8} {q : Int} {more eosp : Bool} {x : UInt8} (h0 : 0 ≤ q) (h1 : q < 4096) : qres (fA d s t) 5 q false more eosp 1 [x] = frameB d s t 5 q false more eosp [x] := by
  unfold qres
  rw [show qokB 5 q 1 = true from decide_eq_true ⟨by decide, by decide, h0, h1, by decide⟩]
  rfl

set_option maxRecDepth 100000 in
set_option maxHeartbeats 16000000 in
theorem gramBuilt_walk (w : World) {E : Nat → Addr} (hE : Errs allErr w E) (a0 : Int) (w0 : (Lit.int .i64 a0).wf = true) (As : Option Addr) (N Cs : Nat) (zs : List Int) (hx : Row w 1 As N Cs (zs.map (Value.int .i64))) (hwf : ∀ n ∈ zs, (Lit.int .i64 n).wf = true)
    (a2 : Int) (w2 : (Lit.int .i64 a2).wf = true) (a3 : Int) (w3 : (Lit.int .i64 a3).wf = true) (more eosp : Bool) :
    Calls Tryd.prog 5 #[.int .i64 a0, .slice As N Cs, .int .i64 a2, .int .i64 a3, .bool more, .bool eosp] w fun e w' => e = .returned (.bool true) ∧ Below w.heap.size w w' := by
  have hmx := hx.len_cap
  obtain ⟨hb0, hb0'⟩ := bounds_i64 w0
  obtain ⟨hb2, hb2'⟩ := bounds_i64 w2
  obtain ⟨hb3, hb3'⟩ := bounds_i64 w3
  clear w0 w2 w3
  have HX := Lib.hid hx
  have HE := Lib.hid hE
  have HWF := Lib.hid hwf
  have HZL := Lib.hid (show zs.length = N by simpa using hx.1)
  clear hE hx hwf
  have N0 := Lib.hid (fun w => number_any a0 4096 w (by decide) (by decide) hb0 hb0')
  have s0 := Int.emod_nonneg a0 (show (4096 : Int) ≠ 0 by omega)
  have s1 := Int.emod_lt_of_pos a0 (show (0 : Int) < 4096 by omega)
  generalize a0 % 4096 = start at *
  clear hb0 hb0'
  go_enter Tryd.func5, Tryd.ntmps5
  go_wp2_with fail
  refine (first_any HE.out).mono ?_
  rintro e w1 ⟨rfl, hw1⟩
  have HB1 := Lib.hid hw1
  have z1 := hw1.size
  clear hw1
  go_wp2_with fail
  refine (N0.out w1).mono ?_
  rintro e wq ⟨rfl, rfl⟩
  by_cases hN0 : N = 0
  case pos =>
    subst hN0
    go_wp2_with fail
    go_ret
    exact ⟨rfl, HB1.out⟩
  case neg =>
  by_cases hN20 : 20 < N
  case pos =>
    have g1 : decide ((20 : Int) < (N : Int)) = true := decide_eq_true (by omega)
    have g2 : ((N : Int) == 0) = false := by simp; omega
    go_wp2_with fail
    go_ret
    exact ⟨rfl, HB1.out⟩
  case neg =>
  have hN : N ≤ 20 := by omega
  have hNp : 0 < N := by omega
  have N2 := Lib.hid (fun w => number_any a2 (2 * (N : Int)) w (by omega) (by omega) hb2 hb2')
  have N3 := Lib.hid (fun w => number_any a3 4 w (by decide) (by decide) hb3 hb3')
  have t0 := Int.emod_nonneg a2 (show (2 * (N : Int)) ≠ 0 by omega)
  have t1 := Int.emod_lt_of_pos a2 (show (0 : Int) < 2 * (N : Int) by omega)
  obtain ⟨bad, hbad⟩ : ∃ bad : Nat, a2 % (2 * (N : Int)) = bad := ⟨(a2 % (2 * (N : Int))).toNat, by omega⟩
  obtain ⟨how, hhow, eH⟩ := number_nat a3 4 (by decide)
  rw [hbad] at N2 t0 t1
  rw [show a3 % 4 = (how : Int) from eH] at N3
  have hb40 : bad < 40 := by omega
  clear hbad eH hb2 hb2' hb3 hb3' t0
  have eM : IntKind.i64.wrap (2 * (N : Int)) = 2 * (N : Int) := IntWalk.i64_in _ (by omega)
  have g1 : decide ((20 : Int) < (N : Int)) = false := decide_eq_false (by omega)
  have g2 : ((N : Int) == 0) = false := by simp; omega
  have HR := Lib.hid (rules_any start 64 w1)
  go_wp2_with fail
  refine HR.out.mono ?_
  rintro e w2 ⟨rfl, hb2⟩
  have HB2 := Lib.hid (HB1.out.trans (hb2.mono z1))
  have z2 := HB2.out.size
  clear hb2
  unfold ruv
  go_wp2_with (refine wpList_store_blk _ (by rfl) 30 _ _ rfl w2.heap.size (rucells (mS start 64 true)) rfl rfl 30 _ (Blk.new _ _ _) (by kernel_rfl) rfl (by simp [rucells, Value.oneCell']) ?_; intro w3 hk3 hg3)
  have hb3 : Below w2.heap.size w2 w3 := Below.grown ((Below.refl _ _).alloc (Nat.le_refl _) _) hg3 (by simp) (by simp)
  have HB3 := Lib.hid (HB2.out.trans (hb3.mono z2))
  have HM3 := Lib.hid hk3
  have z3 := HB3.out.size
  clear hk3 hg3 hb3
  generalize w2.heap.size = pm at *
  have l3 := HM3.out.lt
  refine (N2.out w3).mono ?_
  rintro e wq ⟨rfl, rfl⟩
  go_wp2_with fail
  refine (N3.out w3).mono ?_
  rintro e wq ⟨rfl, rfl⟩
  go_wp2_with fail
  clear eM
  obtain ⟨r, hr⟩ : ∃ r, bRun start zs more eosp = r := ⟨_, rfl⟩
  have HRR := Lib.hid hr
  clear hr
  go_loopw [15, 16, 17, 18] (fun qv lv sv iv wr => ∃ (i : Nat) (A : Option Addr) (C : Nat) (A' : Option Addr) (C' : Nat), i ≤ N ∧ qv = .int .i64 (qsum zs i : Int) ∧ iv = .int .i64 i ∧ lv = .slice A i C ∧ sv = .slice A' i C' ∧ OwnP wr w3.heap.size (.slice A i C) (xL r bad how i) ∧ OwnI wr w3.heap.size A' i C' ((List.range i).map (seqAt r)) ∧ Below w3.heap.size w3 wr)
    (fun _ _ _ iv _ => N - (intOf iv).toNat)
  case atStart => exact ⟨0, none, 0, none, 0, Nat.zero_le _, rfl, rfl, rfl, rfl, ownP_nil _ _, ownI_nil _ _, Below.refl _ _⟩
  case round =>
    obtain ⟨i, A, C, A', C', hi, rfl, rfl, rfl, rfl, hO, hI, hb⟩ := hrel
    have HO := Lib.hid hO
    have HI := Lib.hid hI
    have HB := Lib.hid hb
    have z := hb.size
    clear hO hI hb
    by_cases hiN : i < N
    case pos =>
      have hq60 := qsum_le zs i
      have HQN := Lib.hid (show qsum zs (i + 1) = qsum zs i + ((zs.getD i 0) % 3).toNat + 1 from rfl)
      have HSQ := Lib.hid (show seqAt r i = (start + (qsum zs i : Int)) % 4096 by rw [← HRR.out]; rfl)
      generalize hqi : qsum zs i = qi at *
      have HQI := Lib.hid hqi
      obtain ⟨bs, os, rfl, lbs, hcs⟩ := HX.out.at_ (by omega)
      obtain ⟨zi, hzi⟩ : ∃ zi, zs[i]? = some zi := ⟨_, List.getElem?_eq_getElem (by rw [HZL.out]; exact hiN)⟩
      have hzw := bounds_i64 (HWF.out zi (List.mem_of_getElem? hzi))
      have NZ := Lib.hid (fun w => number_any zi 3 w (by decide) (by decide) hzw.1 hzw.2)
      have y0 := Int.emod_nonneg zi (show (3 : Int) ≠ 0 by omega)
      have y1 := Int.emod_lt_of_pos zi (show (0 : Int) < 3 by omega)
      rw [show zs.getD i 0 = zi by rw [List.getD_eq_getElem?_getD, hzi]; rfl] at HQN
      have HCZ := Lib.hid (hcs i _ (by rw [List.getElem?_map, hzi]; rfl))
      clear hcs hzw hzi
      generalize zi % 3 = yi at *
      have HYI := Lib.hid (show (qsum zs (i + 1) : Int) = (qi : Int) + yi + 1 by rw [HQN.out]; omega)
      have p1 : (i : Int) < (N : Int) := by omega
      have p2 : IntKind.i64.wrap ((i : Int) + 1) = (i : Int) + 1 := IntWalk.i64_in _ (by omega)
      have p3 : IntKind.i64.wrap (start + (qi : Int)) = start + (qi : Int) := IntWalk.i64_in _ (by omega)
      have p4 : (0 : Int) ≤ start + (qi : Int) := by omega
      have p5 : IntKind.u8.wrap (i : Int) = (i : Int) := IntWalk.u8_in _ (by omega)
      have p6 : IntKind.i64.wrap ((qi : Int) + yi) = (qi : Int) + yi := IntWalk.i64_in _ (by omega)
      have p7 : IntKind.i64.wrap ((qi : Int) + yi + 1) = (qi : Int) + yi + 1 := IntWalk.i64_in _ (by omega)
      have p8 : IntKind.i64.wrap (start + 64) = start + 64 := IntWalk.i64_in _ (by omega)
      have p9 : IntKind.i64.wrap (start + 4095) = start + 4095 := IntWalk.i64_in _ (by omega)
      have HIN := Lib.hid hiN
      have HU8 := Lib.hid (show (i : Int) = ((UInt8.ofNat i).toNat : Int) by rw [UInt8.toNat_ofNat', Nat.mod_eq_of_lt (by omega)])
      clear hi hiN hqi
      have HMR := Lib.hid (HM3.out.below HB.out l3)
      have HMA := Lib.hid (fun (x : World) (h : Below w3.heap.size w3 x) => HM3.out.below h l3)
      obtain ⟨sq, hsq⟩ : ∃ sq, (start + (qi : Int)) % 4096 = sq := ⟨_, rfl⟩
      have hsq0 : 0 ≤ sq ∧ sq < 4096 := by omega
      have HSQE := Lib.hid hsq
      have HSQ0 := Lib.hid hsq0
      rw [hsq] at HSQ
      clear hsq0
      have HZ0 := Lib.hid (xL_len r bad how i)
      have HXS := Lib.hid (xL_succ r bad how i)
      have HSS := Lib.hid (show (List.range (i + 1)).map (seqAt r) = (List.range i).map (seqAt r) ++ [sq] by rw [List.range_succ, List.map_append, ← HSQ.out]; rfl)
      have HXL := Lib.hid (show (xAt r bad how i).length = 27 by rw [← HRR.out]; exact xAt_len _ _ _ _ _ _ _)
      have hq5 := Blk.new (wr.alloc (.cells #[.int .u8 (i : Int)] 5)) #[.int .u8 0, .int .u8 0, .int .u8 0, .int .u8 0, .int .u8 0, .int .u8 0, .int .u8 0, .int .u8 0, .int .u8 0, .int .u8 0, .int .u8 0, .int .u8 0, .int .u8 0, .int .u8 0, .int .u8 0, .int .u8 0, .int .u8 0, .int .u8 0, .int .i64 0, .int .i64 0, .bool false, .bool false, .bool false, .slice none 0 0] 35
      rw [show (wr.alloc (.cells #[.int .u8 (i : Int)] 5)).heap.size = wr.heap.size + 1 by simp] at hq5
      have hB5 : BltS w3 w3.heap.size (wr.heap.size + 1) #[.int .u8 0, .int .u8 0, .int .u8 0, .int .u8 0, .int .u8 0, .int .u8 0, .int .u8 0, .int .u8 0, .int .u8 0, .int .u8 0, .int .u8 0, .int .u8 0, .int .u8 0, .int .u8 0, .int .u8 0, .int .u8 0, .int .u8 0, .int .u8 0, .int .i64 0, .int .i64 0, .bool false, .bool false, .bool false, .slice none 0 0] (some ⟨wr.heap.size, 0, none⟩) [UInt8.ofNat i] A' i C' ((List.range i).map (seqAt r)) A i C (xL r bad how i) ((wr.alloc (.cells #[.int .u8 (i : Int)] 5)).alloc (.cells #[.int .u8 0, .int .u8 0, .int .u8 0, .int .u8 0, .int .u8 0, .int .u8 0, .int .u8 0, .int .u8 0, .int .u8 0, .int .u8 0, .int .u8 0, .int .u8 0, .int .u8 0, .int .u8 0, .int .u8 0, .int .u8 0, .int .u8 0, .int .u8 0, .int .i64 0, .int .i64 0, .bool false, .bool false, .bool false, .slice none 0 0] 35)) :=
        ⟨hq5, (own_one wr w3.heap.size z (i : Int) (UInt8.ofNat i) HU8.out).alloc _, (HI.out.alloc _).alloc _, (HO.out.alloc _).alloc _, (HB.out.alloc z _).alloc (by simp; omega) _, by omega⟩
      have HB5z := Lib.hid hB5
      clear hB5 hq5

      have pp8 : (0 : Int) ≤ start + 64 := by omega
      have pp9 : (0 : Int) ≤ start + 4095 := by omega
      go_wp2_with (first
        | (refine wpList_load_mid (by rfl) 26 (.tmp 62) rfl pm 6 rfl [.int .u8 2, .int .u8 2, .int .u8 0, .int .u8 0, .int .u8 0, .int .u8 0] _ ((HMR.out.alloc _).range 6 [.int .u8 2, .int .u8 2, .int .u8 0, .int .u8 0, .int .u8 0, .int .u8 0] (by rfl)) Tryd.underlying26 rfl (by kernel_rfl) ?_)
        | (refine wpList_load_mid (by rfl) 26 (.tmp 62) rfl pm 6 rfl [.int .u8 2, .int .u8 2, .int .u8 0, .int .u8 0, .int .u8 0, .int .u8 0] _ (HMR.out.range 6 [.int .u8 2, .int .u8 2, .int .u8 0, .int .u8 0, .int .u8 0, .int .u8 0] (by rfl)) Tryd.underlying26 rfl (by kernel_rfl) ?_)
        | (refine wpList_load_mid (by rfl) 26 (.tmp 64) rfl pm 0 rfl [.int .u8 2, .int .u8 1, .int .u8 0, .int .u8 0, .int .u8 0, .int .u8 0] _ (HMR.out.range 0 [.int .u8 2, .int .u8 1, .int .u8 0, .int .u8 0, .int .u8 0, .int .u8 0] (by rfl)) Tryd.underlying26 rfl (by kernel_rfl) ?_)
        | (refine wpList_load_mid (by rfl) 26 (.tmp 66) rfl pm 0 rfl [.int .u8 2, .int .u8 1, .int .u8 0, .int .u8 0, .int .u8 0, .int .u8 0] _ (HMR.out.range 0 [.int .u8 2, .int .u8 1, .int .u8 0, .int .u8 0, .int .u8 0, .int .u8 0] (by rfl)) Tryd.underlying26 rfl (by kernel_rfl) ?_)
        | (refine wpList_store_blk _ (by rfl) 35 _ _ rfl (wr.heap.size + 1) (qcells (fA (adr2 2 2) (adr2 2 1) (adr2 2 1)) 5 sq false more eosp (some ⟨wr.heap.size, 0, none⟩) 1 1) rfl rfl 35 _ HB5z.out.f (by kernel_rfl) rfl (qcells_one _ _ _ _ _ _ _ _ _) ?_; intro w5 hk5 hg5; have HB5 := Lib.hid (HB5z.out.setf hk5 hg5); have c19a : w5.cell? ⟨wr.heap.size + 1, 19, none⟩ = some (.int .i64 sq) := HB5.out.f.cell 19; have hl5 : w3.heap.size ≤ w5.heap.size := HB5.out.bel.size; clear hk5 hg5)
        | (at_builtin; (refine append_int _ rfl (.tmp 78) (.tmp 81) rfl w3.heap.size A' i C' ((List.range i).map (seqAt r)) rfl (OwnI.alloc HB5.out.o1 _) _ 1 1 [sq] rfl (row_int1' _ _ _ _ (by simp)) (by have := HIN.out; omega) (by simp; omega) ?_; intro A6 C6 w6 ho6 hg6 _; have HB6 := Lib.hid (BltS.app1 (HB5.out.below ((Below.refl _ _).alloc (Nat.le_refl _) _)) ho6 hg6); have c19b : w6.cell? ⟨wr.heap.size + 1, 19, none⟩ = some (.int .i64 sq) := HB6.out.f.cell 19; have f19b := HB6.out.f.frozen 19; have HB7a := Lib.hid (HB6.out.set1 (fc' := (qcells (fA (adr2 2 2) (adr2 2 1) (adr2 2 1)) 5 ((start + 64) % 4096) false more eosp (some ⟨wr.heap.size, 0, none⟩) 1 1)) 19 (.int .i64 ((start + 64) % 4096)) rfl); have HB7b := Lib.hid (HB6.out.set1 (fc' := (qcells (fA (adr2 2 2) (adr2 2 1) (adr2 2 1)) 5 ((start + 4095) % 4096) false more eosp (some ⟨wr.heap.size, 0, none⟩) 1 1)) 19 (.int .i64 ((start + 4095) % 4096)) rfl); have HM6 := Lib.hid (HMA.out _ HB6.out.bel); clear ho6 hg6; refine Shut.out ?_)))
      by_cases hib : i = bad
      case neg =>
        as_aux_lemma =>
        have HXE := Lib.hid (show xAt r bad how i = frameB (adr2 2 2) (adr2 2 1) (adr2 2 1) 5 sq false more eosp [UInt8.ofNat i] by unfold xAt frAt; rw [if_neg hib, ← HSQ.out, ← HRR.out]; rfl)
        have hc : ((i : Int) == (bad : Int)) = false := by simp; omega
        have HIB := Lib.hid hib
        clear hib
        refine shut_in ?_
        go_wp2_with (first
                | (refine wpList_store_in _ (by rfl) 26 _ _ rfl (wr.heap.size + 1) 0 _ rfl rfl 35 _ (qcells (fA (adr2 2 3) (adr2 2 1) (adr2 2 1)) 5 sq false more eosp (some ⟨wr.heap.size, 0, none⟩) 1 1) HB6.out.f (by kernel_rfl) (by show 0 + 6 ≤ 24; decide) (by simp [Value.oneCell']) (by rfl) ?_; intro w7 hk7 hg7; have HB7 := Lib.hid (HB6.out.setf hk7 hg7); clear hk7 hg7)
                | (refine wpList_load_mid (by rfl) 26 (.tmp 87) rfl pm 6 rfl [.int .u8 2, .int .u8 2, .int .u8 0, .int .u8 0, .int .u8 0, .int .u8 0] _ (HM6.out.range 6 [.int .u8 2, .int .u8 2, .int .u8 0, .int .u8 0, .int .u8 0, .int .u8 0] (by rfl)) Tryd.underlying26 rfl (by kernel_rfl) ?_)
                | (refine wpList_store_in _ (by rfl) 26 _ _ rfl (wr.heap.size + 1) 6 _ rfl rfl 35 _ (qcells (fA (adr2 2 2) (adr2 2 2) (adr2 2 1)) 5 sq false more eosp (some ⟨wr.heap.size, 0, none⟩) 1 1) HB6.out.f (by kernel_rfl) (by show 6 + 6 ≤ 24; decide) (by simp [Value.oneCell']) (by rfl) ?_; intro w7 hk7 hg7; have HB7 := Lib.hid (HB6.out.setf hk7 hg7); clear hk7 hg7)
                | (refine wpList_load_blk _ (by rfl) 35 _ rfl (wr.heap.size + 1) rfl 35 _ _ HB7.out.f Tryd.underlying35 rfl (by kernel_rfl) ?_)
                | (refine wpList_load_blk _ (by rfl) 35 _ rfl (wr.heap.size + 1) rfl 35 _ _ HB7a.out.f Tryd.underlying35 rfl (by kernel_rfl) ?_)
                | (refine wpList_load_blk _ (by rfl) 35 _ rfl (wr.heap.size + 1) rfl 35 _ _ HB7b.out.f Tryd.underlying35 rfl (by kernel_rfl) ?_)
                | (refine wpList_load_blk _ (by rfl) 35 _ rfl (wr.heap.size + 1) rfl 35 _ _ HB6.out.f Tryd.underlying35 rfl (by kernel_rfl) ?_))
        as_aux_lemma =>
          have HQ := Lib.hid (rqosBytes_any (fA (adr2 2 2) (adr2 2 1) (adr2 2 1)) 5 sq false more eosp (some ⟨wr.heap.size, 0, none⟩) 1 1 [UInt8.ofNat i] _ HB6.out.ob.row)
          rw [q_res (HSQ0.out).1 (HSQ0.out).2, ← HXE.out] at HQ
          unfold qv at HQ
          refine HQ.out.mono ?_
          rintro e w8 ⟨A8, n8, C8, rfl, ho8, hb8⟩
          have hn8 : n8 = 27 := by have := ho8.len; rw [HXL.out] at this; exact this.symm
          subst hn8
          have HS8 := Lib.hid (HB6.out.below hb8)
          have hb0 := (HB6.out.bel).size
          have HW8 := Lib.hid (ho8.base_le (b' := w3.heap.size) hb0)
          have z8 := HS8.out.bel.size
          clear ho8 hb8 hb0
          go_wp2_with (at_builtin; (refine app_part2 _ rfl (.tmp 111) (.tmp 113) rfl w3.heap.size A i C _ HZ0.out.symm rfl (HS8.out.o3.alloc _) (by rw [HZ0.out]; have := HIN.out; omega) A8 27 C8 _ HXL.out (HW8.out.alloc _) (some ⟨w8.heap.size, 0, none⟩) 1 rfl (row_slice _ _ _) (by simp; omega) ?_; intro A9 C9 w9 ho9 hb9 hk9; have HO9 := Lib.hid ho9; have HI9 := Lib.hid (hk9 _ _ _ _ (HS8.out.o1.alloc _)); have hbb := HS8.out.bel.trans (((Below.refl w8.heap.size w8).alloc (Nat.le_refl _) (.cells #[.slice A8 27 C8] 22)).mono z8); have HB9 := Lib.hid (hbb.trans hb9); have c9 := (HB3.out.trans (HB9.out.mono z3)).cell (p := ⟨bs, os + i, none⟩) lbs; rw [HCZ.out] at c9; clear ho9 hb9 hbb hk9))
          refine (NZ.out w9).mono ?_
          rintro e wq ⟨rfl, rfl⟩
          go_wp2_with fail
          refine ⟨?_, by simp [intOf]; have := HIN.out; omega⟩
          exact ⟨i + 1, A9, C9, A6, C6, HIN.out, by rw [HYI.out], by simp, rfl, rfl, by rw [HXS.out]; exact HO9.out, by rw [HSS.out]; exact HI9.out, HB9.out⟩
      case pos =>
        rcases (show how = 0 ∨ how = 1 ∨ how = 2 ∨ how = 3 by omega) with hh | hh | hh | hh
        · as_aux_lemma =>
          have HXE := Lib.hid (show xAt r bad how i = frameB (adr2 2 3) (adr2 2 1) (adr2 2 1) 5 sq false more eosp [UInt8.ofNat i] by subst hib; subst hh; unfold xAt badB; rw [if_pos rfl, if_pos rfl, ← HSQ.out, ← HRR.out]; rfl)
          have hc : ((i : Int) == (bad : Int)) = true := by simp; omega
          have e0 : ((how : Int) == 0) = true := by simp; omega
          have HHH := Lib.hid hh
          have HIB := Lib.hid hib
          clear hib hh
          refine shut_in ?_
          go_wp2_with (first
                  | (refine wpList_store_in _ (by rfl) 26 _ _ rfl (wr.heap.size + 1) 0 _ rfl rfl 35 _ (qcells (fA (adr2 2 3) (adr2 2 1) (adr2 2 1)) 5 sq false more eosp (some ⟨wr.heap.size, 0, none⟩) 1 1) HB6.out.f (by kernel_rfl) (by show 0 + 6 ≤ 24; decide) (by simp [Value.oneCell']) (by rfl) ?_; intro w7 hk7 hg7; have HB7 := Lib.hid (HB6.out.setf hk7 hg7); clear hk7 hg7)
                  | (refine wpList_load_mid (by rfl) 26 (.tmp 87) rfl pm 6 rfl [.int .u8 2, .int .u8 2, .int .u8 0, .int .u8 0, .int .u8 0, .int .u8 0] _ (HM6.out.range 6 [.int .u8 2, .int .u8 2, .int .u8 0, .int .u8 0, .int .u8 0, .int .u8 0] (by rfl)) Tryd.underlying26 rfl (by kernel_rfl) ?_)
                  | (refine wpList_store_in _ (by rfl) 26 _ _ rfl (wr.heap.size + 1) 6 _ rfl rfl 35 _ (qcells (fA (adr2 2 2) (adr2 2 2) (adr2 2 1)) 5 sq false more eosp (some ⟨wr.heap.size, 0, none⟩) 1 1) HB6.out.f (by kernel_rfl) (by show 6 + 6 ≤ 24; decide) (by simp [Value.oneCell']) (by rfl) ?_; intro w7 hk7 hg7; have HB7 := Lib.hid (HB6.out.setf hk7 hg7); clear hk7 hg7)
                  | (refine wpList_load_blk _ (by rfl) 35 _ rfl (wr.heap.size + 1) rfl 35 _ _ HB7.out.f Tryd.underlying35 rfl (by kernel_rfl) ?_)
                  | (refine wpList_load_blk _ (by rfl) 35 _ rfl (wr.heap.size + 1) rfl 35 _ _ HB7a.out.f Tryd.underlying35 rfl (by kernel_rfl) ?_)
                  | (refine wpList_load_blk _ (by rfl) 35 _ rfl (wr.heap.size + 1) rfl 35 _ _ HB7b.out.f Tryd.underlying35 rfl (by kernel_rfl) ?_)
                  | (refine wpList_load_blk _ (by rfl) 35 _ rfl (wr.heap.size + 1) rfl 35 _ _ HB6.out.f Tryd.underlying35 rfl (by kernel_rfl) ?_))
          as_aux_lemma =>
            have HQ := Lib.hid (rqosBytes_any (fA (adr2 2 3) (adr2 2 1) (adr2 2 1)) 5 sq false more eosp (some ⟨wr.heap.size, 0, none⟩) 1 1 [UInt8.ofNat i] _ HB7.out.ob.row)
            rw [q_res (HSQ0.out).1 (HSQ0.out).2, ← HXE.out] at HQ
            unfold qv at HQ
            refine HQ.out.mono ?_
            rintro e w8 ⟨A8, n8, C8, rfl, ho8, hb8⟩
            have hn8 : n8 = 27 := by have := ho8.len; rw [HXL.out] at this; exact this.symm
            subst hn8
            have HS8 := Lib.hid (HB7.out.below hb8)
            have hb0 := (HB7.out.bel).size
            have HW8 := Lib.hid (ho8.base_le (b' := w3.heap.size) hb0)
            have z8 := HS8.out.bel.size
            clear ho8 hb8 hb0
            go_wp2_with (at_builtin; (refine app_part2 _ rfl (.tmp 111) (.tmp 113) rfl w3.heap.size A i C _ HZ0.out.symm rfl (HS8.out.o3.alloc _) (by rw [HZ0.out]; have := HIN.out; omega) A8 27 C8 _ HXL.out (HW8.out.alloc _) (some ⟨w8.heap.size, 0, none⟩) 1 rfl (row_slice _ _ _) (by simp; omega) ?_; intro A9 C9 w9 ho9 hb9 hk9; have HO9 := Lib.hid ho9; have HI9 := Lib.hid (hk9 _ _ _ _ (HS8.out.o1.alloc _)); have hbb := HS8.out.bel.trans (((Below.refl w8.heap.size w8).alloc (Nat.le_refl _) (.cells #[.slice A8 27 C8] 22)).mono z8); have HB9 := Lib.hid (hbb.trans hb9); have c9 := (HB3.out.trans (HB9.out.mono z3)).cell (p := ⟨bs, os + i, none⟩) lbs; rw [HCZ.out] at c9; clear ho9 hb9 hbb hk9))
            refine (NZ.out w9).mono ?_
            rintro e wq ⟨rfl, rfl⟩
            go_wp2_with fail
            refine ⟨?_, by simp [intOf]; have := HIN.out; omega⟩
            exact ⟨i + 1, A9, C9, A6, C6, HIN.out, by rw [HYI.out], by simp, rfl, rfl, by rw [HXS.out]; exact HO9.out, by rw [HSS.out]; exact HI9.out, HB9.out⟩
        · as_aux_lemma =>
          have HXE := Lib.hid (show xAt r bad how i = frameB (adr2 2 2) (adr2 2 1) (adr2 2 1) 5 ((start + 64) % 4096) false more eosp [UInt8.ofNat i] by subst hib; subst hh; unfold xAt badB; rw [if_pos rfl, if_neg (by decide), if_pos rfl, ← HRR.out]; rfl)
          have hc : ((i : Int) == (bad : Int)) = true := by simp; omega
          have e0 : ((how : Int) == 0) = false := by simp; omega
          have e1 : ((how : Int) == 1) = true := by simp; omega
          have HHH := Lib.hid hh
          have HIB := Lib.hid hib
          clear hib hh
          refine shut_in ?_
          go_wp2_with (first
                  | (refine wpList_store_in _ (by rfl) 26 _ _ rfl (wr.heap.size + 1) 0 _ rfl rfl 35 _ (qcells (fA (adr2 2 3) (adr2 2 1) (adr2 2 1)) 5 sq false more eosp (some ⟨wr.heap.size, 0, none⟩) 1 1) HB6.out.f (by kernel_rfl) (by show 0 + 6 ≤ 24; decide) (by simp [Value.oneCell']) (by rfl) ?_; intro w7 hk7 hg7; have HB7 := Lib.hid (HB6.out.setf hk7 hg7); clear hk7 hg7)
                  | (refine wpList_load_mid (by rfl) 26 (.tmp 87) rfl pm 6 rfl [.int .u8 2, .int .u8 2, .int .u8 0, .int .u8 0, .int .u8 0, .int .u8 0] _ (HM6.out.range 6 [.int .u8 2, .int .u8 2, .int .u8 0, .int .u8 0, .int .u8 0, .int .u8 0] (by rfl)) Tryd.underlying26 rfl (by kernel_rfl) ?_)
                  | (refine wpList_store_in _ (by rfl) 26 _ _ rfl (wr.heap.size + 1) 6 _ rfl rfl 35 _ (qcells (fA (adr2 2 2) (adr2 2 2) (adr2 2 1)) 5 sq false more eosp (some ⟨wr.heap.size, 0, none⟩) 1 1) HB6.out.f (by kernel_rfl) (by show 6 + 6 ≤ 24; decide) (by simp [Value.oneCell']) (by rfl) ?_; intro w7 hk7 hg7; have HB7 := Lib.hid (HB6.out.setf hk7 hg7); clear hk7 hg7)
                  | (refine wpList_load_blk _ (by rfl) 35 _ rfl (wr.heap.size + 1) rfl 35 _ _ HB7.out.f Tryd.underlying35 rfl (by kernel_rfl) ?_)
                  | (refine wpList_load_blk _ (by rfl) 35 _ rfl (wr.heap.size + 1) rfl 35 _ _ HB7a.out.f Tryd.underlying35 rfl (by kernel_rfl) ?_)
                  | (refine wpList_load_blk _ (by rfl) 35 _ rfl (wr.heap.size + 1) rfl 35 _ _ HB7b.out.f Tryd.underlying35 rfl (by kernel_rfl) ?_)
                  | (refine wpList_load_blk _ (by rfl) 35 _ rfl (wr.heap.size + 1) rfl 35 _ _ HB6.out.f Tryd.underlying35 rfl (by kernel_rfl) ?_))
          as_aux_lemma =>
            have HQ := Lib.hid (rqosBytes_any (fA (adr2 2 2) (adr2 2 1) (adr2 2 1)) 5 ((start + 64) % 4096) false more eosp (some ⟨wr.heap.size, 0, none⟩) 1 1 [UInt8.ofNat i] _ HB7a.out.ob.row)
            rw [q_res ((show 0 ≤ (start + 64) % 4096 ∧ (start + 64) % 4096 < 4096 by omega)).1 ((show 0 ≤ (start + 64) % 4096 ∧ (start + 64) % 4096 < 4096 by omega)).2, ← HXE.out] at HQ
            unfold qv at HQ
            refine HQ.out.mono ?_
            rintro e w8 ⟨A8, n8, C8, rfl, ho8, hb8⟩
            have hn8 : n8 = 27 := by have := ho8.len; rw [HXL.out] at this; exact this.symm
            subst hn8
            have HS8 := Lib.hid (HB7a.out.below hb8)
            have hb0 := (HB7a.out.bel).size
            have HW8 := Lib.hid (ho8.base_le (b' := w3.heap.size) hb0)
            have z8 := HS8.out.bel.size
            clear ho8 hb8 hb0
            go_wp2_with (at_builtin; (refine app_part2 _ rfl (.tmp 111) (.tmp 113) rfl w3.heap.size A i C _ HZ0.out.symm rfl (HS8.out.o3.alloc _) (by rw [HZ0.out]; have := HIN.out; omega) A8 27 C8 _ HXL.out (HW8.out.alloc _) (some ⟨w8.heap.size, 0, none⟩) 1 rfl (row_slice _ _ _) (by simp; omega) ?_; intro A9 C9 w9 ho9 hb9 hk9; have HO9 := Lib.hid ho9; have HI9 := Lib.hid (hk9 _ _ _ _ (HS8.out.o1.alloc _)); have hbb := HS8.out.bel.trans (((Below.refl w8.heap.size w8).alloc (Nat.le_refl _) (.cells #[.slice A8 27 C8] 22)).mono z8); have HB9 := Lib.hid (hbb.trans hb9); have c9 := (HB3.out.trans (HB9.out.mono z3)).cell (p := ⟨bs, os + i, none⟩) lbs; rw [HCZ.out] at c9; clear ho9 hb9 hbb hk9))
            refine (NZ.out w9).mono ?_
            rintro e wq ⟨rfl, rfl⟩
            go_wp2_with fail
            refine ⟨?_, by simp [intOf]; have := HIN.out; omega⟩
            exact ⟨i + 1, A9, C9, A6, C6, HIN.out, by rw [HYI.out], by simp, rfl, rfl, by rw [HXS.out]; exact HO9.out, by rw [HSS.out]; exact HI9.out, HB9.out⟩
        · as_aux_lemma =>
          have HXE := Lib.hid (show xAt r bad how i = frameB (adr2 2 2) (adr2 2 1) (adr2 2 1) 5 ((start + 4095) % 4096) false more eosp [UInt8.ofNat i] by subst hib; subst hh; unfold xAt badB; rw [if_pos rfl, if_neg (by decide), if_neg (by decide), if_pos rfl, ← HRR.out]; rfl)
          have hc : ((i : Int) == (bad : Int)) = true := by simp; omega
          have e0 : ((how : Int) == 0) = false := by simp; omega
          have e1 : ((how : Int) == 1) = false := by simp; omega
          have e2 : ((how : Int) == 2) = true := by simp; omega
          have HHH := Lib.hid hh
          have HIB := Lib.hid hib
          clear hib hh
          refine shut_in ?_
          go_wp2_with (first
                  | (refine wpList_store_in _ (by rfl) 26 _ _ rfl (wr.heap.size + 1) 0 _ rfl rfl 35 _ (qcells (fA (adr2 2 3) (adr2 2 1) (adr2 2 1)) 5 sq false more eosp (some ⟨wr.heap.size, 0, none⟩) 1 1) HB6.out.f (by kernel_rfl) (by show 0 + 6 ≤ 24; decide) (by simp [Value.oneCell']) (by rfl) ?_; intro w7 hk7 hg7; have HB7 := Lib.hid (HB6.out.setf hk7 hg7); clear hk7 hg7)
                  | (refine wpList_load_mid (by rfl) 26 (.tmp 87) rfl pm 6 rfl [.int .u8 2, .int .u8 2, .int .u8 0, .int .u8 0, .int .u8 0, .int .u8 0] _ (HM6.out.range 6 [.int .u8 2, .int .u8 2, .int .u8 0, .int .u8 0, .int .u8 0, .int .u8 0] (by rfl)) Tryd.underlying26 rfl (by kernel_rfl) ?_)
                  | (refine wpList_store_in _ (by rfl) 26 _ _ rfl (wr.heap.size + 1) 6 _ rfl rfl 35 _ (qcells (fA (adr2 2 2) (adr2 2 2) (adr2 2 1)) 5 sq false more eosp (some ⟨wr.heap.size, 0, none⟩) 1 1) HB6.out.f (by kernel_rfl) (by show 6 + 6 ≤ 24; decide) (by simp [Value.oneCell']) (by rfl) ?_; intro w7 hk7 hg7; have HB7 := Lib.hid (HB6.out.setf hk7 hg7); clear hk7 hg7)
                  | (refine wpList_load_blk _ (by rfl) 35 _ rfl (wr.heap.size + 1) rfl 35 _ _ HB7.out.f Tryd.underlying35 rfl (by kernel_rfl) ?_)
                  | (refine wpList_load_blk _ (by rfl) 35 _ rfl (wr.heap.size + 1) rfl 35 _ _ HB7a.out.f Tryd.underlying35 rfl (by kernel_rfl) ?_)
                  | (refine wpList_load_blk _ (by rfl) 35 _ rfl (wr.heap.size + 1) rfl 35 _ _ HB7b.out.f Tryd.underlying35 rfl (by kernel_rfl) ?_)
                  | (refine wpList_load_blk _ (by rfl) 35 _ rfl (wr.heap.size + 1) rfl 35 _ _ HB6.out.f Tryd.underlying35 rfl (by kernel_rfl) ?_))
          as_aux_lemma =>
            have HQ := Lib.hid (rqosBytes_any (fA (adr2 2 2) (adr2 2 1) (adr2 2 1)) 5 ((start + 4095) % 4096) false more eosp (some ⟨wr.heap.size, 0, none⟩) 1 1 [UInt8.ofNat i] _ HB7b.out.ob.row)
            rw [q_res ((show 0 ≤ (start + 4095) % 4096 ∧ (start + 4095) % 4096 < 4096 by omega)).1 ((show 0 ≤ (start + 4095) % 4096 ∧ (start + 4095) % 4096 < 4096 by omega)).2, ← HXE.out] at HQ
            unfold qv at HQ
            refine HQ.out.mono ?_
            rintro e w8 ⟨A8, n8, C8, rfl, ho8, hb8⟩
            have hn8 : n8 = 27 := by have := ho8.len; rw [HXL.out] at this; exact this.symm
            subst hn8
            have HS8 := Lib.hid (HB7b.out.below hb8)
            have hb0 := (HB7b.out.bel).size
            have HW8 := Lib.hid (ho8.base_le (b' := w3.heap.size) hb0)
            have z8 := HS8.out.bel.size
            clear ho8 hb8 hb0
            go_wp2_with (at_builtin; (refine app_part2 _ rfl (.tmp 111) (.tmp 113) rfl w3.heap.size A i C _ HZ0.out.symm rfl (HS8.out.o3.alloc _) (by rw [HZ0.out]; have := HIN.out; omega) A8 27 C8 _ HXL.out (HW8.out.alloc _) (some ⟨w8.heap.size, 0, none⟩) 1 rfl (row_slice _ _ _) (by simp; omega) ?_; intro A9 C9 w9 ho9 hb9 hk9; have HO9 := Lib.hid ho9; have HI9 := Lib.hid (hk9 _ _ _ _ (HS8.out.o1.alloc _)); have hbb := HS8.out.bel.trans (((Below.refl w8.heap.size w8).alloc (Nat.le_refl _) (.cells #[.slice A8 27 C8] 22)).mono z8); have HB9 := Lib.hid (hbb.trans hb9); have c9 := (HB3.out.trans (HB9.out.mono z3)).cell (p := ⟨bs, os + i, none⟩) lbs; rw [HCZ.out] at c9; clear ho9 hb9 hbb hk9))
            refine (NZ.out w9).mono ?_
            rintro e wq ⟨rfl, rfl⟩
            go_wp2_with fail
            refine ⟨?_, by simp [intOf]; have := HIN.out; omega⟩
            exact ⟨i + 1, A9, C9, A6, C6, HIN.out, by rw [HYI.out], by simp, rfl, rfl, by rw [HXS.out]; exact HO9.out, by rw [HSS.out]; exact HI9.out, HB9.out⟩
        · as_aux_lemma =>
          have HXE := Lib.hid (show xAt r bad how i = frameB (adr2 2 2) (adr2 2 2) (adr2 2 1) 5 sq false more eosp [UInt8.ofNat i] by subst hib; subst hh; unfold xAt badB; rw [if_pos rfl, if_neg (by decide), if_neg (by decide), if_neg (by decide), ← HSQ.out, ← HRR.out]; rfl)
          have hc : ((i : Int) == (bad : Int)) = true := by simp; omega
          have e0 : ((how : Int) == 0) = false := by simp; omega
          have e1 : ((how : Int) == 1) = false := by simp; omega
          have e2 : ((how : Int) == 2) = false := by simp; omega
          have HHH := Lib.hid hh
          have HIB := Lib.hid hib
          clear hib hh
          refine shut_in ?_
          go_wp2_with (first
                  | (refine wpList_store_in _ (by rfl) 26 _ _ rfl (wr.heap.size + 1) 0 _ rfl rfl 35 _ (qcells (fA (adr2 2 3) (adr2 2 1) (adr2 2 1)) 5 sq false more eosp (some ⟨wr.heap.size, 0, none⟩) 1 1) HB6.out.f (by kernel_rfl) (by show 0 + 6 ≤ 24; decide) (by simp [Value.oneCell']) (by rfl) ?_; intro w7 hk7 hg7; have HB7 := Lib.hid (HB6.out.setf hk7 hg7); clear hk7 hg7)
                  | (refine wpList_load_mid (by rfl) 26 (.tmp 87) rfl pm 6 rfl [.int .u8 2, .int .u8 2, .int .u8 0, .int .u8 0, .int .u8 0, .int .u8 0] _ (HM6.out.range 6 [.int .u8 2, .int .u8 2, .int .u8 0, .int .u8 0, .int .u8 0, .int .u8 0] (by rfl)) Tryd.underlying26 rfl (by kernel_rfl) ?_)
                  | (refine wpList_store_in _ (by rfl) 26 _ _ rfl (wr.heap.size + 1) 6 _ rfl rfl 35 _ (qcells (fA (adr2 2 2) (adr2 2 2) (adr2 2 1)) 5 sq false more eosp (some ⟨wr.heap.size, 0, none⟩) 1 1) HB6.out.f (by kernel_rfl) (by show 6 + 6 ≤ 24; decide) (by simp [Value.oneCell']) (by rfl) ?_; intro w7 hk7 hg7; have HB7 := Lib.hid (HB6.out.setf hk7 hg7); clear hk7 hg7)
                  | (refine wpList_load_blk _ (by rfl) 35 _ rfl (wr.heap.size + 1) rfl 35 _ _ HB7.out.f Tryd.underlying35 rfl (by kernel_rfl) ?_)
                  | (refine wpList_load_blk _ (by rfl) 35 _ rfl (wr.heap.size + 1) rfl 35 _ _ HB7a.out.f Tryd.underlying35 rfl (by kernel_rfl) ?_)
                  | (refine wpList_load_blk _ (by rfl) 35 _ rfl (wr.heap.size + 1) rfl 35 _ _ HB7b.out.f Tryd.underlying35 rfl (by kernel_rfl) ?_)
                  | (refine wpList_load_blk _ (by rfl) 35 _ rfl (wr.heap.size + 1) rfl 35 _ _ HB6.out.f Tryd.underlying35 rfl (by kernel_rfl) ?_))
          as_aux_lemma =>
            have HQ := Lib.hid (rqosBytes_any (fA (adr2 2 2) (adr2 2 2) (adr2 2 1)) 5 sq false more eosp (some ⟨wr.heap.size, 0, none⟩) 1 1 [UInt8.ofNat i] _ HB7.out.ob.row)
            rw [q_res (HSQ0.out).1 (HSQ0.out).2, ← HXE.out] at HQ
            unfold qv at HQ
            refine HQ.out.mono ?_
            rintro e w8 ⟨A8, n8, C8, rfl, ho8, hb8⟩
            have hn8 : n8 = 27 := by have := ho8.len; rw [HXL.out] at this; exact this.symm
            subst hn8
            have HS8 := Lib.hid (HB7.out.below hb8)
            have hb0 := (HB7.out.bel).size
            have HW8 := Lib.hid (ho8.base_le (b' := w3.heap.size) hb0)
            have z8 := HS8.out.bel.size
            clear ho8 hb8 hb0
            go_wp2_with (at_builtin; (refine app_part2 _ rfl (.tmp 111) (.tmp 113) rfl w3.heap.size A i C _ HZ0.out.symm rfl (HS8.out.o3.alloc _) (by rw [HZ0.out]; have := HIN.out; omega) A8 27 C8 _ HXL.out (HW8.out.alloc _) (some ⟨w8.heap.size, 0, none⟩) 1 rfl (row_slice _ _ _) (by simp; omega) ?_; intro A9 C9 w9 ho9 hb9 hk9; have HO9 := Lib.hid ho9; have HI9 := Lib.hid (hk9 _ _ _ _ (HS8.out.o1.alloc _)); have hbb := HS8.out.bel.trans (((Below.refl w8.heap.size w8).alloc (Nat.le_refl _) (.cells #[.slice A8 27 C8] 22)).mono z8); have HB9 := Lib.hid (hbb.trans hb9); have c9 := (HB3.out.trans (HB9.out.mono z3)).cell (p := ⟨bs, os + i, none⟩) lbs; rw [HCZ.out] at c9; clear ho9 hb9 hbb hk9))
            refine (NZ.out w9).mono ?_
            rintro e wq ⟨rfl, rfl⟩
            go_wp2_with fail
            refine ⟨?_, by simp [intOf]; have := HIN.out; omega⟩
            exact ⟨i + 1, A9, C9, A6, C6, HIN.out, by rw [HYI.out], by simp, rfl, rfl, by rw [HXS.out]; exact HO9.out, by rw [HSS.out]; exact HI9.out, HB9.out⟩
    case neg =>
      have hLi : N = i := by omega
      subst hLi
      have q1 : ¬ ((N : Int) < (N : Int)) := by omega
      clear hiN hi
      have HPK := Lib.hid (refPack_any (w := wr) A N C (xL r bad how N) (by obtain ⟨B', D', e', hr⟩ := HO.out.row; injection e' with e1 e2 e3; subst e1 e3; rw [xL_len] at hr; exact hr) (by omega))
      have HPR := Lib.hid (show packR (xL r bad how N) = .ok (packP (xL r bad how N)) by rw [← HRR.out]; exact xL_packR hNp hN)
      rw [HPR.out] at HPK
      have hnp1 : (packP (xL r bad how N)).length ≤ 700 := by rw [← HRR.out]; exact xL_bound hN
      have FZ1 := Lib.hid (fun (h : bad < N) => show checkP (mS start 64 true) true (packP (xL r bad how N)) = .placed (badE how) bad by rw [← HRR.out]; exact xc_bad s0 s1 hNp hN h)
      have FZ2 := Lib.hid (fun (h : N ≤ bad) => show checkP (mS start 64 true) true (packP (xL r bad how N)) = .fine ⟨5, (List.range N).map (seqAt r), List.replicate N false, more, eosp, (List.range N).map r.body⟩ by rw [← HRR.out, ← sentK_pos hNp]; exact xc_fine s0 s1 hNp hN h)
      have FZ3 := Lib.hid (show checkP (mS start 64 true) false (frAt r 0) = .fine (sentK r 1) by rw [← HRR.out]; exact xc_first s0 s1)
      have FZ4 := Lib.hid (xc_state start (packP (xL r bad how N)))
      have FZ5 := Lib.hid (show (∃ c i, checkP (mS start ((N : Int) - 1) true) true (packP (xL r bad how N)) = .placed c i) ∨ checkP (mS start ((N : Int) - 1) true) true (packP (xL r bad how N)) = .bare 3 by rw [← HRR.out]; exact xc_size hNp hN _ rfl rfl)
      have HF0 := Lib.hid (fun (h : N ≤ bad) => show (xL r bad how N)[0]? = some (frAt r 0) by rw [xL_fine h, List.getElem?_map, List.getElem?_range hNp]; rfl)
      have HFN := Lib.hid (show (frAt r 0).length = 27 by rw [← HRR.out]; exact fr_len _ _)
      have qN : (0 : Int) < (N : Int) := by omega
      generalize packP (xL r bad how N) = P at *
      generalize xL r bad how N = LL at *
      obtain ⟨np, hnp⟩ : ∃ np, P.length = np := ⟨_, rfl⟩
      rw [hnp] at hnp1
      have HNP := Lib.hid hnp
      clear hnp
      go_wp2_with fail
      refine HPK.out.mono ?_
      rintro e w4 ⟨A2, C2, rfl, ho4, hb4⟩
      rw [HNP.out] at ho4 ⊢
      have hS4 : BndS w w3.heap.size pm (mS start 64 true) A2 np C2 P A N C LL w4 :=
        ⟨(HM3.out.below HB.out l3).below hb4 (by omega), ho4.base_le z, HO.out.below hb4 (Nat.le_refl _), (HB3.out.trans (HB.out.mono z3)).trans (hb4.mono (by omega)), z2⟩
      have HI4 := Lib.hid (HI.out.below hb4 (Nat.le_refl _))
      have HS4 := Lib.hid hS4
      clear hS4 ho4 hb4
      go_wp2_with (refine wpList_load_blk _ (by rfl) 30 _ rfl pm rfl 30 _ _ HS4.out.rules Tryd.underlying30 rfl (by kernel_rfl) ?_)
      have HC4 := Lib.hid (check_any (HS4.out.errs HE.out) (mS start 64 true) true A2 np C2 P HS4.out.row (by omega))
      by_cases hbN : bad < N
      case pos =>
        have hbI : (bad : Int) < (N : Int) := by omega
        rw [FZ1.out hbN] at HC4
        refine HC4.out.mono ?_
        rintro e w5 ⟨p, rfl, hk5, hp5, hb5⟩
        have HS5 := Lib.hid (HS4.out.below hb5)
        have HK5 := Lib.hid hk5
        clear hb5 hk5
        rcases (show how = 0 ∨ how = 1 ∨ how = 2 ∨ how = 3 by omega) with e | e | e | e
        · subst e
          go_wp2_with (refine wpList_store_blk _ (by rfl) 40 _ _ rfl w5.heap.size zsent rfl rfl 40 _ (Blk.new _ _ _) (by kernel_rfl) rfl (by kernel_rfl) ?_; intro w6 hk6 hg6; have hb56 : Below w5.heap.size w5 w6 := Below.grown ((Below.refl _ _).alloc (Nat.le_refl _) _) hg6 (by simp) (by simp); have HK6 := Lib.hid hk6; have HP6 := Lib.hid (HK5.out.below hb56 HK5.out.lt); have HS6 := Lib.hid (HS5.out.below hb56); clear hk6 hg6 hb56)
          have hba := (Below.refl w6.heap.size w6).alloc (Nat.le_refl _) (.cells #[.int .i64 105, .int .i64 111, .int .i64 111, .int .i64 105] 3)
          have HSA := Lib.hid (HS6.out.below hba)
          have HPA := Lib.hid (HP6.out.below hba HP6.out.lt)
          have HKA := Lib.hid (HK6.out.below hba HK6.out.lt)
          clear hba
          refine (placed_any 105 (bad : Int) (by decide) _).mono ?_
          rintro e w7 ⟨rfl, hb7⟩
          have HS7 := Lib.hid (HSA.out.below hb7)
          have HC7 := Lib.hid (sameAt_any (HS7.out.errs HE.out) 4 (by decide) p (bad : Int) (HPA.out.below hb7 HPA.out.lt) 105 true (bad : Int))
          have HK7 := Lib.hid (HKA.out.below hb7 HKA.out.lt)
          clear hb7
          go_wp2_with fail
          refine HC7.out.mono ?_
          rintro e w8 ⟨rfl, hb8⟩
          have HS8 := Lib.hid (HS7.out.below hb8)
          have c8 : w8.cell? ⟨w5.heap.size, 1, none⟩ = some (.slice none 0 0) := (HK7.out.below hb8 HK7.out.lt).cell 1
          clear hb8
          rw [show ((101 + ((4 : Nat) : Int) == 105) && (true && ((bad : Int) == (bad : Int)))) = true by simp]
          go_wp2_with fail
          go_ret
          exact ⟨rfl, HS8.out.bel⟩
        · subst e
          go_wp2_with (refine wpList_store_blk _ (by rfl) 40 _ _ rfl w5.heap.size zsent rfl rfl 40 _ (Blk.new _ _ _) (by kernel_rfl) rfl (by kernel_rfl) ?_; intro w6 hk6 hg6; have hb56 : Below w5.heap.size w5 w6 := Below.grown ((Below.refl _ _).alloc (Nat.le_refl _) _) hg6 (by simp) (by simp); have HK6 := Lib.hid hk6; have HP6 := Lib.hid (HK5.out.below hb56 HK5.out.lt); have HS6 := Lib.hid (HS5.out.below hb56); clear hk6 hg6 hb56)
          have hba := (Below.refl w6.heap.size w6).alloc (Nat.le_refl _) (.cells #[.int .i64 105, .int .i64 111, .int .i64 111, .int .i64 105] 3)
          have HSA := Lib.hid (HS6.out.below hba)
          have HPA := Lib.hid (HP6.out.below hba HP6.out.lt)
          have HKA := Lib.hid (HK6.out.below hba HK6.out.lt)
          clear hba
          refine (placed_any 111 (bad : Int) (by decide) _).mono ?_
          rintro e w7 ⟨rfl, hb7⟩
          have HS7 := Lib.hid (HSA.out.below hb7)
          have HC7 := Lib.hid (sameAt_any (HS7.out.errs HE.out) 10 (by decide) p (bad : Int) (HPA.out.below hb7 HPA.out.lt) 111 true (bad : Int))
          have HK7 := Lib.hid (HKA.out.below hb7 HKA.out.lt)
          clear hb7
          go_wp2_with fail
          refine HC7.out.mono ?_
          rintro e w8 ⟨rfl, hb8⟩
          have HS8 := Lib.hid (HS7.out.below hb8)
          have c8 : w8.cell? ⟨w5.heap.size, 1, none⟩ = some (.slice none 0 0) := (HK7.out.below hb8 HK7.out.lt).cell 1
          clear hb8
          rw [show ((101 + ((10 : Nat) : Int) == 111) && (true && ((bad : Int) == (bad : Int)))) = true by simp]
          go_wp2_with fail
          go_ret
          exact ⟨rfl, HS8.out.bel⟩
        · subst e
          go_wp2_with (refine wpList_store_blk _ (by rfl) 40 _ _ rfl w5.heap.size zsent rfl rfl 40 _ (Blk.new _ _ _) (by kernel_rfl) rfl (by kernel_rfl) ?_; intro w6 hk6 hg6; have hb56 : Below w5.heap.size w5 w6 := Below.grown ((Below.refl _ _).alloc (Nat.le_refl _) _) hg6 (by simp) (by simp); have HK6 := Lib.hid hk6; have HP6 := Lib.hid (HK5.out.below hb56 HK5.out.lt); have HS6 := Lib.hid (HS5.out.below hb56); clear hk6 hg6 hb56)
          have hba := (Below.refl w6.heap.size w6).alloc (Nat.le_refl _) (.cells #[.int .i64 105, .int .i64 111, .int .i64 111, .int .i64 105] 3)
          have HSA := Lib.hid (HS6.out.below hba)
          have HPA := Lib.hid (HP6.out.below hba HP6.out.lt)
          have HKA := Lib.hid (HK6.out.below hba HK6.out.lt)
          clear hba
          refine (placed_any 111 (bad : Int) (by decide) _).mono ?_
          rintro e w7 ⟨rfl, hb7⟩
          have HS7 := Lib.hid (HSA.out.below hb7)
          have HC7 := Lib.hid (sameAt_any (HS7.out.errs HE.out) 10 (by decide) p (bad : Int) (HPA.out.below hb7 HPA.out.lt) 111 true (bad : Int))
          have HK7 := Lib.hid (HKA.out.below hb7 HKA.out.lt)
          clear hb7
          go_wp2_with fail
          refine HC7.out.mono ?_
          rintro e w8 ⟨rfl, hb8⟩
          have HS8 := Lib.hid (HS7.out.below hb8)
          have c8 : w8.cell? ⟨w5.heap.size, 1, none⟩ = some (.slice none 0 0) := (HK7.out.below hb8 HK7.out.lt).cell 1
          clear hb8
          rw [show ((101 + ((10 : Nat) : Int) == 111) && (true && ((bad : Int) == (bad : Int)))) = true by simp]
          go_wp2_with fail
          go_ret
          exact ⟨rfl, HS8.out.bel⟩
        · subst e
          go_wp2_with (refine wpList_store_blk _ (by rfl) 40 _ _ rfl w5.heap.size zsent rfl rfl 40 _ (Blk.new _ _ _) (by kernel_rfl) rfl (by kernel_rfl) ?_; intro w6 hk6 hg6; have hb56 : Below w5.heap.size w5 w6 := Below.grown ((Below.refl _ _).alloc (Nat.le_refl _) _) hg6 (by simp) (by simp); have HK6 := Lib.hid hk6; have HP6 := Lib.hid (HK5.out.below hb56 HK5.out.lt); have HS6 := Lib.hid (HS5.out.below hb56); clear hk6 hg6 hb56)
          have hba := (Below.refl w6.heap.size w6).alloc (Nat.le_refl _) (.cells #[.int .i64 105, .int .i64 111, .int .i64 111, .int .i64 105] 3)
          have HSA := Lib.hid (HS6.out.below hba)
          have HPA := Lib.hid (HP6.out.below hba HP6.out.lt)
          have HKA := Lib.hid (HK6.out.below hba HK6.out.lt)
          clear hba
          refine (placed_any 105 (bad : Int) (by decide) _).mono ?_
          rintro e w7 ⟨rfl, hb7⟩
          have HS7 := Lib.hid (HSA.out.below hb7)
          have HC7 := Lib.hid (sameAt_any (HS7.out.errs HE.out) 4 (by decide) p (bad : Int) (HPA.out.below hb7 HPA.out.lt) 105 true (bad : Int))
          have HK7 := Lib.hid (HKA.out.below hb7 HKA.out.lt)
          clear hb7
          go_wp2_with fail
          refine HC7.out.mono ?_
          rintro e w8 ⟨rfl, hb8⟩
          have HS8 := Lib.hid (HS7.out.below hb8)
          have c8 : w8.cell? ⟨w5.heap.size, 1, none⟩ = some (.slice none 0 0) := (HK7.out.below hb8 HK7.out.lt).cell 1
          clear hb8
          rw [show ((101 + ((4 : Nat) : Int) == 105) && (true && ((bad : Int) == (bad : Int)))) = true by simp]
          go_wp2_with fail
          go_ret
          exact ⟨rfl, HS8.out.bel⟩
      case neg =>
        have hbN' : N ≤ bad := by omega
        have hbI : ¬ ((bad : Int) < (N : Int)) := by omega
        rw [FZ2.out hbN'] at HC4
        refine HC4.out.mono ?_
        rintro e w5 ⟨A5, C5, A6, C6, A7, C7, rfl, ho1, ho2, ho3, hb5⟩
        simp only [List.length_map, List.length_range, List.length_replicate] at ho1 ho2 ho3 ⊢
        have HS5 := Lib.hid (HS4.out.below hb5)
        have HI5 := Lib.hid (HI4.out.below hb5 (Nat.le_refl _)).row
        have HO5 := Lib.hid ho1.row
        clear hb5 ho1 ho2 ho3
        have gq := fun w => err_guard' E none (.tmp 158) .nilIface w
        have ge := fun w => err_nonnil E none w
        simp only [errO] at gq ge
        go_wp2_with (refine wpList_store_blk _ (by rfl) 40 _ _ rfl w5.heap.size _ rfl rfl 40 _ (Blk.new _ _ _) (by kernel_rfl) rfl sent_one ?_; intro w6 hk6 hg6; have hb56 : Below w5.heap.size w5 w6 := Below.grown ((Below.refl _ _).alloc (Nat.le_refl _) _) hg6 (by simp) (by simp); have d0 : w6.cell? ⟨w5.heap.size, 0, none⟩ = some (.int .i64 5) := hk6.cell 0; have d1 : w6.cell? ⟨w5.heap.size, 1, none⟩ = some (.slice A5 N C5) := hk6.cell 1; have HK6 := Lib.hid hk6; have HS6 := Lib.hid (HS5.out.below hb56); have HI6 := Lib.hid (HI5.out.below hb56 (Nat.le_refl _)); have HO6 := Lib.hid (HO5.out.below hb56 (Nat.le_refl _)); clear hk6 hg6 hb56)
        have HC6 := Lib.hid (sameInts_any A5 A' N C5 C' _ w6 HO6.out HI6.out)
        refine HC6.out.mono ?_
        rintro e w7 ⟨rfl, hq7⟩
        have hb7 : Below w6.heap.size w6 w7 := by obtain ⟨k, rfl⟩ := hq7; exact below_drewN _
        have HS7 := Lib.hid (HS6.out.below hb7)
        have hk7 := HK6.out.below hb7 HK6.out.lt
        have d3 : w7.cell? ⟨w5.heap.size, 3, none⟩ = some (.bool more) := hk7.cell 3
        have d4 : w7.cell? ⟨w5.heap.size, 4, none⟩ = some (.bool eosp) := hk7.cell 4
        have d5 : w7.cell? ⟨w5.heap.size, 5, none⟩ = some (.slice A7 N C7) := hk7.cell 5
        clear hb7 hq7 d0 d1 hk7
        go_wp2_with fail
        have HFA := Lib.hid (HF0.out hbN')
        obtain ⟨lbkc, lokc, lAkc, lCkc, eB, hlbkc, hlckc, hlrkc⟩ := HS7.out.first HFA.out
        rw [HFN.out] at hlckc hlrkc
        have HLRkc := Lib.hid (hlrkc.below (w' := w7.drew) (below_drewN (w := w7) 1) (Nat.le_refl _))
        have HSDkc := Lib.hid (HS7.out.below (y := w7.drew) (below_drewN (w := w7) 1))
        clear hlrkc
        first | subst eB | (injection eB with eB; injection eB with eB1 eB2; have eB3 := eB1.symm; have eB4 := eB2.symm; subst eB3 eB4)
        have hRkc : ∀ x : World, Blk x pm (rucells (mS start 64 true)) 30 → x.rangeAt pm 0 (rucells (mS start 64 true)).toList := fun x hx => hx.range 0 _ (by rfl)
        refine wp_region_held_drew (S := fun w' => w'.rangeAt pm 0 (rucells (mS start 64 true)).toList ∧ w'.cell? ⟨lbkc, lokc, none⟩ = some (.slice lAkc 27 lCkc)) (by kernel_rfl) ⟨hRkc _ HSDkc.out.rules, hlckc⟩ (fun hHeld => ?_)
        have hltkc : lbkc < w7.drew.heap.size := hlbkc
        have hcekc : w7.drew.cell? ⟨lbkc, lokc, none⟩ = some (.slice lAkc 27 lCkc) := hlckc
        clear hlckc hlbkc
        generalize w7.drew = Ukc at *
        refine wpAnyH_take (i := 0) (oi := { dst := some 193, op := _, type := _, pos := _, after := _, guard := none }) (v := (.agg (rucells (mS start 64 true)))) rfl (by kernel_rfl) (by kernel_rfl) (by kernel_rfl) (fun _ _ _ h => h) ?y0kc (by assumption) ?r0kc
        (case y0kc => exact yieldsIf_load_mid (S := fun w' => w'.rangeAt pm 0 (rucells (mS start 64 true)).toList ∧ w'.cell? ⟨lbkc, lokc, none⟩ = some (.slice lAkc 27 lCkc)) (by rfl) 30 (.tmp 14) rfl pm 0 rfl (rucells (mS start 64 true)).toList _ (fun w hw => hw.1) Tryd.underlying30 rfl (by kernel_rfl))
        try simp only [Act.put, List.setIfInBounds_toArray, List.set_cons_zero, List.set_cons_succ]
        refine wpAnyH_take (i := 1) (oi := { dst := some 194, op := _, type := _, pos := _, after := _, guard := none }) (v := ?v1kc) rfl (by kernel_rfl) (by kernel_rfl) (by kernel_rfl) (fun _ _ _ h => h) (Or.inl ⟨by rfl, ?y1kc⟩) (by assumption) ?r1kc
        (case y1kc => intro w hSw; (try dsimp only at hSw); go_simp; try with_reducible rfl)
        try simp only [Act.put, List.setIfInBounds_toArray, List.set_cons_zero, List.set_cons_succ]
        refine wpAnyH_take (i := 2) (oi := { dst := some 195, op := _, type := _, pos := _, after := _, guard := none }) (v := ?v2kc) rfl (by kernel_rfl) (by kernel_rfl) (by kernel_rfl) (fun _ _ _ h => h) (Or.inl ⟨by rfl, ?y2kc⟩) (by assumption) ?r2kc
        (case y2kc => intro w hSw; (try dsimp only at hSw); go_simp; try with_reducible rfl)
        try simp only [Act.put, List.setIfInBounds_toArray, List.set_cons_zero, List.set_cons_succ]
        refine wpAnyH_take (i := 3) (oi := { dst := some 196, op := _, type := _, pos := _, after := _, guard := none }) (v := ?v3kc) rfl (by kernel_rfl) (by kernel_rfl) (by kernel_rfl) (fun _ _ _ h => h) (Or.inl ⟨by rfl, ?y3kc⟩) (by assumption) ?r3kc
        (case y3kc => intro w hSw; (try dsimp only at hSw); go_simp; try with_reducible rfl)
        try simp only [Act.put, List.setIfInBounds_toArray, List.set_cons_zero, List.set_cons_succ]
        clear hHeld
        have HCkc := Lib.hid (fun (x : World) (hb : Below Ukc.heap.size Ukc x) => (show Calls Tryd.prog 11 #[.agg (rucells (mS start 64 true)), .bool false, .slice lAkc 27 lCkc] x fun e w' => CheckR x E (.fine (sentK r 1)) e w' by have h := check_any ((HSDkc.out.below hb).errs HE.out) (mS start 64 true) false lAkc 27 lCkc _ (HLRkc.out.below hb (Nat.le_refl _)) (by omega); rw [FZ3.out] at h; exact h))
        apply two_roads8 (F := fun pskc Y1 K1 Y2 K2 Y3 K3 W => Blk W pskc #[.int .i64 0, .slice none 0 0, .slice none 0 0, .bool false, .bool false, .slice none 0 0] 40 ∧ Ukc.heap.size ≤ pskc ∧ Below Ukc.heap.size Ukc W)
        case ways =>
          intro REST
          refine wpAnyH_ready (rs := [4, 8]) (by kernel_rfl) (by simp) ?_
          refine AllReadyH.cons (o := { dst := some 197, op := _, type := _, pos := _, after := _, guard := none }) rfl (fun K hK => ?_) (AllReadyH.cons (o := { dst := some 27, op := _, type := _, pos := _, after := _, guard := none }) rfl (fun K hK => ?_) AllReadyH.nil)
          · go_simp
            refine (HCkc.out _ (Below.refl _ _)).mono ?_
            rintro e x1kc ⟨Y1, K1, Y2, K2, Y3, K3, rfl, _, _, _, hb⟩
            refine hK.out _ _ ⟨hRkc _ (HSDkc.out.below hb).rules, (hb.cell (p := ⟨lbkc, lokc, none⟩) hltkc).trans hcekc⟩ (fun hHeld => ?_)
            clear hK K
            try simp only [Act.put, List.setIfInBounds_toArray, List.set_cons_zero, List.set_cons_succ]
            refine wpAnyH_take (i := 5) (oi := { dst := some 192, op := _, type := _, pos := _, after := _, guard := none }) (v := ?v5kcp) rfl (by kernel_rfl) (by kernel_rfl) (by kernel_rfl) (fun _ _ _ h => h) (Or.inl ⟨by rfl, ?y5kcp⟩) (by assumption) ?r5kcp
            (case y5kcp => intro w hSw; (try dsimp only at hSw); go_simp; try with_reducible rfl)
            try simp only [Act.put, List.setIfInBounds_toArray, List.set_cons_zero, List.set_cons_succ]
            refine wpAnyH_take (i := 6) (oi := { dst := some 198, op := _, type := _, pos := _, after := _, guard := none }) (v := ?v6kcp) rfl (by kernel_rfl) (by kernel_rfl) (by kernel_rfl) (fun _ _ _ h => h) (Or.inl ⟨by rfl, ?y6kcp⟩) (by assumption) ?r6kcp
            (case y6kcp => intro w hSw; (try dsimp only at hSw); go_simp; try with_reducible rfl)
            try simp only [Act.put, List.setIfInBounds_toArray, List.set_cons_zero, List.set_cons_succ]
            refine wpAnyH_take (i := 7) (oi := { dst := some 199, op := _, type := _, pos := _, after := _, guard := none }) (v := ?v7kcp) rfl (by kernel_rfl) (by kernel_rfl) (by kernel_rfl) (fun _ _ _ h => h) (Or.inl ⟨by rfl, ?y7kcp⟩) (by assumption) ?r7kcp
            (case y7kcp => intro w hSw; (try dsimp only at hSw); go_simp; try with_reducible rfl)
            try simp only [Act.put, List.setIfInBounds_toArray, List.set_cons_zero, List.set_cons_succ]
            refine wpAnyH_ready (rs := [8]) (by kernel_rfl) (by simp) ?_
            refine AllReadyH.cons (o := { dst := some 27, op := _, type := _, pos := _, after := _, guard := none }) rfl (fun K hK => ?_) AllReadyH.nil
            go_simp
            have hk := Blk.new x1kc #[.int .i64 0, .slice none 0 0, .slice none 0 0, .bool false, .bool false, .slice none 0 0] 40
            have hb2 : Below Ukc.heap.size Ukc (x1kc.alloc (.cells #[.int .i64 0, .slice none 0 0, .slice none 0 0, .bool false, .bool false, .slice none 0 0] 40)) := hb.alloc hb.size _
            have hge := hb.size
            refine hK.out _ _ ⟨hRkc _ (HSDkc.out.below hb2).rules, (hb2.cell (p := ⟨lbkc, lokc, none⟩) hltkc).trans hcekc⟩ (fun hHeld2 => ?_)
            clear hK K hHeld hHeld2
            try simp only [Act.put, List.setIfInBounds_toArray, List.set_cons_zero, List.set_cons_succ]
            generalize x1kc.alloc _ = x2kc at *
            generalize x1kc.heap.size = pskc at *
            exact REST pskc Y1 K1 Y2 K2 Y3 K3 x2kc ⟨hk, hge, hb2⟩
          · go_simp
            have hk := Blk.new Ukc #[.int .i64 0, .slice none 0 0, .slice none 0 0, .bool false, .bool false, .slice none 0 0] 40
            have hb1 : Below Ukc.heap.size Ukc (Ukc.alloc (.cells #[.int .i64 0, .slice none 0 0, .slice none 0 0, .bool false, .bool false, .slice none 0 0] 40)) := (Below.refl _ _).alloc (Nat.le_refl _) _
            refine hK.out _ _ ⟨hRkc _ (HSDkc.out.below hb1).rules, (hb1.cell (p := ⟨lbkc, lokc, none⟩) hltkc).trans hcekc⟩ (fun hHeld => ?_)
            clear hK K
            try simp only [Act.put, List.setIfInBounds_toArray, List.set_cons_zero, List.set_cons_succ]
            have HCx := Lib.hid (HCkc.out _ hb1)
            have hlk := hk.lt
            have z1 := hb1.size
            generalize Ukc.alloc _ = x1kc at *
            refine wpAnyH_ready (rs := [4]) (by kernel_rfl) (by simp) ?_
            refine AllReadyH.cons (o := { dst := some 197, op := _, type := _, pos := _, after := _, guard := none }) rfl (fun K hK => ?_) AllReadyH.nil
            go_simp
            refine HCx.out.mono ?_
            rintro e x2kc ⟨Y1, K1, Y2, K2, Y3, K3, rfl, _, _, _, hb⟩
            have hb2 := hb1.trans (hb.mono z1)
            refine hK.out _ _ ⟨hRkc _ (HSDkc.out.below hb2).rules, (hb2.cell (p := ⟨lbkc, lokc, none⟩) hltkc).trans hcekc⟩ (fun hHeld2 => ?_)
            clear hK K hHeld
            try simp only [Act.put, List.setIfInBounds_toArray, List.set_cons_zero, List.set_cons_succ]
            refine wpAnyH_take (i := 5) (oi := { dst := some 192, op := _, type := _, pos := _, after := _, guard := none }) (v := ?v5kcq) rfl (by kernel_rfl) (by kernel_rfl) (by kernel_rfl) (fun _ _ _ h => h) (Or.inl ⟨by rfl, ?y5kcq⟩) (by assumption) ?r5kcq
            (case y5kcq => intro w hSw; (try dsimp only at hSw); go_simp; try with_reducible rfl)
            try simp only [Act.put, List.setIfInBounds_toArray, List.set_cons_zero, List.set_cons_succ]
            refine wpAnyH_take (i := 6) (oi := { dst := some 198, op := _, type := _, pos := _, after := _, guard := none }) (v := ?v6kcq) rfl (by kernel_rfl) (by kernel_rfl) (by kernel_rfl) (fun _ _ _ h => h) (Or.inl ⟨by rfl, ?y6kcq⟩) (by assumption) ?r6kcq
            (case y6kcq => intro w hSw; (try dsimp only at hSw); go_simp; try with_reducible rfl)
            try simp only [Act.put, List.setIfInBounds_toArray, List.set_cons_zero, List.set_cons_succ]
            refine wpAnyH_take (i := 7) (oi := { dst := some 199, op := _, type := _, pos := _, after := _, guard := none }) (v := ?v7kcq) rfl (by kernel_rfl) (by kernel_rfl) (by kernel_rfl) (fun _ _ _ h => h) (Or.inl ⟨by rfl, ?y7kcq⟩) (by assumption) ?r7kcq
            (case y7kcq => intro w hSw; (try dsimp only at hSw); go_simp; try with_reducible rfl)
            try simp only [Act.put, List.setIfInBounds_toArray, List.set_cons_zero, List.set_cons_succ]
            exact REST Ukc.heap.size Y1 K1 Y2 K2 Y3 K3 x2kc ⟨hk.below hb hlk, Nat.le_refl _, hb2⟩
        case rest =>
        rintro pskc Y1 K1 Y2 K2 Y3 K3 x2kc ⟨hk, hge, hbx⟩
        have hHeld : x2kc.rangeAt pm 0 (rucells (mS start 64 true)).toList ∧ x2kc.cell? ⟨lbkc, lokc, none⟩ = some (.slice lAkc 27 lCkc) := ⟨hRkc _ (HSDkc.out.below hbx).rules, (hbx.cell (p := ⟨lbkc, lokc, none⟩) hltkc).trans hcekc⟩
        refine wpAnyH_ready (rs := [9]) (by kernel_rfl) (by simp) ?_
        refine AllReadyH.cons (o := { dst := none, op := _, type := _, pos := _, after := _, guard := none }) rfl (fun K hK => as_wanted rfl (wp_store_blk x2kc 40 (.tmp 27) (.tmp 198) rfl pskc _ rfl rfl 40 #[.int .i64 0, .slice none 0 0, .slice none 0 0, .bool false, .bool false, .slice none 0 0] hk (by kernel_rfl) rfl sent_one (fun x3kc hk3 hg3 => ?_))) AllReadyH.nil
        have hb3 : Below Ukc.heap.size Ukc x3kc := Below.grown hbx hg3 hbx.size (by intro k hk; injection hk with hk; omega)
        refine hK.out _ _ ⟨hRkc _ (HSDkc.out.below hb3).rules, (hb3.cell (p := ⟨lbkc, lokc, none⟩) hltkc).trans hcekc⟩ (fun hHeld3 => ?_)
        clear hK K hHeld
        try simp only [Act.put, List.setIfInBounds_toArray, List.set_cons_zero, List.set_cons_succ]
        refine wpAnyH_take (i := 10) (oi := { dst := some 28, op := _, type := _, pos := _, after := _, guard := none }) (v := ?v10kcr) rfl (by kernel_rfl) (by kernel_rfl) (by kernel_rfl) (fun _ _ _ h => h) (Or.inl ⟨by rfl, ?y10kcr⟩) (by assumption) ?r10kcr
        (case y10kcr => intro w hSw; (try dsimp only at hSw); go_simp; try with_reducible rfl)
        try simp only [Act.put, List.setIfInBounds_toArray, List.set_cons_zero, List.set_cons_succ]
        refine wpAnyH_done (by kernel_rfl) ?_ _
        have HSkc := Lib.hid (HSDkc.out.below hb3)
        clear hHeld3 hk hk3 hg3 hb3 hbx hge hltkc hcekc hRkc
        have gq2 := fun w => err_guard E none (.tmp 220) .nilIface w
        have ge2 := fun w => err_isnil E none w
        simp only [errO] at gq2 ge2
        have c21 : x3kc.cell? ⟨pm, 21, none⟩ = some (.bool true) := HSkc.out.rules.cell 21
        have f21 := HSkc.out.rules.frozen 21
        have HS9 := Lib.hid (HSkc.out.set_ (m' := mS start 64 false) 21 (.bool false) rfl)
        go_wp2_with (refine wpList_load_blk _ (by rfl) 30 _ rfl pm rfl 30 _ _ HS9.out.rules Tryd.underlying30 rfl (by kernel_rfl) ?_)
        generalize x3kc.setCell _ _ = w9 at *
        clear c21 f21 d3 d4 d5
        have HC9 := Lib.hid (check_any (HS9.out.errs HE.out) (mS start 64 false) true A2 np C2 P HS9.out.row (by omega))
        rw [FZ4.out] at HC9
        refine HC9.out.mono ?_
        rintro e w10 ⟨rfl, hb10⟩
        have HS10 := Lib.hid (HS9.out.below hb10)
        clear hb10
        have qs : IntKind.i64.wrap ((N : Int) - 1) = (N : Int) - 1 := IntWalk.i64_in _ (by omega)
        go_wp2_with (first
          | (refine wpList_store_blk _ (by rfl) 40 _ _ rfl w10.heap.size zsent rfl rfl 40 _ (Blk.new _ _ _) (by kernel_rfl) rfl (by kernel_rfl) ?_; intro w11 hk11 hg11; have hb11 : Below w10.heap.size w10 w11 := Below.grown ((Below.refl _ _).alloc (Nat.le_refl _) _) hg11 (by simp) (by simp); have hS11 := HS10.out.below hb11; have c21 : w11.cell? ⟨pm, 21, none⟩ = some (.bool false) := hS11.rules.cell 21; have f21 := hS11.rules.frozen 21; have hS12 := hS11.set_ (m' := mS start 64 true) 21 (.bool true) rfl; have c18 : (w11.setCell ⟨pm, 21, none⟩ (.bool true)).cell? ⟨pm, 18, none⟩ = some (.int .i64 64) := hS12.rules.cell 18; have f18 := hS12.rules.frozen 18; have HS12 := Lib.hid (hS12.set_ (m' := mS start ((N : Int) - 1) true) 18 (.int .i64 ((N : Int) - 1)) rfl); clear hk11 hg11 hb11 hS11 hS12)
          | (refine wpList_load_blk _ (by rfl) 30 _ rfl pm rfl 30 _ _ HS12.out.rules Tryd.underlying30 rfl (by kernel_rfl) ?_))
        generalize (w11.setCell _ _).setCell _ _ = w12 at *
        clear c21 f21 c18 f18
        have HC12 := Lib.hid (check_any (HS12.out.errs HE.out) (mS start ((N : Int) - 1) true) true A2 np C2 P HS12.out.row (by omega))
        have some_in9 : ∀ i, some 9 = some i → i ∈ allErr := by intro i e; injection e with e; subst e; decide
        rcases FZ5.out with ⟨c, j, h5⟩ | h5
        · rw [h5] at HC12
          have ga := at_guard
          have gb := at_nonnil
          refine HC12.out.mono ?_
          rintro e w13 ⟨p, rfl, hk13, hp13, hb13⟩
          have HS13 := Lib.hid (HS12.out.below hb13)
          clear hb13 hk13
          go_wp2_with (refine wpList_store_blk _ (by rfl) 40 _ _ rfl w13.heap.size zsent rfl rfl 40 _ (Blk.new _ _ _) (by kernel_rfl) rfl (by kernel_rfl) ?_; intro w14 hk14 hg14; have hb14 : Below w13.heap.size w13 w14 := Below.grown ((Below.refl _ _).alloc (Nat.le_refl _) _) hg14 (by simp) (by simp); have HS14 := Lib.hid (HS13.out.below hb14); clear hk14 hg14 hb14)
          refine (is_any (HS14.out.errs HE.out) (some 9) some_in9 110).mono ?_
          rintro e w15 ⟨rfl, hb15⟩
          have HS15 := Lib.hid (HS14.out.below hb15)
          clear hb15
          rw [show (errCode (some 9) == 110) = true by decide]
          go_wp2_with fail
          go_ret
          exact ⟨rfl, HS15.out.bel⟩
        · rw [h5] at HC12
          have ga := fun w => err_guard' E (some 3) (.tmp 228) .nilIface w
          have gb := fun w => err_nonnil E (some 3) w
          simp only [errO, errV] at ga gb
          have HC13 := HC12.out
          simp only [CheckR, errV] at HC13
          have HC12 := Lib.hid HC13
          clear HC13
          refine HC12.out.mono ?_
          rintro e w13 ⟨rfl, hb13⟩
          have HS13 := Lib.hid (HS12.out.below hb13)
          clear hb13
          go_wp2_with (refine wpList_store_blk _ (by rfl) 40 _ _ rfl w13.heap.size zsent rfl rfl 40 _ (Blk.new _ _ _) (by kernel_rfl) rfl (by kernel_rfl) ?_; intro w14 hk14 hg14; have hb14 : Below w13.heap.size w13 w14 := Below.grown ((Below.refl _ _).alloc (Nat.le_refl _) _) hg14 (by simp) (by simp); have HS14 := Lib.hid (HS13.out.below hb14); clear hk14 hg14 hb14)
          refine (is_any (HS14.out.errs HE.out) (some 9) some_in9 110).mono ?_
          rintro e w15 ⟨rfl, hb15⟩
          have HS15 := Lib.hid (HS14.out.below hb15)
          clear hb15
          rw [show (errCode (some 9) == 110) = true by decide]
          go_wp2_with fail
          go_ret
          exact ⟨rfl, HS15.out.bel⟩
end Go.Proofs.YtoagmehgiaamlaaDoor
