/-
  Up4  ZeroErr  Ref1  PartsFn  PartDoc  AddrEq.
-/
import Derived.Test.YtoagmehgiaamlaaDoorMd
import Derived.Test.YtoagmehgiaamlaaDoorBase
import Derived.Laws.ResultCell
import Derived.Test.YtoagmehgiaamlaaDoorMa
import Derived.Test.YtoagmehgiaamlaaDoorMb
import Derived.ChangeKeysEq
namespace Go.Proofs.YtoagmehgiaamlaaDoor
open Go.ChangeShapes Go.WideShapes Go.ChangeAt Go.RowKit
set_option linter.unusedVariables false

set_option maxHeartbeats 400000 in
theorem up4_any (n : Nat) (w : World) (h1 : n ≤ 1000000000) : Calls Tryd.prog 46 #[.int .i64 n] w fun e w' => e = .returned (.int .i64 (up4 n : Int)) ∧ w = w' := by
  have HU := Lib.hid (show (up4 n : Int) = ((n : Int) + 3) / 4 * 4 by unfold up4; omega)
  go_enter Tryd.func46, Tryd.ntmps46
  go_wp2_with fail
  go_ret
  exact ⟨ret_i64 (by rw [HU.out]; omega), rfl⟩

theorem err_neq (E : Nat → Addr) (i : Nat) (w : World) : (binOp .neq 42 (errV E i) .nilIface).run Tryd.prog w = .ok (.bool true) w := err_nonnil E (some i) w
end Go.Proofs.YtoagmehgiaamlaaDoor

namespace Go.Proofs.YtoagmehgiaamlaaDoor
open Go.ChangeShapes Go.WideShapes Go.ChangeAt Go.RowKit
set_option linter.unusedVariables false

theorem put_same (a : Act) (d : Nat) (v : Value) (h : d < a.tmps.size) : (a.put (some d) v).eval (.tmp d) = v := by
  simp [Act.put, Act.eval, Array.getD, h]
theorem put_ne (a : Act) (d j : Nat) (v : Value) (h : d ≠ j) : (a.put (some d) v).eval (.tmp j) = a.eval (.tmp j) := by
  simp only [Act.put, Act.eval, Array.getD_eq_getD_getElem?]
  rw [Array.getElem?_setIfInBounds_ne h]

theorem wp_load_known {P : Program} (w : World) {o : Oper} {a : Act} {K : Act → World → Prop} {Q : Exit → Act → World → Prop} (ty g : Nat) (ho : o.op = .load ty (.global g))
    (v : Value) (hA : ∀ w, (isAgg ty).run P w = .ok false w) (hc : w.cell? ⟨g, 0, none⟩ = some v) (h : K (a.put o.dst v) w) : o.wp P a w K Q := by
  unfold Oper.wp execOp
  simp [ho, go_sem, hA, hc, BigFrame.eval_global, Instr.loadAt]
  exact h

theorem wp_assign_known {P : Program} (w : World) {o : Oper} {a : Act} {K : Act → World → Prop} {Q : Exit → Act → World → Prop} (x : Operand) (ho : o.op = .assign x) (v : Value) (hx : a.eval x = v) (h : K (a.put o.dst v) w) : o.wp P a w K Q := by
  subst hx
  unfold Oper.wp execOp
  simp only [ho]
  exact h

/-- An operation of no guard. -/
theorem as_wanted {P : Program} {ops : Array Oper} {o : Oper} {a : Act} {w : World} {K : Act → World → Prop} {Q : Exit → Act → World → Prop} (hg : o.guard = none) (h : o.wp P a w K Q) :
    if Region.wanted o (yielded ops a.tmps) = true then o.wp P a w K Q else K (a.put o.dst undef) w := by
  rw [if_pos (by unfold Region.wanted; simp [hg])]; exact h

set_option maxHeartbeats 400000 in
theorem wp_zero_err {P : Program} (hm : P.follows .mixedOrders = true) {Q : Exit → Act → World → Prop} (id d0 d1 p r ty te g : Nat) (pos : String) (a : Act) (w : World) (n : Nat) (T : TypeId) (old zs : Array Value) (ev : Value)
    (hn1 : d0 ≠ p) (hn2 : d1 ≠ p) (hn3 : d0 ≠ d1) (hs0 : d0 < a.tmps.size) (hs1 : d1 < a.tmps.size)
    (hp : a.eval (.tmp p) = .pointer (some ⟨n, 0, none⟩)) (hk : Blk w n old T) (hb : P.built ty [] = some zs) (hi : (P.info? ty).map (·.size) = some zs.size) (hold : old.size = zs.size) (h1 : zs.all (·.oneCell') = true)
    (hA : ∀ w, (isAgg te).run P w = .ok false w) (hc : w.cell? ⟨g, 0, none⟩ = some ev) (hg : g ≠ n)
    (h : ∀ w', Blk w' n zs T → w.grownBy w' (some n) → Q .normal (((a.put (some d0) (.agg zs)).put (some d1) ev).put (some r) ev) w') :
    (Code.region id #[{ dst := some d0, op := .build ty #[], type := ty, pos := pos, after := #[], guard := none },
      { dst := some d1, op := .load te (.global g), type := te, pos := pos, after := #[{ on := 2, ground := Ground.gcOnly Departure.lateStores }], guard := none },
      { dst := none, op := .store ty (.tmp p) (.tmp d0), type := 0, pos := pos, after := #[{ on := 0, ground := Ground.data }, { on := 0, ground := Ground.phase }, { on := 1, ground := Ground.textOnly Departure.lateStores }], guard := none },
      { dst := some r, op := .assign (.tmp d1), type := te, pos := pos,
        after := #[{ on := 1, ground := Ground.data }, { on := 2, ground := Ground.chain }, { on := 0, ground := Ground.phase }, { on := 1, ground := Ground.phase }, { on := 2, ground := Ground.phase }], guard := none }] true).wp P Q a w := by
  have hbuild : ∀ (b : Act), (P.built ty ((#[] : Array (Nat × Operand)).map fun (i, x) => (i, b.eval x)).toList).isSome = true := fun b => by simp [hb]
  have hput : ∀ (b : Act), (P.built ty ((#[] : Array (Nat × Operand)).map fun (i, x) => (i, b.eval x)).toList) = some zs := fun b => by simpa using hb
  refine wp_region_any hm ?_
  change wpAny _ _ _ _ _ _ _ w.drew
  have hk' : Blk w.drew n old T := hk
  have hc' : w.drew.cell? ⟨g, 0, none⟩ = some ev := hc
  have hgd : w.grownBy w.drew (some n) := ⟨rfl, rfl, rfl, Nat.le_refl _, fun _ _ _ => rfl⟩
  generalize w.drew = W at *
  have goal : ∀ (a' : Act) W', a' = ((a.put (some d0) (.agg zs)).put (some d1) ev).put (some r) ev → Blk W' n zs T → W.grownBy W' (some n) → Q .normal a' W' := fun a' W' e hk2 hg2 => e ▸ h W' hk2 (hgd.trans hg2)
  have hswap : (a.put (some d1) ev).put (some d0) (.agg zs) = (a.put (some d0) (.agg zs)).put (some d1) ev := Act.put_comm a _ _ (fun d e e2 => by injection e with e; injection e2 with e2; omega)
  have eP0 : (a.put (some d0) (.agg zs)).eval (.tmp p) = .pointer (some ⟨n, 0, none⟩) := by rw [put_ne _ _ _ _ hn1]; exact hp
  have eP1 : ((a.put (some d0) (.agg zs)).put (some d1) ev).eval (.tmp p) = .pointer (some ⟨n, 0, none⟩) := by rw [put_ne _ _ _ _ hn2]; exact eP0
  have e00 : (a.put (some d0) (.agg zs)).eval (.tmp d0) = .agg zs := put_same _ _ _ hs0
  have e01 : ((a.put (some d0) (.agg zs)).put (some d1) ev).eval (.tmp d0) = .agg zs := by rw [put_ne _ _ _ _ (Ne.symm hn3)]; exact e00
  have e11 : ((a.put (some d0) (.agg zs)).put (some d1) ev).eval (.tmp d1) = ev := put_same _ _ _ (by simpa [Act.put] using hs1)
  refine wpAny_ready (rs := [0, 1]) (by kernel_rfl) (by simp) ?_
  refine AllReady.cons rfl (fun K hK => as_wanted rfl (wp_build _ _ rfl (hbuild a) ?_)) (AllReady.cons rfl (fun K hK => as_wanted rfl (wp_load_known _ _ _ rfl ev hA hc' ?_)) AllReady.nil)
  · rw [hput a]; refine hK _ _ ?_
    refine wpAny_ready (rs := [1, 2]) (by kernel_rfl) (by simp) ?_
    refine AllReady.cons rfl (fun K hK => as_wanted rfl (wp_load_known _ _ _ rfl ev hA hc' ?_)) (AllReady.cons rfl (fun K hK => as_wanted rfl (wp_store_blk _ _ _ _ rfl n zs eP0 e00 T old hk' hi hold h1 ?_)) AllReady.nil)
    · refine hK _ _ ?_
      refine wpAny_ready (rs := [2]) (by kernel_rfl) (by simp) ?_
      refine AllReady.cons rfl (fun K hK => as_wanted rfl (wp_store_blk _ _ _ _ rfl n zs eP1 e01 T old hk' hi hold h1 ?_)) AllReady.nil
      intro w' hkw hgw
      refine hK _ _ ?_
      refine wpAny_ready (rs := [3]) (by kernel_rfl) (by simp) ?_
      refine AllReady.cons rfl (fun K hK => as_wanted rfl (wp_assign_known _ _ rfl ev e11 ?_)) AllReady.nil
      refine hK _ _ (wpAny_done (by kernel_rfl) (goal _ _ rfl hkw hgw) _)
    · intro w' hkw hgw
      refine hK _ _ ?_
      refine wpAny_ready (rs := [1]) (by kernel_rfl) (by simp) ?_
      refine AllReady.cons rfl (fun K hK => as_wanted rfl (wp_load_known _ _ _ rfl ev hA (hgw.cell hc' (by simpa using hg)) ?_)) AllReady.nil
      refine hK _ _ ?_
      refine wpAny_ready (rs := [3]) (by kernel_rfl) (by simp) ?_
      refine AllReady.cons rfl (fun K hK => as_wanted rfl (wp_assign_known _ _ rfl ev e11 ?_)) AllReady.nil
      refine hK _ _ (wpAny_done (by kernel_rfl) (goal _ _ rfl hkw hgw) _)
  · refine hK _ _ ?_
    refine wpAny_ready (rs := [0]) (by kernel_rfl) (by simp) ?_
    refine AllReady.cons rfl (fun K hK => as_wanted rfl (wp_build _ _ rfl (hbuild _) ?_)) AllReady.nil
    rw [hput _]; refine hK _ _ ?_
    refine wpAny_ready (rs := [2]) (by kernel_rfl) (by simp) ?_
    refine AllReady.cons rfl (fun K hK => as_wanted rfl (wp_store_blk _ _ _ _ rfl n zs (hswap.symm ▸ eP1) (hswap.symm ▸ e01) T old hk' hi hold h1 ?_)) AllReady.nil
    intro w' hkw hgw
    refine hK _ _ ?_
    refine wpAny_ready (rs := [3]) (by kernel_rfl) (by simp) ?_
    refine AllReady.cons rfl (fun K hK => as_wanted rfl (wp_assign_known _ _ rfl ev (hswap.symm ▸ e11) ?_)) AllReady.nil
    refine hK _ _ (wpAny_done (by kernel_rfl) (goal _ _ (congrArg (fun b : Act => b.put (some r) ev) hswap) hkw hgw) _)

/-- a struct's or an array's type -/
def wide (d : Option TypeDesc) : Bool := match d with | some (.struct _) | some (.array _ _) => true | _ => false

/-- What a function returns that gives back a struct that it keeps in a block, and an error. -/
theorem ret_cell_tmp {P : Program} {fn : Func} {R : Ending → World → Prop} {p u : Tmp} {ty : TypeId} (hr : fn.results = #[.cell p ty, .tmp u]) {a : Act} {w : World} (n : Nat) (T : TypeId) (zs : Array Value) (ev : Value)
    (hp : a.eval (.tmp p) = .pointer (some ⟨n, 0, none⟩)) (hk : Blk w n zs T) (hw : wide (P.underlying ty) = true) (hi : (P.info? ty).map (·.size) = some zs.size) (hu : a.eval (.tmp u) = ev) (hd : a.defers = [])
    (h : R (.returned (.tuple #[.agg zs, ev])) w) : bodyPost P fn R .ret a w := by
  refine bodyPost_ret (v := .tuple #[.agg zs, ev]) ?_ hd h
  have hp' : a.tmps.getD p undef = .pointer (some ⟨n, 0, none⟩) := hp
  have hu' : a.tmps.getD u undef = ev := hu
  obtain ⟨d, hd1, hd2⟩ : ∃ d, P.underlying ty = some d ∧ (match d with | .struct _ | .array _ _ => true | _ => false) = true := by
    cases he : P.underlying ty with
    | none => rw [he] at hw; simp [wide] at hw
    | some d => exact ⟨d, rfl, by rw [he] at hw; cases d <;> simp_all [wide]⟩
  have hl : (loadVar ty ⟨n, 0, none⟩).run P w = .ok (.agg zs) w := run_loadVar_row w n T ty zs (0, 0) d hk hd1 (by cases d <;> simp_all) hi
  rw [results_cell_tmp hr, hp']
  simp only [asAddr, Sem.run_pure, Result.andThen_ok, hl, hu']
end Go.Proofs.YtoagmehgiaamlaaDoor

namespace Go.Proofs.YtoagmehgiaamlaaDoor
open Go.ChangeShapes Go.WideShapes Go.ChangeAt Go.RowKit
set_option linter.unusedVariables false

theorem out_any (n m : Int) (w : World) : Calls Tryd.prog 21 #[.int .i64 n, .int .i64 m] w fun e w' => e = .returned (.bool (decide (n < 0) || decide (m < n))) ∧ w = w' := by
  by_cases h : n < 0
  · have h0 : decide (n < 0) = true := decide_eq_true h
    go_enter Tryd.func21, Tryd.ntmps21
    go_wp2_with fail
    go_ret
    exact ⟨ret_bool (by rw [h0]; rfl), rfl⟩
  · have h0 : decide (n < 0) = false := decide_eq_false h
    go_enter Tryd.func21, Tryd.ntmps21
    go_wp2_with fail
    go_ret
    exact ⟨ret_bool (by simp [h0]), rfl⟩

theorem flag_any (b : Bool) (n : Int) (w : World) : Calls Tryd.prog 22 #[.bool b, .int .i64 n] w fun e w' => e = .returned (.int .i64 (bif b then n else 0)) ∧ w = w' := by
  cases b
  all_goals
    go_enter Tryd.func22, Tryd.ntmps22
    go_wp2_with fail
    go_ret
    exact ⟨rfl, rfl⟩

theorem row_byte (w : World) (x : UInt8) (t : TypeId) : Row (w.alloc (.cells #[.int .u8 (x.toNat : Int)] t)) 1 (some ⟨w.heap.size, 0, none⟩) 1 1 ([x].map u8v) := row_one w _ t

set_option maxHeartbeats 1000000 in
theorem addr_any (base : Nat) (A : Option Addr) (n C : Nat) (xs : List UInt8) (f : Nat → UInt8) (w : World) (hown : OwnU8 w base A n C xs) (hn : n ≤ 1048576) (hb : base ≤ w.heap.size) :
    Calls Tryd.prog 23 #[.slice A n C, av f] w fun e w' => ∃ A2 C2, e = .returned (.slice A2 (n + 6) C2) ∧ OwnU8 w' base A2 (n + 6) C2 (xs ++ [f 0, f 1, f 2, f 3, f 4, f 5]) ∧ Below base w w' := by
  unfold av
  have hk0 := Blk.new w #[.int .u8 ((f 0).toNat : Int), .int .u8 ((f 1).toNat : Int), .int .u8 ((f 2).toNat : Int), .int .u8 ((f 3).toNat : Int), .int .u8 ((f 4).toNat : Int), .int .u8 ((f 5).toNat : Int)] 26
  have ho0 := hown.alloc (.cells #[.int .u8 ((f 0).toNat : Int), .int .u8 ((f 1).toNat : Int), .int .u8 ((f 2).toNat : Int), .int .u8 ((f 3).toNat : Int), .int .u8 ((f 4).toNat : Int), .int .u8 ((f 5).toNat : Int)] 26)
  have hb0 : Below base w (w.alloc (.cells #[.int .u8 ((f 0).toNat : Int), .int .u8 ((f 1).toNat : Int), .int .u8 ((f 2).toNat : Int), .int .u8 ((f 3).toNat : Int), .int .u8 ((f 4).toNat : Int), .int .u8 ((f 5).toNat : Int)] 26)) := (Below.refl _ _).alloc hb _
  go_enter Tryd.func23, Tryd.ntmps23
  go_wp2_with fail
  generalize w.alloc _ = W at *
  go_loopw [5, 0] (fun i s wr => ∃ k : Nat, k ≤ 6 ∧ i = .int .i64 k ∧ ∃ A2 C2, s = .slice A2 (n + k) C2 ∧ OwnU8 wr base A2 (n + k) C2 (xs ++ (List.range k).map f) ∧ Blk wr w.heap.size #[.int .u8 ((f 0).toNat : Int), .int .u8 ((f 1).toNat : Int), .int .u8 ((f 2).toNat : Int), .int .u8 ((f 3).toNat : Int), .int .u8 ((f 4).toNat : Int), .int .u8 ((f 5).toNat : Int)] 26 ∧ Below base w wr) (fun i _ _ => 6 - (intOf i).toNat)
  case atStart => exact ⟨0, by omega, rfl, A, C, rfl, by simpa using ho0, hk0, hb0⟩
  case round =>
    obtain ⟨k, hk, rfl, A1, C1, rfl, ho, hkx, hbw⟩ := hrel
    by_cases hlt : k < 6
    · have d1 : wr.cell? ⟨w.heap.size, k, none⟩ = some (.int .u8 ((f k).toNat : Int)) := (hkx.cell k).trans (six_at f k hlt)
      have e1 : 0 ≤ (k : Int) := by omega
      have e2 : (k : Int) < 6 := by omega
      have hsr := hbw.size
      go_wp2_with (at_builtin; refine append_u8 _ rfl (.tmp 10) (.tmp 14) rfl base A1 (n + k) C1 _ rfl (ho.alloc _) _ 1 1 [f k] rfl (row_byte _ _ _) (by omega) (by simp; omega) ?_; intro A2 C2 w2 hown2 hg2 hat2)
      go_roundw
      case rel =>
        refine ⟨k + 1, by omega, by go_num, A2, C2, rfl, ?_, (hkx.alloc _).grown hg2 (ho.ne_blk hkx (by decide)), below_grown (hbw.alloc (by omega) _) (ho.alloc _) (Nat.le_refl _) (by simp; omega) hg2⟩
        rw [List.range_succ, List.map_append, ← List.append_assoc]
        exact hown2
      case measure => simp [intOf]; omega
    · have hke : k = 6 := by omega
      subst hke
      go_wp2_with fail
      go_ret
      exact ⟨A1, C1, rfl, ho, hbw⟩
end Go.Proofs.YtoagmehgiaamlaaDoor

namespace Go.Proofs.YtoagmehgiaamlaaDoor
open Go.ChangeShapes Go.WideShapes Go.ChangeAt Go.RowKit
set_option linter.unusedVariables false

set_option maxHeartbeats 400000 in
theorem nz_any (c : UInt8) (w : World) : Calls Tryd.prog 48 #[.int .u8 (c.toNat : Int)] w fun e w' => e = .returned (.bool (c != 0)) ∧ w = w' := by
  have HU := Lib.hid (show ((c.toNat : Int) != 0) = (c != 0) by
    rw [Bool.eq_iff_iff]; simp [← UInt8.toNat_inj])
  go_enter Tryd.func48, Tryd.ntmps48
  go_wp2_with fail
  go_ret
  exact ⟨ret_bool HU.out, rfl⟩

set_option maxHeartbeats 1600000 in
theorem indexNz_any (A : Option Addr) (n C : Nat) (L : List UInt8) (w : World) (h : Row w 1 A n C (L.map u8v)) (F : Value) (hF : F = .func (.func 48) #[] #[]) :
    Calls Tryd.prog 66 #[.slice A n C, F] w fun e w' => ∃ i : Int, e = .returned (.int .i64 i) ∧ (decide (0 ≤ i) = L.any (fun c => c != 0)) ∧ w = w' := by
  have hm := h.len_le
  have hlx : L.length = n := by simpa using h.1
  have HL := Lib.hid hlx
  have H := Lib.hid h
  clear h hlx
  subst hF
  go_enter Tryd.func66, Tryd.ntmps66
  go_wp2_with fail
  go_loopw [8] (fun i wr => ∃ k : Nat, k ≤ n ∧ i = .int .i64 k ∧ (L.take k).any (fun c => c != 0) = false ∧ wr = w) (fun i _ => n - (intOf i).toNat)
  case atStart => exact ⟨0, Nat.zero_le _, rfl, rfl, rfl⟩
  case round =>
    obtain ⟨k, hk, rfl, hno, rfl⟩ := hrel
    have HNO := Lib.hid hno
    clear hno
    by_cases hlt : k < n
    · obtain ⟨b, off, rfl, hb, -⟩ := H.out.at_ (by omega)
      have hc := cell4 H.out hlt
      obtain ⟨z, hz⟩ : ∃ z, L[k]? = some z := ⟨_, List.getElem?_eq_getElem (by rw [HL.out]; exact hlt)⟩
      rw [List.getD_eq_getElem?_getD, hz] at hc
      have hc' : wr.cell? ⟨b, off + k, none⟩ = some (.int .u8 (z.toNat : Int)) := hc
      clear hc
      have HT := Lib.hid (show L.take (k + 1) = L.take k ++ [z] by obtain ⟨h1, rfl⟩ := List.getElem?_eq_some_iff.1 hz; exact List.take_succ_eq_append_getElem h1)
      have HM := Lib.hid (List.mem_of_getElem? hz)
      clear hz
      go_wp2_with fail
      refine (nz_any z _).mono ?_
      rintro e w1 ⟨rfl, rfl⟩
      rcases hw : (z != 0)
      · have HK := Lib.hid (show (L.take (k + 1)).any (fun c => c != 0) = false by rw [HT.out, List.any_append, HNO.out]; simpa using hw)
        clear hw
        go_wp2_with fail
        go_roundw
        case rel => exact ⟨k + 1, by omega, by go_num, HK.out, by trivial⟩
        case measure => simp [intOf]; omega
      · have HK := Lib.hid (show L.any (fun c => c != 0) = true from List.any_eq_true.2 ⟨z, HM.out, hw⟩)
        clear hw
        go_wp2_with fail
        go_ret
        exact ⟨(k : Int), rfl, by rw [HK.out]; exact decide_eq_true (by omega), by trivial⟩
    · obtain rfl : k = n := by omega
      go_wp2_with fail
      go_ret
      refine ⟨-1, rfl, ?_, by trivial⟩
      have := HNO.out
      rw [List.take_of_length_le (by rw [HL.out]; exact Nat.le_refl _)] at this
      rw [this]; decide

set_option maxHeartbeats 800000 in
theorem anyNz_any (A : Option Addr) (n C : Nat) (L : List UInt8) (w : World) (h : Row w 1 A n C (L.map u8v)) (F : Value) (hF : F = .func (.func 48) #[] #[]) :
    Calls Tryd.prog 47 #[.slice A n C, F] w fun e w' => e = .returned (.bool (L.any (fun c => c != 0))) ∧ w = w' := by
  have HC := Lib.hid (indexNz_any A n C L w h F hF)
  clear hF h
  go_enter Tryd.func47, Tryd.ntmps47
  go_wp2_with fail
  refine HC.out.mono ?_
  rintro e w1 ⟨i, rfl, hi, rfl⟩
  have HI := Lib.hid hi
  clear hi
  go_wp2_with fail
  go_ret
  exact ⟨ret_bool HI.out, rfl⟩
end Go.Proofs.YtoagmehgiaamlaaDoor

namespace Go.Proofs.YtoagmehgiaamlaaDoor
open Go.ChangeShapes Go.WideShapes Go.ChangeAt Go.RowKit
set_option linter.unusedVariables false

theorem and15 (x : UInt8) : bits .and .u8 (x.toNat : Int) 15 = ((x.toNat % 16 : Nat) : Int) := by
  have h : ∀ n : Fin 256, bits .and .u8 ((n.val : Nat) : Int) 15 = ((n.val % 16 : Nat) : Int) := by decide +kernel
  exact h ⟨x.toNat, UInt8.toNat_lt x⟩
theorem u8_eq (x y : UInt8) : (((x.toNat : Int)) == (y.toNat : Int)) = (x == y) := by
  rw [Bool.eq_iff_iff, beq_iff_eq, beq_iff_eq, ← UInt8.toNat_inj]; omega
theorem four_of {r : List UInt8} (h : 4 ≤ r.length) : ∃ a b c d t, r = a :: b :: c :: d :: t := by
  rcases r with _ | ⟨a, _ | ⟨b, _ | ⟨c, _ | ⟨d, t⟩⟩⟩⟩
  all_goals try (simp at h; done)
  exact ⟨a, b, c, d, t, rfl⟩
/-- what part says, by the bytes -/
theorem part_doc (a b c d : UInt8) (t : List UInt8) : partP (a :: b :: c :: d :: t) =
    if Crc.sum [a, b] ≠ c then .error 5
    else if d ≠ 78 ∨ a.toNat % 16 ≠ 0 ∨ (a.toNat + 256 * b.toNat) / 16 = 0 then .error 1
    else if t.length < (a.toNat + 256 * b.toNat) / 16 then .error 0
    else .ok (t.take ((a.toNat + 256 * b.toNat) / 16)) := by
  have hn : numB (a :: b :: c :: d :: t) = a.toNat + 256 * b.toNat := rfl
  have hf : Crc.fits ((a :: b :: c :: d :: t).take 3) = (c == Crc.sum [a, b]) := by simp [Crc.fits]
  have hm : (a.toNat + 256 * b.toNat) % 16 = a.toNat % 16 := by omega
  unfold partP
  rw [if_neg (by simp), hf, hn, hm]
  have e3 : (a :: b :: c :: d :: t).getD 3 0 = d := rfl
  have ed : (a :: b :: c :: d :: t).drop 4 = t := rfl
  have el : (a :: b :: c :: d :: t).length - 4 = t.length := by simp
  rw [e3, ed, el]
  by_cases h : Crc.sum [a, b] = c
  · rw [if_neg (show ¬ ((c == Crc.sum [a, b]) = false) by rw [h]; simp), if_neg (show ¬ (Crc.sum [a, b] ≠ c) by simpa using h)]
  · rw [if_pos (show (c == Crc.sum [a, b]) = false by simpa using fun e => h e.symm), if_pos (show Crc.sum [a, b] ≠ c from h)]
theorem part_doc_len {b x : List UInt8} (h : partP b = .ok x) : x.length = numB b / 16 := by
  obtain ⟨p1, p2, p3, p4, p5⟩ := part_ok h
  obtain ⟨a, b', c, d, t, rfl⟩ := four_of p1
  rw [part_doc] at h
  split at h
  · cases h
  · split at h
    · cases h
    · split at h
      · cases h
      · injection h with h
        rw [← h, List.length_take]
        show _ = (a.toNat + 256 * b'.toNat) / 16
        omega
end Go.Proofs.YtoagmehgiaamlaaDoor

namespace Go.Proofs.YtoagmehgiaamlaaDoor
open Go.ChangeShapes Go.WideShapes Go.ChangeAt Go.RowKit
set_option linter.unusedVariables false

theorem u8_cells : Tryd.prog.cellsOf 5 = 1 := by kernel_rfl
theorem addr_under : Tryd.prog.underlying 26 = some (.array 6 5) := by kernel_rfl
theorem part_u8 (xs : Array Value) (i : Nat) (v : Int) (w : World) (h : xs[i]? = some (.int .u8 v)) : (part 5 xs (i * 1)).run Tryd.prog w = .ok (.int .u8 v) w := by
  rw [Nat.mul_one]
  exact run_part_plain w (by kernel_rfl) h
theorem eq_u8 (d : Nat) (x y : UInt8) (w : World) : (Op.equalIn (d + 1) 5 (.int .u8 (x.toNat : Int)) (.int .u8 (y.toNat : Int))).run Tryd.prog w = .ok (x == y) w := by
  have e : ((x.toNat : Int) == (y.toNat : Int)) = (x == y) := by
    rw [Bool.eq_iff_iff, beq_iff_eq, beq_iff_eq, ← UInt8.toNat_inj]; omega
  simp only [Op.equalIn, Sem.run_bind, run_underlying Tryd.underlying5, Result.andThen_ok, if_true, Sem.run_pure, e]
theorem items_u8 (d : Nat) (f g : Nat → UInt8) (xs ys : Array Value) (w : World) : ∀ (is : List Nat), (∀ i ∈ is, xs[i]? = some (.int .u8 ((f i).toNat : Int)) ∧ ys[i]? = some (.int .u8 ((g i).toNat : Int))) →
    (Op.eqItems (d + 1) 5 1 xs ys is).run Tryd.prog w = .ok (is.all fun i => f i == g i) w := by
  intro is
  induction is with
  | nil => intro _; simp [Op.eqItems]
  | cons i is ih =>
    intro h
    obtain ⟨h1, h2⟩ := h i (List.mem_cons_self ..)
    simp only [Op.eqItems, Sem.run_bind, part_u8 xs i _ w h1, part_u8 ys i _ w h2, Result.andThen_ok, eq_u8, List.all_cons]
    cases f i == g i
    · simp
    · simp only [Bool.not_true, Bool.false_eq_true, if_false, Bool.true_and]
      exact ih fun j hj => h j (List.mem_cons_of_mem _ hj)
theorem addr_eql (f g : Nat → UInt8) (w : World) : (Op.equal 26 (av f) (av g)).run Tryd.prog w = .ok (sameA f g) w := by
  obtain ⟨i, hi, -, -, -⟩ := info_parts info_u8
  unfold Op.equal av
  show (Op.equalIn (9999 + 1) _ _ _).run _ _ = _
  rw [run_equalIn_array w 9999 _ _ addr_under hi, u8_cells]
  refine items_u8 9998 f g _ _ w (List.range 6) fun j hj => ?_
  have hj6 : j < 6 := List.mem_range.1 hj
  exact ⟨six_at f j hj6, six_at g j hj6⟩
theorem addr_neq (f g : Nat → UInt8) (w : World) : (binOp .neq 26 (av f) (av g)).run Tryd.prog w = .ok (.bool (!sameA f g)) w := by
  have h := addr_eql f g w
  unfold av at h ⊢
  simp only [binOp, Sem.run_bind, h, Result.andThen_ok, Sem.run_pure]
end Go.Proofs.YtoagmehgiaamlaaDoor

