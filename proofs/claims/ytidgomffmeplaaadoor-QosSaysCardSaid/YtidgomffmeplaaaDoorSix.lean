/-
  muezzinref1.six: the address of six bytes.
-/
import Derived.Test.YtidgomffmeplaaaDoorRef1
import Derived.Test.YtidgomffmeplaaaDoorZeroErr
namespace Go.Proofs.YtidgomffmeplaaaDoor
open Go.ChangeShapes Go.WideShapes Go.ChangeAt Go.RowKit
set_option linter.unusedVariables false

def sixA (f : Nat → UInt8) : Array Value := #[.int .u8 ((f 0).toNat : Int), .int .u8 ((f 1).toNat : Int), .int .u8 ((f 2).toNat : Int), .int .u8 ((f 3).toNat : Int), .int .u8 ((f 4).toNat : Int), .int .u8 ((f 5).toNat : Int)]
theorem sixA_one (f : Nat → UInt8) : (sixA f).all (·.oneCell') = true := by simp [sixA, Value.oneCell']
theorem sixA_set (f : Nat → UInt8) (k : Nat) (hk : k < 6) (v : UInt8) : (sixA f).setIfInBounds k (.int .u8 (v.toNat : Int)) = sixA (fun i => if i = k then v else f i) := by
  rcases (show k = 0 ∨ k = 1 ∨ k = 2 ∨ k = 3 ∨ k = 4 ∨ k = 5 by omega) with rfl | rfl | rfl | rfl | rfl | rfl <;> rfl

theorem results_cell1 {fn : Func} {p : Tmp} {ty : TypeId} (h : fn.results = #[.cell p ty]) (tmps : Array Value) (P : Program) (w : World) :
    (results fn tmps).run P w = ((asAddr (tmps.getD p undef)).run P w).andThen fun a w' => (loadVar ty a).run P w' := by
  unfold results
  rw [h]
  simp
theorem ret_cell1 {P : Program} {fn : Func} {R : Ending → World → Prop} {p : Tmp} {ty : TypeId} (hr : fn.results = #[.cell p ty]) {a : Act} {w : World} (n : Nat) (T : TypeId) (zs : Array Value)
    (hp : a.eval (.tmp p) = .pointer (some ⟨n, 0, none⟩)) (hk : Blk w n zs T) (hw : wide (P.underlying ty) = true) (hi : (P.info? ty).map (·.size) = some zs.size) (hd : a.defers = [])
    (h : R (.returned (.agg zs)) w) : bodyPost P fn R .ret a w := by
  refine bodyPost_ret (v := .agg zs) ?_ hd h
  have hp' : a.tmps.getD p undef = .pointer (some ⟨n, 0, none⟩) := hp
  obtain ⟨d, hd1, hd2⟩ : ∃ d, P.underlying ty = some d ∧ (match d with | .struct _ | .array _ _ => true | _ => false) = true := by
    cases he : P.underlying ty with
    | none => rw [he] at hw; simp [wide] at hw
    | some d => exact ⟨d, rfl, by rw [he] at hw; cases d <;> simp_all [wide]⟩
  have hl : (loadVar ty ⟨n, 0, none⟩).run P w = .ok (.agg zs) w := run_loadVar_row w n T ty zs (0, 0) d hk hd1 (by cases d <;> simp_all) hi
  rw [results_cell1 hr, hp']
  simp only [asAddr, Sem.run_pure, Result.andThen_ok, hl]

theorem six_zero (w : World) : (sixA (fun _ => 0)) = #[.int .u8 0, .int .u8 0, .int .u8 0, .int .u8 0, .int .u8 0, .int .u8 0] := rfl
set_option maxHeartbeats 1000000 in
theorem six_any (b off len cap : Nat) (xs : List UInt8) (w : World) (hrow : Row w 1 (some ⟨b, off, none⟩) len cap (xs.map u8v)) (h6 : 6 ≤ len) :
    Calls Tryd.prog 27 #[.slice (some ⟨b, off, none⟩) len cap] w fun e w' => e = .returned (av fun i => xs.getD i 0) ∧ Below w.heap.size w w' := by
  have hl : xs.length = len := by simpa using hrow.length
  have hkR : Blk ((w.alloc (.cells (sixA fun _ => 0) 30)).alloc (.cells (sixA fun _ => 0) 30)) w.heap.size (sixA fun _ => 0) 30 := (Blk.new w _ _).alloc _
  have hkL : Blk ((w.alloc (.cells (sixA fun _ => 0) 30)).alloc (.cells (sixA fun _ => 0) 30)) (w.heap.size + 1) (sixA fun _ => 0) 30 := by
    have := Blk.new (w.alloc (.cells (sixA fun _ => 0) 30)) (sixA fun _ => 0) 30
    simpa using this
  have hb0 : Below w.heap.size w ((w.alloc (.cells (sixA fun _ => 0) 30)).alloc (.cells (sixA fun _ => 0) 30)) := ((Below.refl _ _).alloc (Nat.le_refl _) _).alloc (by simp) _
  rw [six_zero w] at hkR hkL hb0
  have HRow := Lib.hid hrow
  have HL := Lib.hid hl
  clear hrow hl
  go_enter Tryd.func27, Tryd.ntmps27
  go_wp2_with fail
  generalize (w.alloc _).alloc _ = W at *
  rename_i KE hKend
  have HK := Lib.hid hKend
  clear hKend
  go_loopw [4] (fun i wr => ∃ k : Nat, k ≤ 6 ∧ i = .int .i64 k ∧ Hid (Blk wr (w.heap.size + 1) (sixA fun i => if i < k then xs.getD i 0 else 0) 30) ∧ Hid (Blk wr w.heap.size (sixA fun _ => 0) 30) ∧ Hid (Below w.heap.size w wr)) (fun i _ => 6 - (intOf i).toNat)
  case atStart => exact ⟨0, by omega, rfl, Lib.hid hkL, Lib.hid hkR, Lib.hid hb0⟩
  case round =>
    obtain ⟨k, hk, rfl, hL, hR, hB⟩ := hrel
    by_cases hlt : k < 6
    · obtain ⟨b', off', e, hb, hc⟩ := (HRow.out.below hB.out (Nat.le_refl _)).at_ (by omega)
      obtain ⟨rfl, rfl⟩ : b = b' ∧ off = off' := by injection e with e; injection e with e1 e2 e3; exact ⟨e1, e2⟩
      have hkx : k < xs.length := by rw [HL.out]; omega
      have d1 : wr.cell? ⟨b, off + k, none⟩ = some (.int .u8 ((xs[k]'hkx).toNat : Int)) := hc k _ (u8_get hkx)
      have d2 : wr.cell? ⟨w.heap.size + 1, k, none⟩ = some (.int .u8 (((fun i => if i < k then xs.getD i 0 else 0 : Nat → UInt8) k).toNat : Int)) := (hL.out.cell k).trans (six_at (fun i => if i < k then xs.getD i 0 else 0) k hlt)
      have f2 := hL.out.frozen k
      have e1 : 0 ≤ (k : Int) := by omega
      have e2 : (k : Int) < 6 := by omega
      have e3 : (k : Int) < (len : Int) := by omega
      have hset := Lib.hid (hL.out.set_ k (.int .u8 ((xs[k]'hkx).toNat : Int)))
      have hR2 := Lib.hid (hR.out.far (p := ⟨w.heap.size + 1, k, none⟩) (by simp) (.int .u8 ((xs[k]'hkx).toNat : Int)))
      have hge : w.heap.size ≤ w.heap.size + 1 := by omega
      have hB2 := Lib.hid (hB.out.setCell (p := ⟨w.heap.size + 1, k, none⟩) hge (.int .u8 ((xs[k]'hkx).toNat : Int)))
      have hxk := Lib.hid (show xs.getD k 0 = xs[k]'hkx by rw [List.getD_eq_getElem?_getD, List.getElem?_eq_getElem hkx]; rfl)
      clear hc hb
      generalize (xs[k]'hkx) = X at *
      go_wp2_with fail
      go_roundw
      case rel =>
        refine ⟨k + 1, by omega, by go_num, Lib.hid ?_, hR2, hB2⟩
        have := hset.out
        rw [sixA_set _ k hlt] at this
        have ef : (fun i => if i = k then X else if i < k then xs.getD i 0 else 0) = (fun i => if i < k + 1 then xs.getD i 0 else 0) := by
          funext i
          by_cases h1 : i = k
          · subst h1; rw [if_pos rfl, if_pos (by omega), hxk.out]
          · rw [if_neg h1]
            by_cases h2 : i < k
            · rw [if_pos h2, if_pos (by omega)]
            · rw [if_neg h2, if_neg (by omega)]
        rw [ef] at this
        exact this
      case measure => simp [intOf]; omega
    · have hke : k = 6 := by omega
      subst hke
      go_wp2_with fail
      refine HK.out _ _ ?_
      have hkL6 := hL.out
      have hkR6 := hR.out
      go_wp2_with (first
        | (refine wpList_load_blk _ (by rfl) 30 _ rfl (w.heap.size + 1) rfl 30 _ _ hkL6 Tryd.underlying30 rfl (by kernel_rfl) ?_)
        | (refine wpList_store_blk _ (by rfl) 30 _ _ rfl w.heap.size _ rfl rfl 30 _ hkR6 (by kernel_rfl) rfl (sixA_one _) ?_; intro w4 hk4 hg4))
      exact ret_cell1 rfl w.heap.size _ _ rfl hk4 (by kernel_rfl) (by kernel_rfl) rfl ⟨rfl, Below.grown hB.out hg4 hB.out.size (by simp)⟩
end Go.Proofs.YtidgomffmeplaaaDoor
