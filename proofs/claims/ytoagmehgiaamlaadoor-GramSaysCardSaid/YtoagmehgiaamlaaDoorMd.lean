/-
  Two  Addr  QosPlain  Ampdu  Parts  SeeAt.
-/
import Derived.Test.YtoagmehgiaamlaaDoorMc
import Derived.Test.YtoagmehgiaamlaaDoorMa
import Derived.Deep.MidRow
import Derived.Test.YtoagmehgiaamlaaDoorMb
namespace Go.Proofs.YtoagmehgiaamlaaDoor
open Go.ChangeShapes Go.WideShapes Go.ChangeAt Go.RowKit
set_option linter.unusedVariables false

theorem num_any (b off len cap : Nat) (x y : UInt8) (w : World) (hl : 2 ≤ len) (h0 : w.cell? ⟨b, off, none⟩ = some (.int .u8 (x.toNat : Int))) (h1 : w.cell? ⟨b, off + 1, none⟩ = some (.int .u8 (y.toNat : Int))) :
    Calls Tryd.prog 55 #[.slice (some ⟨b, off, none⟩) len cap] w fun e w' => e = .returned (.int .i64 ((x.toNat + 256 * y.toNat : Nat) : Int)) ∧ ∃ n, w' = w.drewN n := by
  have l0 : (0 : Int) < (len : Int) := by omega
  have l1 : (1 : Int) < (len : Int) := by omega
  have hx := UInt8.toNat_lt x
  have hy := UInt8.toNat_lt y
  have TJ := Lib.hid (go_join x y)
  go_enter Tryd.func55, Tryd.ntmps55
  go_wp2_with fail
  go_quiet (fail)
  go_wp2_with fail
  go_ret
  exact ⟨congrArg (fun z => Ending.returned (Value.int .i64 z)) TJ.out, _, rfl⟩

theorem row_pair (w : World) (v : Nat) (hv : v < 65536) (t : TypeId) : Row (w.alloc (.cells #[.int .u8 ((v : Int) % 256), .int .u8 ((v : Int) / 256)] t)) 1 (some ⟨w.heap.size, 0, none⟩) 2 2 ([UInt8.ofNat (v % 256), UInt8.ofNat (v / 256)].map u8v) := by
  have e1 : (v : Int) % 256 = ((UInt8.ofNat (v % 256)).toNat : Int) := by rw [UInt8.toNat_ofNat']; omega
  have e2 : (v : Int) / 256 = ((UInt8.ofNat (v / 256)).toNat : Int) := by rw [UInt8.toNat_ofNat']; omega
  rw [e1, e2]
  rcases row_new w #[.int .u8 ((UInt8.ofNat (v % 256)).toNat : Int), .int .u8 ((UInt8.ofNat (v / 256)).toNat : Int)] t with h | h
  · exact h
  · simp [maxLen] at h

theorem two_any (base : Nat) (A : Option Addr) (n C : Nat) (xs : List UInt8) (v : Nat) (hv : v < 65536) (w : World) (hown : OwnU8 w base A n C xs) (hn : n ≤ 1048576) (hb : base ≤ w.heap.size) :
    Calls Tryd.prog 24 #[.slice A n C, .int .i64 v] w fun e w' => ∃ A2 C2, e = .returned (.slice A2 (n + 2) C2) ∧ OwnU8 w' base A2 (n + 2) C2 (xs ++ [UInt8.ofNat (v % 256), UInt8.ofNat (v / 256)]) ∧ Below base w w' := by
  go_enter Tryd.func24, Tryd.ntmps24
  go_wp2_with (at_builtin; refine append_u8 _ rfl (.tmp 5) (.tmp 11) rfl base A n C _ rfl (hown.alloc _) _ 2 2 [UInt8.ofNat (v % 256), UInt8.ofNat (v / 256)] rfl (row_pair _ _ hv _) (by omega) (by simp; omega) ?_; intro A2 C2 w2 hown2 hg2 hat2)
  go_ret
  exact ⟨A2, C2, rfl, hown2, below_grown ((Below.refl _ _).alloc hb _) (hown.alloc _) (Nat.le_refl _) (by simp; omega) hg2⟩

end Go.Proofs.YtoagmehgiaamlaaDoor

namespace Go.Proofs.YtoagmehgiaamlaaDoor
open Go.ChangeShapes Go.WideShapes Go.ChangeAt Go.RowKit
set_option linter.unusedVariables false

def av (f : Nat → UInt8) : Value := .agg #[.int .u8 ((f 0).toNat : Int), .int .u8 ((f 1).toNat : Int), .int .u8 ((f 2).toNat : Int), .int .u8 ((f 3).toNat : Int), .int .u8 ((f 4).toNat : Int), .int .u8 ((f 5).toNat : Int)]
def sixL (f : Nat → UInt8) : List Value := [.int .u8 ((f 0).toNat : Int), .int .u8 ((f 1).toNat : Int), .int .u8 ((f 2).toNat : Int), .int .u8 ((f 3).toNat : Int), .int .u8 ((f 4).toNat : Int), .int .u8 ((f 5).toNat : Int)]
def sameA (f g : Nat → UInt8) : Bool := (List.range 6).all fun i => f i == g i
theorem sameA_iff {f g : Nat → UInt8} : sameA f g = true ↔ ∀ i, i < 6 → f i = g i := by
  unfold sameA
  rw [List.all_eq_true]
  simp only [List.mem_range, beq_iff_eq]
theorem sameA_no {f g : Nat → UInt8} (k : Nat) (hk : k < 6) (h : ¬ f k = g k) : sameA f g = false := by
  cases hh : sameA f g
  · rfl
  · exact absurd (sameA_iff.1 hh k hk) h
theorem six_at (f : Nat → UInt8) (k : Nat) (hk : k < 6) : (#[.int .u8 ((f 0).toNat : Int), .int .u8 ((f 1).toNat : Int), .int .u8 ((f 2).toNat : Int), .int .u8 ((f 3).toNat : Int), .int .u8 ((f 4).toNat : Int), .int .u8 ((f 5).toNat : Int)] : Array Value)[k]? = some (.int .u8 ((f k).toNat : Int)) := by
  rcases (show k = 0 ∨ k = 1 ∨ k = 2 ∨ k = 3 ∨ k = 4 ∨ k = 5 by omega) with rfl | rfl | rfl | rfl | rfl | rfl <;> rfl

set_option maxHeartbeats 400000 in
theorem sameAddr_any (f g : Nat → UInt8) (w : World) : Calls Tryd.prog 35 #[av f, av g] w fun e w' => e = .returned (.bool (sameA f g)) ∧ Below w.heap.size w w' := by
  unfold av
  have hb0 : Below w.heap.size w ((w.alloc (.cells (sixL f).toArray 26)).alloc (.cells (sixL g).toArray 26)) := ((Below.refl _ _).alloc (Nat.le_refl _) _).alloc (by simp) _
  have hk1 : Blk ((w.alloc (.cells (sixL f).toArray 26)).alloc (.cells (sixL g).toArray 26)) w.heap.size (sixL f).toArray 26 := (Blk.new w (sixL f).toArray 26).alloc _
  have hk2 : Blk ((w.alloc (.cells (sixL f).toArray 26)).alloc (.cells (sixL g).toArray 26)) (w.heap.size + 1) (sixL g).toArray 26 := by
    have := Blk.new (w.alloc (.cells (sixL f).toArray 26)) (sixL g).toArray 26
    simpa using this
  unfold sixL at hb0 hk1 hk2
  go_enter Tryd.func35, Tryd.ntmps35
  go_wp2_with fail
  generalize (w.alloc _).alloc _ = W at *
  go_loopw [5] (fun i wr => ∃ k : Nat, k ≤ 6 ∧ i = .int .i64 k ∧ Hid (∀ j, j < k → f j = g j) ∧ ∃ n, wr = W.drewN n) (fun i _ => 6 - (intOf i).toNat)
  case atStart => exact ⟨0, Nat.zero_le _, rfl, fun j hj => by omega, 0, rfl⟩
  case round =>
    obtain ⟨k, hk, rfl, HE, nd, rfl⟩ := hrel
    by_cases hlt : k < 6
    · have d1 : W.cell? ⟨w.heap.size, k, none⟩ = some (.int .u8 ((f k).toNat : Int)) := (hk1.cell k).trans (six_at f k hlt)
      have d2 : W.cell? ⟨w.heap.size + 1, k, none⟩ = some (.int .u8 ((g k).toNat : Int)) := (hk2.cell k).trans (six_at g k hlt)
      have HX := Lib.hid (show f k = f k from rfl)
      have HQ := Lib.hid (toNat_beq (f k) (g k))
      have e1 : 0 ≤ (k : Int) := by omega
      have e2 : (k : Int) < 6 := by omega
      go_wp2_with fail
      go_quiet (fail)
      go_wp2_with fail
      · have hy : (!(((f k).toNat : Int) == ((g k).toNat : Int))) = true := by assumption
        go_ret
        rw [HQ.out] at hy
        refine ⟨ret_bool (sameA_no k hlt (by simpa using hy)).symm, (hb0.trans (below_drewN _)).trans (below_drewN _)⟩
      · have hy : (!(((f k).toNat : Int) == ((g k).toNat : Int))) = false := by assumption
        go_roundw
        case rel =>
          refine ⟨k + 1, by omega, by go_num, fun j hj => ?_, _, rfl⟩
          rw [HQ.out] at hy
          by_cases hjk : j = k
          · subst hjk
            simpa using hy
          · exact HE.out j (by omega)
        case measure => simp [intOf]; omega
    · have hke : k = 6 := by omega
      have HF := Lib.hid (show sameA f g = true from sameA_iff.2 fun i hi => HE.out i (by omega))
      clear HE
      subst hke
      go_wp2_with fail
      go_ret
      exact ⟨ret_bool HF.out.symm, hb0.trans (below_drewN _)⟩

/-- cells in the midst of a block are loaded as one, at an operation that may be guarded -/
theorem list_load_mid {P : Program} {ops : Array Oper} {rest : List Oper} {op : Oper} {a : Act} {w : World} {Q : Exit → Act → World → Prop} (hgd : Region.wanted op (yielded ops a.tmps) = true) (ty : TypeId) (x : Operand) (ho : op.op = .load ty x)
    (b o : Nat) (hx : a.eval x = .pointer (some ⟨b, o, none⟩)) (cs : List Value) (d : TypeDesc) (hc : w.rangeAt b o cs)
    (hu : P.underlying ty = some d) (hd : d.isRow = true) (hi : (P.info? ty).map (·.size) = some cs.length)
    (h : wpList P ops Q rest (a.put op.dst (.agg cs.toArray)) w) : wpList P ops Q (op :: rest) a w := by
  refine wpList_step fun K hK => ?_
  rw [if_pos hgd]
  exact wp_load_mid ty x ho b o hx cs d hc hu hd hi (hK _ _ h)

theorem Blk.range {w : World} {n : Nat} {cs : Array Value} {t : TypeId} (h : Blk w n cs t) (o : Nat) (l : List Value) (hl : (cs.toList.drop o).take l.length = l) : w.rangeAt n o l := by
  intro j v hv
  rw [h.cell, ← Array.getElem?_toList]
  rw [← hl, List.getElem?_take, List.getElem?_drop] at hv
  split at hv
  · exact hv
  · cases hv
end Go.Proofs.YtoagmehgiaamlaaDoor

namespace Go.Proofs.YtoagmehgiaamlaaDoor
open Go.ChangeShapes Go.WideShapes Go.ChangeAt Go.RowKit
set_option linter.unusedVariables false

def rdA (xs : List UInt8) (i : Nat) : UInt8 := xs.getD (4 + i) 0
/-- is the head's form as it has to be? -/
def shapeOk (x1 x2 x3 x22 x24 x25 : UInt8) : Bool :=
  (x1 == 2 || x1 == 10 || x1 == 34 || x1 == 42) && x2 == 0 && x3 == 0 && x25 == 0 && x22.toNat % 16 == 0 && (x24.toNat < 8 || (16 ≤ x24.toNat && x24.toNat < 24))
def rdErr (xs : List UInt8) : Option Nat :=
  if xs.length < 26 then some 0 else if xs.getD 0 0 ≠ 0x88 then some 4
  else if shapeOk (xs.getD 1 0) (xs.getD 2 0) (xs.getD 3 0) (xs.getD 22 0) (xs.getD 24 0) (xs.getD 25 0) = false then some 1
  else if 1526 < xs.length then some 2 else none
def rdTid (x24 : UInt8) : Int := (x24.toNat % 16 : Nat)
def rdSeq (x22 x23 : UInt8) : Int := ((x22.toNat + 256 * x23.toNat) / 16 : Nat)
def bitAt (x : UInt8) (k : Nat) : Bool := x.toNat / 2 ^ k % 2 == 1

/-! ### the walk's own forms -/
theorem form1 : ∀ x : Fin 256, (!(bits .andNot .u8 ((x.val : Nat) : Int) 40 == 2)) = !((UInt8.ofNat x.val) == 2 || (UInt8.ofNat x.val) == 10 || (UInt8.ofNat x.val) == 34 || (UInt8.ofNat x.val) == 42) := by decide +kernel
theorem form24 : ∀ x : Fin 256, decide (8 ≤ bits .andNot .u8 ((x.val : Nat) : Int) 16) = !(decide (x.val < 8) || (decide (16 ≤ x.val) && decide (x.val < 24))) := by decide +kernel
theorem form24v : ∀ x : Fin 256, (x.val < 8 ∨ (16 ≤ x.val ∧ x.val < 24)) → bits .andNot .u8 ((x.val : Nat) : Int) 16 = ((x.val % 16 : Nat) : Int) := by decide +kernel
theorem formbit (k v : Nat) (hk : (k, v) ∈ [(3, 8), (5, 32), (4, 16)]) : ∀ x : Fin 256, decide (0 < bits .and .u8 ((x.val : Nat) : Int) (v : Int)) = (x.val / 2 ^ k % 2 == 1) := by
  simp only [List.mem_cons, Prod.mk.injEq, List.not_mem_nil, or_false] at hk
  rcases hk with ⟨rfl, rfl⟩ | ⟨rfl, rfl⟩ | ⟨rfl, rfl⟩ <;> decide +kernel
theorem of_fin {p : Nat → UInt8 → Prop} (h : ∀ x : Fin 256, p x.val (UInt8.ofNat x.val)) (x : UInt8) : p x.toNat x := by
  have := h ⟨x.toNat, UInt8.toNat_lt x⟩
  simpa using this
theorem go_form1 (x : UInt8) : (!(bits .andNot .u8 (x.toNat : Int) 40 == 2)) = !(x == 2 || x == 10 || x == 34 || x == 42) :=
  of_fin (p := fun n x => (!(bits .andNot .u8 (n : Int) 40 == 2)) = !(x == 2 || x == 10 || x == 34 || x == 42)) form1 x
theorem go_form24 (x : UInt8) : decide (8 ≤ bits .andNot .u8 (x.toNat : Int) 16) = !(decide (x.toNat < 8) || (decide (16 ≤ x.toNat) && decide (x.toNat < 24))) :=
  of_fin (p := fun n _ => decide (8 ≤ bits .andNot .u8 (n : Int) 16) = !(decide (n < 8) || (decide (16 ≤ n) && decide (n < 24)))) form24 x
theorem go_form24v (x : UInt8) (h : x.toNat < 8 ∨ (16 ≤ x.toNat ∧ x.toNat < 24)) : bits .andNot .u8 (x.toNat : Int) 16 = ((x.toNat % 16 : Nat) : Int) :=
  of_fin (p := fun n _ => (n < 8 ∨ (16 ≤ n ∧ n < 24)) → bits .andNot .u8 (n : Int) 16 = ((n % 16 : Nat) : Int)) form24v x h
theorem go_bit3 (x : UInt8) : decide (0 < bits .and .u8 (x.toNat : Int) 8) = bitAt x 3 := of_fin (p := fun n _ => decide (0 < bits .and .u8 (n : Int) 8) = (n / 2 ^ 3 % 2 == 1)) (formbit 3 8 (by decide)) x
theorem go_bit5 (x : UInt8) : decide (0 < bits .and .u8 (x.toNat : Int) 32) = bitAt x 5 := of_fin (p := fun n _ => decide (0 < bits .and .u8 (n : Int) 32) = (n / 2 ^ 5 % 2 == 1)) (formbit 5 32 (by decide)) x
theorem go_bit4 (x : UInt8) : decide (0 < bits .and .u8 (x.toNat : Int) 16) = bitAt x 4 := of_fin (p := fun n _ => decide (0 < bits .and .u8 (n : Int) 16) = (n / 2 ^ 4 % 2 == 1)) (formbit 4 16 (by decide)) x
end Go.Proofs.YtoagmehgiaamlaaDoor

namespace Go.Proofs.YtoagmehgiaamlaaDoor
open Go.ChangeShapes Go.WideShapes Go.ChangeAt Go.RowKit
set_option linter.unusedVariables false

set_option maxHeartbeats 800000 in
theorem long_any (b off n C : Nat) (x y : UInt8) (w : World) (hl : 2 ≤ n) (h0 : w.cell? ⟨b, off, none⟩ = some (.int .u8 (x.toNat : Int))) (h1 : w.cell? ⟨b, off + 1, none⟩ = some (.int .u8 (y.toNat : Int))) :
    Calls Tryd.prog 64 #[.slice (some ⟨b, off, none⟩) n C] w fun e w' => e = .returned (.tuple #[.int .i64 (((x.toNat + 256 * y.toNat) / 16 : Nat) : Int), .int .i64 (((x.toNat + 256 * y.toNat) % 16 : Nat) : Int)]) ∧ ∃ k, w' = w.drewN k := by
  have l0 : (0 : Int) < (n : Int) := by omega
  have l1 : (1 : Int) < (n : Int) := by omega
  have hx := UInt8.toNat_lt x
  have hy := UInt8.toNat_lt y
  have TJ := Lib.hid (go_join x y)
  obtain ⟨v, hv⟩ : ∃ v : Nat, x.toNat + 256 * y.toNat = v := ⟨_, rfl⟩
  rw [hv] at TJ ⊢
  have HV := Lib.hid hv
  have hv6 : v < 65536 := by omega
  clear hv
  go_enter Tryd.func64, Tryd.ntmps64
  go_wp2_with fail
  go_quiet (fail)
  rw [TJ.out]
  have q1 : (0 : Int) ≤ (v : Int) := by omega
  have q2 : (v : Int) < 65536 := by omega
  go_wp2_with fail
  go_ret2
  exact ⟨by rw [Int.natCast_ediv, Int.natCast_emod]; rfl, _, rfl⟩

theorem cell4 {w : World} {b off n C : Nat} {xs : List UInt8} (h : Row w 1 (some ⟨b, off, none⟩) n C (xs.map u8v)) {j : Nat} (hj : j < n) : w.cell? ⟨b, off + j, none⟩ = some (.int .u8 ((xs.getD j 0).toNat : Int)) := by
  have hlx : xs.length = n := by simpa using h.1
  obtain ⟨b', off', e, _, hc⟩ := h.at_ (by omega)
  injection e with e
  injection e with e1 e2
  subst e1 e2
  have := hc j _ (u8_get (xs := xs) (k := j) (by omega))
  rw [this, List.getD_eq_getElem?_getD, List.getElem?_eq_getElem (by omega)]
  rfl
theorem row_take8 {w : World} {A : Option Addr} {n C : Nat} {xs : List UInt8} (h : Row w 1 A n C (xs.map u8v)) {k : Nat} (hk : k ≤ n) : Row w 1 A k C ((xs.take k).map u8v) := by
  have := h.take hk
  rwa [Nat.mul_one, ← List.map_take] at this
theorem row_drop8 {w : World} {b off n C : Nat} {xs : List UInt8} (h : Row w 1 (some ⟨b, off, none⟩) n C (xs.map u8v)) {k : Nat} (hk : k ≤ n) : Row w 1 (if C = k then some ⟨b, off, none⟩ else some ⟨b, off + k, none⟩) (n - k) (C - k) ((xs.drop k).map u8v) := by
  have := h.cut hk
  rwa [← List.map_drop] at this

set_option maxHeartbeats 1600000 in
theorem part_err {w : World} {E : Nat → Addr} (hE : Errs [0, 1, 5] w E) (A : Option Addr) (n C : Nat) (b : List UInt8) (h : Row w 1 A n C (b.map u8v)) (i : Nat) (hp : partP b = .error i) :
    Calls Tryd.prog 45 #[.slice A n C] w fun e w' => e = .returned (.tuple #[.slice none 0 0, errV E i]) ∧ Below w.heap.size w w' := by
  have hm := h.len_cap
  have hlx : b.length = n := by simpa using h.1
  have hg0 := hE.at_ 0 2 (by decide) rfl
  have hg1 := hE.at_ 1 1 (by decide) rfl
  have hg5 := hE.at_ 5 8 (by decide) rfl
  unfold partP at hp
  by_cases h4 : n < 4
  case pos =>
    rw [if_pos (by omega)] at hp
    injection hp with hp
    subst hp
    clear hlx
    go_enter Tryd.func45, Tryd.ntmps45
    go_wp2_with fail
    go_quiet (fail)
    go_wp2_with fail
    go_ret2
    exact ⟨rfl, by first | exact below_drewN _ | exact (below_drewN _).trans (below_drewN _)⟩
  case neg =>
  rw [if_neg (by omega)] at hp
  obtain ⟨bb, off, rfl, hlt, -⟩ := h.at_ (by omega)
  have c0 := cell4 h (j := 0) (by omega)
  have c1 := cell4 h (j := 1) (by omega)
  have c3 := cell4 h (j := 3) (by omega)
  have HL := Lib.hid (long_any bb off n C (b.getD 0 0) (b.getD 1 0) w (by omega) c0 c1)
  have HF := Lib.hid (fun k => fits_any (some ⟨bb, off, none⟩) 3 C (b.take 3) (w.drewN k) (row_take8 (h.drewN k) (by omega)))
  clear c0 c1
  have hv : numB b < 65536 := by
    unfold numB
    have h1 := UInt8.toNat_lt (b.getD 0 0)
    have h2 := UInt8.toNat_lt (b.getD 1 0)
    omega
  rw [show (b.getD 0 0).toNat + 256 * (b.getD 1 0).toNat = numB b from rfl] at HL
  have g1 : (0 : Int) ≤ 3 := by omega
  have g2 : (3 : Int) ≤ (C : Int) := by omega
  have g3 : (3 : Int) < (n : Int) := by omega
  rcases hf : Crc.fits (b.take 3)
  case false =>
    rw [if_pos hf] at hp
    injection hp with hp
    subst hp
    have HFF := Lib.hid hf
    clear hf hlx
    go_enter Tryd.func45, Tryd.ntmps45
    go_wp2_with fail
    refine HL.out.mono ?_
    rintro e w1 ⟨rfl, k, rfl⟩
    go_wp2_with fail
    refine (HF.out k).mono ?_
    rintro e w1 ⟨rfl, k2, rfl⟩
    rw [HFF.out]
    go_wp2_with fail
    go_quiet (fail)
    go_wp2_with fail
    go_ret2
    exact ⟨rfl, by first | exact below_drewN _ | exact (below_drewN _).trans (below_drewN _)⟩
  case true =>
  rw [if_neg (by rw [hf]; simp)] at hp
  have HFF := Lib.hid hf
  clear hf
  generalize numB b = v at *
  generalize b.getD 3 0 = s at *
  by_cases q1 : s = 78
  case neg =>
    rw [if_pos (.inl q1)] at hp
    injection hp with hp
    subst hp
    have d1 : ((s.toNat : Int) != 78) = true := by
      have : s.toNat ≠ 78 := fun e => q1 (UInt8.toNat_inj.1 e)
      simp; omega
    clear hlx q1
    go_enter Tryd.func45, Tryd.ntmps45
    go_wp2_with fail
    refine HL.out.mono ?_
    rintro e w1 ⟨rfl, k, rfl⟩
    go_wp2_with fail
    refine (HF.out k).mono ?_
    rintro e w1 ⟨rfl, k2, rfl⟩
    rw [HFF.out]
    go_wp2_with fail
    go_quiet (fail)
    go_wp2_with fail
    go_ret2
    exact ⟨rfl, by first | exact below_drewN _ | exact (below_drewN _).trans (below_drewN _)⟩
  case pos =>
  subst q1
  have c3' : w.cell? ⟨bb, off + 3, none⟩ = some (.int .u8 78) := c3
  clear c3
  by_cases q2 : v % 16 = 0
  case neg =>
    rw [if_pos (.inr (.inl q2))] at hp
    injection hp with hp
    subst hp
    have d2 : (((v % 16 : Nat) : Int) != 0) = true := by simp; omega
    generalize v % 16 = lo at *
    generalize v / 16 = nn at *
    clear hlx q2
    go_enter Tryd.func45, Tryd.ntmps45
    go_wp2_with fail
    refine HL.out.mono ?_
    rintro e w1 ⟨rfl, k, rfl⟩
    go_wp2_with fail
    refine (HF.out k).mono ?_
    rintro e w1 ⟨rfl, k2, rfl⟩
    rw [HFF.out]
    go_wp2_with fail
    go_quiet (fail)
    go_wp2_with fail
    go_ret2
    exact ⟨rfl, by first | exact below_drewN _ | exact (below_drewN _).trans (below_drewN _)⟩
  case pos =>
  by_cases q3 : v / 16 = 0
  case pos =>
    rw [if_pos (.inr (.inr q3))] at hp
    injection hp with hp
    subst hp
    rw [q2, q3] at HL
    clear hlx q2 q3
    go_enter Tryd.func45, Tryd.ntmps45
    go_wp2_with fail
    refine HL.out.mono ?_
    rintro e w1 ⟨rfl, k, rfl⟩
    go_wp2_with fail
    refine (HF.out k).mono ?_
    rintro e w1 ⟨rfl, k2, rfl⟩
    rw [HFF.out]
    go_wp2_with fail
    go_quiet (fail)
    go_wp2_with fail
    go_ret2
    exact ⟨rfl, by first | exact below_drewN _ | exact (below_drewN _).trans (below_drewN _)⟩
  case neg =>
  rw [if_neg (by rintro (h | h | h); exact h rfl; exact h q2; exact q3 h)] at hp
  by_cases q4 : b.length - 4 < v / 16
  case neg => rw [if_neg q4] at hp; cases hp
  case pos =>
    rw [if_pos q4] at hp
    injection hp with hp
    subst hp
    rw [q2] at HL
    rw [hlx] at q4
    have d3 : (((v / 16 : Nat) : Int) == 0) = false := by simp; omega
    have d4 : (n : Int) - 4 < ((v / 16 : Nat) : Int) := by omega
    have d5 : IntKind.i64.wrap ((n : Int) - 4) = (n : Int) - 4 := IntWalk.i64_in _ (by omega)
    generalize v / 16 = nn at *
    clear hlx q2 q3 q4
    go_enter Tryd.func45, Tryd.ntmps45
    go_wp2_with fail
    refine HL.out.mono ?_
    rintro e w1 ⟨rfl, k, rfl⟩
    go_wp2_with fail
    refine (HF.out k).mono ?_
    rintro e w1 ⟨rfl, k2, rfl⟩
    rw [HFF.out]
    go_wp2_with fail
    go_quiet (fail)
    go_wp2_with fail
    go_ret2
    exact ⟨rfl, by first | exact below_drewN _ | exact (below_drewN _).trans (below_drewN _)⟩

set_option maxHeartbeats 1600000 in
theorem part_yes {w : World} (A : Option Addr) (n C : Nat) (b x : List UInt8) (h : Row w 1 A n C (b.map u8v)) (hp : partP b = .ok x) :
    Calls Tryd.prog 45 #[.slice A n C] w fun e w' => ∃ A2 C2, e = .returned (.tuple #[.slice A2 x.length C2, .nilIface]) ∧ OwnU8 w' w.heap.size A2 x.length C2 x ∧ Below w.heap.size w w' := by
  have hm := h.len_cap
  have hlx : b.length = n := by simpa using h.1
  obtain ⟨p1, p2, p3, p4, p5⟩ := part_ok hp
  rw [hlx] at p1 p4
  obtain ⟨bb, off, rfl, hlt, -⟩ := h.at_ (by omega)
  have c0 := cell4 h (j := 0) (by omega)
  have c1 := cell4 h (j := 1) (by omega)
  have c3 := cell4 h (j := 3) (by omega)
  have HL := Lib.hid (long_any bb off n C (b.getD 0 0) (b.getD 1 0) w (by omega) c0 c1)
  have HF := Lib.hid (fun k => fits_any (some ⟨bb, off, none⟩) 3 C (b.take 3) (w.drewN k) (row_take8 (h.drewN k) (by omega)))
  rw [show (b.getD 0 0).toNat + 256 * (b.getD 1 0).toNat = numB b from rfl] at HL
  clear c0 c1
  obtain ⟨hf, hs, hlo, hnn⟩ : Crc.fits (b.take 3) = true ∧ b.getD 3 0 = 78 ∧ numB b % 16 = 0 ∧ numB b / 16 = x.length := by
    unfold partP at hp
    rw [if_neg (by omega)] at hp
    split at hp
    · cases hp
    · rename_i hf
      split at hp
      · cases hp
      · rename_i hq
        split at hp
        · cases hp
        · rename_i hq4
          injection hp with hp
          refine ⟨by simpa using hf, ?_, ?_, ?_⟩
          · rcases Decidable.em (b.getD 3 0 = 78) with h | h
            · exact h
            · exact absurd (.inl h) hq
          · rcases Decidable.em (numB b % 16 = 0) with h | h
            · exact h
            · exact absurd (.inr (.inl h)) hq
          · have h1 : x.length = min (numB b / 16) (b.length - 4) := by rw [← hp, List.length_take, List.length_drop]
            omega
  rw [hs] at c3
  have c3' : w.cell? ⟨bb, off + 3, none⟩ = some (.int .u8 78) := c3
  have HFF := Lib.hid hf
  rw [hlo, hnn] at HL
  have hrow : Row w 1 (if C = 4 then some ⟨bb, off, none⟩ else some ⟨bb, off + 4, none⟩) x.length (C - 4) (x.map u8v) := by
    have h1 := row_take8 (row_drop8 h (k := 4) (by omega)) (k := x.length) (by omega)
    rwa [← p2] at h1
  have HR := Lib.hid hrow
  have hC4 : ¬ C = 4 := by omega
  rw [if_neg hC4] at HR
  have HC := Lib.hid (fun k => clone_any (some ⟨bb, off + 4, none⟩) x.length (C - 4) x (w.drewN k) (HR.out.drewN k) (by omega))
  have g1 : (0 : Int) ≤ 3 := by omega
  have g2 : (3 : Int) ≤ (C : Int) := by omega
  have g3 : (3 : Int) < (n : Int) := by omega
  have d4 : ¬ (n : Int) - 4 < (x.length : Int) := by omega
  have d4' : decide ((n : Int) - 4 < (x.length : Int)) = false := decide_eq_false d4
  have d5 : IntKind.i64.wrap ((n : Int) - 4) = (n : Int) - 4 := IntWalk.i64_in _ (by omega)
  have d6 : (4 : Int) + (x.length : Int) ≤ (C : Int) := by omega
  have d7 : (4 : Int) ≤ 4 + (x.length : Int) := by omega
  generalize hN : x.length = nn at *
  have d3 : (((nn : Nat) : Int) == 0) = false := by simp; omega
  have HN := Lib.hid hN
  clear hN
  clear hf hs hlo hnn hrow p2 hlx c3 hp
  go_enter Tryd.func45, Tryd.ntmps45
  go_wp2_with fail
  refine HL.out.mono ?_
  rintro e w1 ⟨rfl, k, rfl⟩
  go_wp2_with fail
  refine (HF.out k).mono ?_
  rintro e w1 ⟨rfl, k2, rfl⟩
  rw [HFF.out]
  go_wp2_with fail
  refine (HC.out (k + k2)).mono ?_
  rintro e w3 ⟨⟨A2, n2, C2, rfl, hown, hb⟩, -⟩
  obtain rfl : n2 = nn := hown.len.symm.trans HN.out
  have HO := Lib.hid hown
  have HB := Lib.hid hb
  clear hown hb
  go_wp2_with fail
  go_ret2
  exact ⟨A2, C2, rfl, HO.out, (below_drewN _).trans HB.out⟩
end Go.Proofs.YtoagmehgiaamlaaDoor

namespace Go.Proofs.YtoagmehgiaamlaaDoor
open Go.ChangeShapes Go.WideShapes Go.ChangeAt Go.RowKit
set_option linter.unusedVariables false

theorem info_part : (Tryd.prog.info? 22).map (fun i => (i.zero, i.size, i.bytes)) = some (some (.slice none 0 0), 1, 24) := by kernel_rfl
/-- a list of byte lists that can be read -/
def RowP (w : World) (A : Option Addr) (n C : Nat) (L : List (List UInt8)) : Prop :=
  n = L.length ∧ ∃ vs : List Value, Row w 1 A n C vs ∧ ∀ (i : Nat) (u : Value) (x : List UInt8), vs[i]? = some u → L[i]? = some x → ∃ A' C', u = .slice A' x.length C' ∧ Row w 1 A' x.length C' (x.map u8v)
/-- a list of byte lists of the call's own -/
def OwnP (w : World) (base : Nat) (v : Value) (L : List (List UInt8)) : Prop :=
  ∃ A C vs, v = .slice A L.length C ∧ w.ownsRow base 22 1 (.slice A L.length C) L.length vs ∧ ∀ (i : Nat) (u : Value) (x : List UInt8), vs[i]? = some u → L[i]? = some x → ∃ A' C', u = .slice A' x.length C' ∧ OwnU8 w base A' x.length C' x
section
variable {w w' : World} {A : Option Addr} {n C base : Nat} {L : List (List UInt8)} {v : Value}
theorem RowP.below (h : RowP w A n C L) {B : Nat} (hb : Below B w w') (hB : w.heap.size ≤ B) : RowP w' A n C L := by
  obtain ⟨h1, vs, h2, h3⟩ := h
  refine ⟨h1, vs, h2.below hb hB, fun i u x hu hx => ?_⟩
  obtain ⟨A', C', e, hr⟩ := h3 i u x hu hx
  exact ⟨A', C', e, hr.below hb hB⟩
theorem RowP.alloc (h : RowP w A n C L) (o : Obj) : RowP (w.alloc o) A n C L := h.below ((Below.refl _ _).alloc (Nat.le_refl _) o) (Nat.le_refl _)
theorem RowP.at_ (h : RowP w A n C L) {k : Nat} (hk : k < n) : ∃ b off x A' C', A = some ⟨b, off, none⟩ ∧ b < w.heap.size ∧ L[k]? = some x ∧ w.cell? ⟨b, off + k, none⟩ = some (.slice A' x.length C') ∧ Row w 1 A' x.length C' (x.map u8v) := by
  obtain ⟨h1, vs, h2, h3⟩ := h
  have hvs : vs.length = n := by have := h2.1; omega
  obtain ⟨b, off, hA, hlt, hc⟩ := h2.at_ (by omega)
  have hu : vs[k]? = some (vs[k]'(by omega)) := List.getElem?_eq_getElem (by omega)
  have hx : L[k]? = some (L[k]'(by omega)) := List.getElem?_eq_getElem (by omega)
  obtain ⟨A', C', e, hr⟩ := h3 k _ _ hu hx
  refine ⟨b, off, L[k]'(by omega), A', C', hA, hlt, hx, ?_, hr⟩
  rw [hc k _ hu, e]
theorem RowP.take (h : RowP w A n C L) {k : Nat} (hk : k ≤ n) : RowP w A k C (L.take k) := by
  obtain ⟨h1, vs, h2, h3⟩ := h
  refine ⟨by rw [List.length_take]; omega, vs.take k, by have := h2.take hk; rwa [Nat.mul_one] at this, fun i u x hu hx => ?_⟩
  rw [List.getElem?_take] at hu hx
  split at hu
  · rename_i hik; rw [if_pos hik] at hx; exact h3 i u x hu hx
  · cases hu
theorem OwnP.row (h : OwnP w base v L) : ∃ A C, v = .slice A L.length C ∧ RowP w A L.length C L := by
  obtain ⟨A, C, vs, e, ho, hp⟩ := h
  refine ⟨A, C, e, rfl, vs, row_of_own ho, fun i u x hu hx => ?_⟩
  obtain ⟨A', C', e', ho'⟩ := hp i u x hu hx
  exact ⟨A', C', e', ho'.row⟩
theorem OwnP.below (h : OwnP w base v L) {B : Nat} (hb : Below B w w') (hB : w.heap.size ≤ B) : OwnP w' base v L := by
  obtain ⟨A, C, vs, e, ho, hp⟩ := h
  refine ⟨A, C, vs, e, own_below ho hb hB, fun i u x hu hx => ?_⟩
  obtain ⟨A', C', e', ho'⟩ := hp i u x hu hx
  exact ⟨A', C', e', ho'.below hb hB⟩
theorem OwnP.alloc (h : OwnP w base v L) (o : Obj) : OwnP (w.alloc o) base v L := h.below ((Below.refl _ _).alloc (Nat.le_refl _) o) (Nat.le_refl _)
theorem OwnP.base_le (h : OwnP w base v L) {b' : Nat} (hb : b' ≤ base) : OwnP w b' v L := by
  obtain ⟨A, C, vs, e, ho, hp⟩ := h
  refine ⟨A, C, vs, e, ⟨ho.1, ?_⟩, fun i u x hu hx => ?_⟩
  · rcases ho.2 with h2 | ⟨g, cap, cur, hv, hg, r⟩
    · exact .inl h2
    · exact .inr ⟨g, cap, cur, hv, by omega, r⟩
  · obtain ⟨A', C', e', ho'⟩ := hp i u x hu hx
    exact ⟨A', C', e', ho'.base_le hb⟩
end
theorem ownP_nil (w : World) (base : Nat) : OwnP w base (.slice none 0 0) [] := ⟨none, 0, [], rfl, World.ownsRow_nil w base _ 1, fun i u x hu _ => by simp at hu⟩

theorem append_part (w : World) {ops : Array Oper} {rest : List Oper} {o : Oper} {a : Act} {Q : Exit → Act → World → Prop} (hgd : Region.wanted o (yielded ops a.tmps) = true) (s x : Operand)
    (ho : o.op = .call { callee := .builtin .append, args := #[s, x], argTypes := #[38, 38] })
    (base : Nat) (L : List (List UInt8)) (hown : OwnP w base (a.eval s) L) (hL : L.length ≤ 2000000)
    (A' : Option Addr) (C' : Nat) (y : List UInt8) (hy : OwnU8 w base A' y.length C' y)
    (g : Nat) (hx : a.eval x = .slice (some ⟨g, 0, none⟩) 1 1) (hr : Row w 1 (some ⟨g, 0, none⟩) 1 1 [.slice A' y.length C']) (hbase : base ≤ w.heap.size)
    (h : ∀ v' w', OwnP w' base v' (L ++ [y]) → (∃ A C, v' = .slice A (L.length + 1) C) → Below base w w' → (∀ (A1 : Option Addr) (n1 C1 : Nat) (xs : List UInt8), OwnU8 w base A1 n1 C1 xs → OwnU8 w' base A1 n1 C1 xs) → wpList Tryd.prog ops Q rest (a.put o.dst v') w') :
    wpList Tryd.prog ops Q (o :: rest) a w := by
  obtain ⟨i0, hi, hz, hsz, hby⟩ := info_parts info_part
  obtain ⟨A, C, vs, e, ho', hp⟩ := hown
  refine wpList_append_row w hgd s x _ ho base _ i0 _ 1 24 Tryd.underlying38 hi hz hsz hby rfl (by decide) A L.length C vs e ho' (some ⟨g, 0, none⟩) 1 1 [.slice A' y.length C'] hx hr ?_ (by unfold maxLen; omega) (by omega) hbase ?_
  · intro u hu
    simp at hu
    subst hu
    rfl
  · intro A2 C2 w' h1 h2 h3 h4
    have keep : ∀ (A1 : Option Addr) (n1 C1 : Nat) (xs : List UInt8), OwnU8 w base A1 n1 C1 xs → OwnU8 w' base A1 n1 C1 xs := fun A1 n1 C1 xs hh => hh.keep h2 (own_ne_own hh ho' (by decide))
    refine h _ w' ⟨A2, C2, vs ++ [.slice A' y.length C'], by rw [List.length_append]; rfl, by rw [List.length_append]; exact h1, fun i u x hu hx => ?_⟩ ⟨A2, C2, rfl⟩ (below_grown (Below.refl _ _) ho' (Nat.le_refl _) hbase h2) keep
    have hvl : vs.length = L.length := by have := ho'.1; omega
    rcases Nat.lt_trichotomy i L.length with hlt | heq | hgt
    · rw [List.getElem?_append_left (by omega)] at hu hx
      obtain ⟨A1, C1, e1, o1⟩ := hp i u x hu hx
      exact ⟨A1, C1, e1, keep _ _ _ _ o1⟩
    · subst heq
      rw [List.getElem?_append_right (by omega), hvl, Nat.sub_self] at hu
      rw [List.getElem?_append_right (by omega), Nat.sub_self] at hx
      simp at hu hx
      subst hu hx
      exact ⟨A', C', rfl, keep _ _ _ _ hy⟩
    · rw [List.getElem?_append_right (by omega)] at hx
      have : ([y] : List (List UInt8))[i - L.length]? = none := List.getElem?_eq_none (by simp; omega)
      rw [this] at hx; cases hx
theorem row_slice (w : World) (v : Value) (t : TypeId) : Row (w.alloc (.cells #[v] t)) 1 (some ⟨w.heap.size, 0, none⟩) 1 1 [v] := row_one w v t
end Go.Proofs.YtoagmehgiaamlaaDoor

namespace Go.Proofs.YtoagmehgiaamlaaDoor
open Go.ChangeShapes Go.WideShapes Go.ChangeAt Go.RowKit
set_option linter.unusedVariables false

/-- an error with a place around it -/
def atV (p : Nat) : Value := .iface 72 (.pointer (some ⟨p, 0, none⟩))

set_option maxHeartbeats 400000 in
theorem placed_any (n pos : Int) (hn : ¬ n = 0) (w : World) : Calls Tryd.prog 13 #[.int .i64 n, .int .i64 pos] w fun e w' => e = .returned (.agg #[.int .i64 n, .bool true, .int .i64 pos]) ∧ Below w.heap.size w w' := by
  have hb : (n == 0) = false := by simp [hn]
  go_enter Tryd.func13, Tryd.ntmps13
  go_wp2_with fail
  exact bodyPost_ret (v := .agg #[.int .i64 n, .bool true, .int .i64 pos]) (by simp [results, Tryd.results13, go_sem]) rfl ⟨rfl, (Below.refl _ _).alloc (Nat.le_refl _) _⟩

set_option maxHeartbeats 400000 in
theorem sameFaultP_any (a a' : Int) (b b' : Bool) (p p' : Int) (w : World) : Calls Tryd.prog 29 #[.agg #[.int .i64 a, .bool b, .int .i64 p], .agg #[.int .i64 a', .bool b', .int .i64 p']] w
    fun e w' => e = .returned (.bool ((a == a') && ((b == b') && (p == p')))) ∧ Below w.heap.size w w' := by
  by_cases h : a = a'
  · subst h
    by_cases h2 : b = b'
    · subst h2
      go_enter Tryd.func29, Tryd.ntmps29
      go_wp2_with fail
      go_ret
      exact ⟨ret_bool (by simp), ((Below.refl _ _).alloc (Nat.le_refl _) _).alloc (by simp) _⟩
    · have hf : (b == b') = false := by simp [h2]
      go_enter Tryd.func29, Tryd.ntmps29
      go_wp2_with fail
      go_ret
      exact ⟨ret_bool (by simp [h2]), ((Below.refl _ _).alloc (Nat.le_refl _) _).alloc (by simp) _⟩
  · have hf : (a == a') = false := by simp [h]
    go_enter Tryd.func29, Tryd.ntmps29
    go_wp2_with fail
    go_ret
    exact ⟨ret_bool (by simp [h]), ((Below.refl _ _).alloc (Nat.le_refl _) _).alloc (by simp) _⟩

theorem is_at (a : Option Addr) (w : World) : (Instr.typeAssert (.iface 72 (.pointer a)) 42 72 true).run Tryd.prog w = .ok (.tuple #[.pointer a, .bool true]) w := by kernel_rfl

/-- what stays while Fault looks into an error with a place -/
abbrev FaultS (w : World) (E : Nat → Addr) (p : Nat) (i : Nat) (pos : Int) (w' : World) : Prop :=
  w'.cell? ⟨p, 0, none⟩ = some (.int .i64 pos) ∧ w'.cell? ⟨p, 1, none⟩ = some (.iface 122 (.pointer (some (E i)))) ∧ Below w.heap.size w w'
theorem faultS_keep {w w' w1 : World} {E : Nat → Addr} {p i : Nat} {pos : Int} (hp : p < w.heap.size) (h : FaultS w E p i pos w') (hb : Below w'.heap.size w' w1) : FaultS w E p i pos w1 := by
  obtain ⟨h0, h1, h3⟩ := h
  have hlt : p < w'.heap.size := Nat.lt_of_lt_of_le hp h3.size
  exact ⟨(hb.cell (p := ⟨p, 0, none⟩) hlt).trans h0, (hb.cell (p := ⟨p, 1, none⟩) hlt).trans h1, h3.trans (hb.mono h3.size)⟩
theorem faultS_set {w w' : World} {E : Nat → Addr} {p i : Nat} {pos : Int} (hp : p < w.heap.size) (h : FaultS w E p i pos w') (k : Nat) (u : Value) : FaultS w E p i pos (w'.setCell ⟨w.heap.size, k, none⟩ u) := by
  obtain ⟨h0, h1, h3⟩ := h
  have hb : Below w.heap.size w' (w'.setCell ⟨w.heap.size, k, none⟩ u) := (Below.refl _ _).setCell (p := ⟨w.heap.size, k, none⟩) (Nat.le_refl _) u
  exact ⟨(hb.cell (p := ⟨p, 0, none⟩) hp).trans h0, (hb.cell (p := ⟨p, 1, none⟩) hp).trans h1, h3.trans hb⟩
theorem faultS_errs {w w' : World} {E : Nat → Addr} {p i : Nat} {pos : Int} (hE : Errs allErr w E) (h : FaultS w E p i pos w') : Errs allErr w' E := hE.below h.2.2 (Nat.le_refl _)

set_option maxHeartbeats 800000 in
theorem fault_at {w : World} {E : Nat → Addr} (h : Errs allErr w E) (i : Nat) (hi : i ∈ allErr) (p : Nat) (pos : Int) (hk : Blk w p #[.int .i64 pos, errV E i] 74) :
    Calls Tryd.prog 30 #[atV p] w fun e w' => e = .returned (.agg #[.int .i64 (101 + (i : Int)), .bool true, .int .i64 pos]) ∧ Below w.heap.size w w' := by
  unfold errV at hk
  unfold atV
  have hta := is_at (some ⟨p, 0, none⟩)
  have hp0 := hk.lt
  have hkr : Blk (w.alloc (.cells #[.int .i64 0, .bool false, .int .i64 0] 47)) w.heap.size #[.int .i64 0, .bool false, .int .i64 0] 47 := Blk.new _ _ _
  have hk1 := hk.alloc (.cells #[.int .i64 0, .bool false, .int .i64 0] 47)
  have hb0 : Below w.heap.size w (w.alloc (.cells #[.int .i64 0, .bool false, .int .i64 0] 47)) := (Below.refl _ _).alloc (Nat.le_refl _) _
  have c0 := hk1.cell 0
  have c1 := hk1.cell 1
  have HE := Lib.hid h
  simp only [List.getElem?_toArray, List.getElem?_cons_zero, List.getElem?_cons_succ] at c0 c1
  have g6 : ∀ w, (eqGuard .eql 42 (.tmp 24) (.const .nilIface) (.iface 122 (.pointer (some (E i)))) .nilIface).run Tryd.prog w = .ok () w := fun w => err_guard E (some i) (.tmp 24) .nilIface w
  have e6 : ∀ w, (binOp .eql 42 (.iface 122 (.pointer (some (E i)))) .nilIface).run Tryd.prog w = .ok (.bool false) w := fun w => err_isnil E (some i) w
  clear h hk1
  go_enter Tryd.func30, Tryd.ntmps30
  go_wp2_with fail
  generalize w.alloc _ = W0 at *
  have hS0 : FaultS w E p i pos W0.drew := ⟨c0, c1, hb0.trans (below_drewN (w := W0) 1)⟩
  have HKR := Lib.hid hkr
  have hlr := hkr.lt
  clear hkr
  go_region_held3 (fun w' => w'.cell? ⟨p, 0, none⟩ = some (.int .i64 pos) ∧ w'.cell? ⟨p, 1, none⟩ = some (.iface 122 (.pointer (some (E i)))) ∧ Below w.heap.size w w')
    (first | exact hS0 | exact HSA.out | exact HSB.out | exact HSB3.out)
    (first
      | (go_at_call 54
         refine (sentinel_any (faultS_errs (w := w) (p := p) (i := i) (pos := pos) HE.out (by assumption)) i hi).mono ?_
         rintro e wA ⟨rfl, hbA⟩
         have HSA := Lib.hid (faultS_keep (w := w) (E := E) (p := p) (i := i) (pos := pos) hp0 (by assumption) hbA)
         have HKA := Lib.hid (Blk.below (w := W0.drew) HKR.out hbA hlr)
         have hlA := HKA.out.lt
         clear hbA)
      | (go_at_call 13
         refine (placed_any _ _ (by omega) _).mono ?_
         rintro e wB ⟨rfl, hbB⟩
         have HSB := Lib.hid (faultS_keep (w := w) (E := E) (p := p) (i := i) (pos := pos) hp0 (by assumption) hbB)
         have hkB := HKA.out.below hbB hlA
         have r0 : wB.cell? ⟨w.heap.size, 0, none⟩ = some (.int .i64 0) := hkB.cell 0
         have r1 : wB.cell? ⟨w.heap.size, 1, none⟩ = some (.bool false) := hkB.cell 1
         have r2 : wB.cell? ⟨w.heap.size, 2, none⟩ = some (.int .i64 0) := hkB.cell 2
         have f0 := hkB.frozen 0
         have f1 := hkB.frozen 1
         have f2 := hkB.frozen 2
         have HSB3 := Lib.hid (faultS_set hp0 (faultS_set hp0 (faultS_set hp0 HSB.out 0 (.int .i64 (101 + (i : Int)))) 1 (.bool true)) 2 (.int .i64 pos))
         clear hkB hbB))
  go_wp2_with fail
  exact bodyPost_ret (v := .agg #[.int .i64 (101 + (i : Int)), .bool true, .int .i64 pos]) (by simp [results, Tryd.results30, go_sem, r0, r1, r2]) rfl ⟨rfl, HSB3.out.2.2⟩

/-- what stays while Same holds its fault in a variable of its own -/
abbrev SameP (w : World) (code : Int) (pl : Bool) (fp : Int) (w' : World) : Prop :=
  w'.cell? ⟨w.heap.size, 0, none⟩ = some (.int .i64 code) ∧ w'.cell? ⟨w.heap.size, 1, none⟩ = some (.bool pl) ∧ w'.cell? ⟨w.heap.size, 2, none⟩ = some (.int .i64 fp) ∧ Below w.heap.size w w' ∧ w.heap.size < w'.heap.size
theorem sameP_keep {w w' w1 : World} {code : Int} {pl : Bool} {fp : Int} (h : SameP w code pl fp w') (hb : Below w'.heap.size w' w1) : SameP w code pl fp w1 := by
  obtain ⟨h0, h1, h2, h4, h5⟩ := h
  exact ⟨(hb.cell h5).trans h0, (hb.cell h5).trans h1, (hb.cell h5).trans h2, h4.trans (hb.mono (by omega)), by have := hb.size; omega⟩

set_option maxHeartbeats 400000 in
theorem sameAt_any {w : World} {E : Nat → Addr} (h : Errs allErr w E) (i : Nat) (hi : i ∈ allErr) (p : Nat) (pos : Int) (hk : Blk w p #[.int .i64 pos, errV E i] 74) (code : Int) (pl : Bool) (fp : Int) :
    Calls Tryd.prog 12 #[atV p, .agg #[.int .i64 code, .bool pl, .int .i64 fp]] w fun e w' => e = .returned (.bool ((101 + (i : Int) == code) && (pl && (pos == fp)))) ∧ Below w.heap.size w w' := by
  have hS0 : SameP w code pl fp (w.alloc (.cells #[.int .i64 code, .bool pl, .int .i64 fp] 47)).drew :=
    ⟨by simp, by simp, by simp, ((Below.refl _ _).alloc (Nat.le_refl _) _).drew, by simp⟩
  have HF := Lib.hid (fun (w' : World) (hs : SameP w code pl fp w') => fault_at (h.below hs.2.2.2.1 (Nat.le_refl _)) i hi p pos (hk.below hs.2.2.2.1 hk.lt))
  clear h hk
  go_enter Tryd.func12, Tryd.ntmps12
  go_wp2_with fail
  go_region_held3 (fun w' => w'.cell? ⟨w.heap.size, 0, none⟩ = some (.int .i64 code) ∧ w'.cell? ⟨w.heap.size, 1, none⟩ = some (.bool pl) ∧ w'.cell? ⟨w.heap.size, 2, none⟩ = some (.int .i64 fp) ∧ Below w.heap.size w w' ∧ w.heap.size < w'.heap.size)
    (first | exact hS0 | (exact sameP_keep (by assumption) hb1) | (exact sameP_keep (by assumption) hb2))
    (first
      | (go_at_call 30; refine (HF.out _ (by assumption)).mono ?_; rintro e w1 ⟨rfl, hb1⟩)
      | (go_at_call 29; refine (sameFaultP_any _ _ _ _ _ _ _).mono ?_; rintro e w2 ⟨rfl, hb2⟩))
  have hS2 : SameP w code pl fp w2 := by assumption
  go_wp2_with fail
  go_ret
  exact ⟨rfl, hS2.2.2.2.1⟩
end Go.Proofs.YtoagmehgiaamlaaDoor

