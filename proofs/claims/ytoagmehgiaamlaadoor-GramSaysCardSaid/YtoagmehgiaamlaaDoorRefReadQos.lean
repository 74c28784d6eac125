/-
  muezzinref1.ReadQoS.
-/
import Derived.Test.YtoagmehgiaamlaaDoorMf
import Derived.Test.YtoagmehgiaamlaaDoorMg
import Derived.Test.YtoagmehgiaamlaaDoorMb
namespace Go.Proofs.YtoagmehgiaamlaaDoor
open Go.ChangeShapes Go.WideShapes Go.ChangeAt Go.RowKit
set_option linter.unusedVariables false

theorem rform1 (x : UInt8) : (bits .and .u8 (x.toNat : Int) 215 != 2) = !(x == 2 || x == 10 || x == 34 || x == 42) :=
  of_fin (p := fun n x => (bits .and .u8 (n : Int) 215 != 2) = !(x == 2 || x == 10 || x == 34 || x == 42)) (by decide +kernel) x
theorem rform15 (x : UInt8) : bits .and .u8 (x.toNat : Int) 15 = ((x.toNat % 16 : Nat) : Int) :=
  of_fin (p := fun n x => bits .and .u8 (n : Int) 15 = ((n % 16 : Nat) : Int)) (by decide +kernel) x
theorem rbit3 (x : UInt8) : (bits .and .u8 (x.toNat : Int) 8 != 0) = bitAt x 3 :=
  of_fin (p := fun n _ => (bits .and .u8 (n : Int) 8 != 0) = (n / 2 ^ 3 % 2 == 1)) (by decide +kernel) x
theorem rbit5 (x : UInt8) : (bits .and .u8 (x.toNat : Int) 32 != 0) = bitAt x 5 :=
  of_fin (p := fun n _ => (bits .and .u8 (n : Int) 32 != 0) = (n / 2 ^ 5 % 2 == 1)) (by decide +kernel) x
theorem rbit4 (x : UInt8) : (bits .and .u8 (x.toNat : Int) 16 != 0) = bitAt x 4 :=
  of_fin (p := fun n _ => (bits .and .u8 (n : Int) 16 != 0) = (n / 2 ^ 4 % 2 == 1)) (by decide +kernel) x
/-- the form, by the document's questions -/
theorem shape_doc (x1 x2 x3 x22 x24 x25 : UInt8) : shapeOk x1 x2 x3 x22 x24 x25 =
    (!(bits .and .u8 (x1.toNat : Int) 215 != 2) && !((x2.toNat : Int) != 0) && !((x3.toNat : Int) != 0) && !((x25.toNat : Int) != 0) && !((x22.toNat : Int) % 16 != 0) && !decide ((23 : Int) < (x24.toNat : Int)) && !decide ((7 : Int) < (x24.toNat : Int) % 16)) := by
  have z : ∀ y : UInt8, ((y.toNat : Int) != 0) = !(y == 0) := fun y => by
    rcases h : ((y.toNat : Int) != 0)
    · rw [u8_is0 y h]; rfl
    · rw [u8_ne0 y h]; rfl
  rw [rform1, z, z, z]
  unfold shapeOk
  have h22 : ((x22.toNat : Int) % 16 != 0) = !(x22.toNat % 16 == 0) := by
    rw [Bool.eq_iff_iff]; simp; omega
  have h24 : (decide (x24.toNat < 8) || (decide (16 ≤ x24.toNat) && decide (x24.toNat < 24))) = (!decide ((23 : Int) < (x24.toNat : Int)) && !decide ((7 : Int) < (x24.toNat : Int) % 16)) := by
    rw [Bool.eq_iff_iff]; simp; omega
  rw [h22, h24]
  simp only [Bool.not_not, Bool.and_assoc]

/-- what holds all through the region that reads the fields -/
def ReadS (W0 : World) (b off : Nat) (x1 x24 : UInt8) (w' : World) : Prop :=
  w'.cell? ⟨b, off + 1, none⟩ = some (.int .u8 (x1.toNat : Int)) ∧ w'.cell? ⟨b, off + 24, none⟩ = some (.int .u8 (x24.toNat : Int)) ∧ Below W0.heap.size W0 w' ∧ b < W0.heap.size
section
variable {W0 w1 w2 : World} {b off : Nat} {x1 x24 : UInt8}
theorem ReadS.below (h : ReadS W0 b off x1 x24 w1) (hb : Below w1.heap.size w1 w2) : ReadS W0 b off x1 x24 w2 := by
  obtain ⟨h1, h2, h3, h4⟩ := h
  have hlt : b < w1.heap.size := Nat.lt_of_lt_of_le h4 h3.size
  exact ⟨(hb.cell (p := ⟨b, off + 1, none⟩) hlt).trans h1, (hb.cell (p := ⟨b, off + 24, none⟩) hlt).trans h2, h3.trans (hb.mono h3.size), h4⟩
theorem ReadS.alloc (h : ReadS W0 b off x1 x24 w1) (o : Obj) : ReadS W0 b off x1 x24 (w1.alloc o) := h.below ((Below.refl _ _).alloc (Nat.le_refl _) o)
theorem ReadS.quiet (h : ReadS W0 b off x1 x24 w1) (hq : ∃ n, w2 = w1.drewN n) : ReadS W0 b off x1 x24 w2 := by obtain ⟨n, rfl⟩ := hq; exact ⟨h.1, h.2.1, h.2.2.1.trans (below_drewN n), h.2.2.2⟩
theorem ReadS.row (h : ReadS W0 b off x1 x24 w1) {n C : Nat} {vs : List Value} (hr : Row W0 1 (some ⟨b, off, none⟩) n C vs) : Row w1 1 (some ⟨b, off, none⟩) n C vs := hr.below h.2.2.1 (Nat.le_refl _)
end
theorem two_roads {G F : Nat → World → Prop} {goal : Prop} (ways : (∀ pb W, F pb W → G pb W) → goal) (rest : ∀ pb W, F pb W → G pb W) : goal := ways rest
theorem ReadS.grown {W0 w1 w2 : World} {b off : Nat} {x1 x24 : UInt8} (h : ReadS W0 b off x1 x24 w1) {g : Nat} (hg : w1.grownBy w2 (some g)) (hge : W0.heap.size ≤ g) : ReadS W0 b off x1 x24 w2 := by
  obtain ⟨h1, h2, h3, h4⟩ := h
  have hlt : b < w1.heap.size := Nat.lt_of_lt_of_le h4 h3.size
  exact ⟨hg.cell h1 (by simp; omega), hg.cell h2 (by simp; omega), Below.grown h3 hg h3.size (by simp; omega), h4⟩
theorem six_from {W0 w' : World} {b off n C : Nat} {x1 x24 : UInt8} {xs : List UInt8} (hr : Row W0 1 (some ⟨b, off, none⟩) n C (xs.map u8v)) (hs : ReadS W0 b off x1 x24 w') {a : Nat → UInt8} (ha : rdA xs = a) (o k : Nat) (hk : o = 4 + k) (ho : o + 6 ≤ n) :
    Calls Tryd.prog 57 #[.slice (some ⟨b, off + o, none⟩) (n - o) (C - o)] w' fun e w'' => e = .returned (.agg #[.int .u8 ((a k).toNat : Int), .int .u8 ((a (k + 1)).toNat : Int), .int .u8 ((a (k + 2)).toNat : Int), .int .u8 ((a (k + 3)).toNat : Int), .int .u8 ((a (k + 4)).toNat : Int), .int .u8 ((a (k + 5)).toNat : Int)]) ∧ Below w'.heap.size w' w'' := by
  have h := (hs.row hr).from_ (n := o) (by omega)
  rw [← List.map_drop] at h
  refine (six_any _ _ _ _ _ w' h (by omega)).mono ?_
  rintro e w'' ⟨rfl, hb⟩
  refine ⟨?_, hb⟩
  have e : ∀ i, (xs.drop o).getD i 0 = a (k + i) := by
    intro i
    rw [← ha, rdA, List.getD_eq_getElem?_getD, List.getD_eq_getElem?_getD, List.getElem?_drop, hk, Nat.add_assoc]
  unfold av
  simp only [e, Nat.add_zero]
theorem num_from {W0 w' : World} {b off n C : Nat} {x1 x24 : UInt8} {xs : List UInt8} (hr : Row W0 1 (some ⟨b, off, none⟩) n C (xs.map u8v)) (hs : ReadS W0 b off x1 x24 w') (hl : xs.length = n) (o : Nat) (ho : o + 2 ≤ n) :
    Calls Tryd.prog 55 #[.slice (some ⟨b, off + o, none⟩) (n - o) (C - o)] w' fun e w'' => e = .returned (.int .i64 (((xs.getD o 0).toNat + 256 * (xs.getD (o + 1) 0).toNat : Nat) : Int)) ∧ ∃ k, w'' = w'.drewN k := by
  obtain ⟨b', off', e, hb, hc⟩ := (hs.row hr).at_ (by omega)
  injection e with e
  injection e with e1 e2
  subst e1 e2
  have hcell : ∀ k, k < n → w'.cell? ⟨b, off + k, none⟩ = some (.int .u8 ((xs.getD k 0).toNat : Int)) := fun k hk => hc k _ (by rw [List.getElem?_map, List.getElem?_eq_getElem (by omega)]; simp [u8v, List.getD_eq_getElem?_getD, List.getElem?_eq_getElem (show k < xs.length by omega)])
  exact num_any b (off + o) (n - o) (C - o) _ _ w' (by omega) (hcell o (by omega)) (hcell (o + 1) (by omega))

set_option maxRecDepth 100000 in
set_option maxHeartbeats 8000000 in
theorem refReadQos_any (A : Option Addr) (n C : Nat) (xs : List UInt8) (w : World) (hb : Row w 1 A n C (xs.map u8v)) :
    Calls Tryd.prog 34 #[.slice A n C] w fun e w' => (∀ i, rdErr xs = some i → e = .returned (.tuple #[.agg z0, .int .i64 (101 + (i : Int))])) ∧
      (rdErr xs = none → ∃ A2 n2 C2, e = .returned (.tuple #[qv (rdA xs) (rdTid (xs.getD 24 0)) (rdSeq (xs.getD 22 0) (xs.getD 23 0)) (bitAt (xs.getD 1 0) 3) (bitAt (xs.getD 1 0) 5) (bitAt (xs.getD 24 0) 4) A2 n2 C2, .int .i64 0]) ∧ OwnU8 w' w.heap.size A2 n2 C2 (xs.drop 26)) ∧ Below w.heap.size w w' := by
  have hlen : xs.length = n := by simpa using hb.length
  have hlc := hb.len_cap
  have hk0 := Blk.new w z0 35
  have hb0 : Below w.heap.size w (w.alloc (.cells z0 35)) := (Below.refl _ _).alloc (Nat.le_refl _) _
  have hlt0 := hk0.lt
  have HB := Lib.hid hb
  have HL := Lib.hid hlen
  clear hb hlen
  rw [z0_eq] at hk0 hb0 hlt0
  by_cases h26 : n < 26
  · have HI := Lib.hid (rdErr_short (xs := xs) (by rw [HL.out]; exact h26))
    go_enter Tryd.func34, Tryd.ntmps34
    go_wp2_with (refine wpList_store_blk _ (by rfl) 35 _ _ rfl w.heap.size z0 rfl rfl 35 _ hk0 (by kernel_rfl) rfl (by kernel_rfl) ?_; intro w1 hk1 hg1)
    exact ret_cell_tmp rfl _ _ z0 _ rfl hk1 (by kernel_rfl) (by kernel_rfl) rfl rfl ⟨fun i hi => (by rw [HI.out] at hi; injection hi with hi; subst hi; rfl), fun hi => (by rw [HI.out] at hi; cases hi), Below.grown hb0 hg1 (by simp) (by simp)⟩
  have HB1 := Lib.hid (HB.out.alloc (.cells z0 35))
  rw [z0_eq] at HB1
  obtain ⟨b, off, rfl, hbb, hc⟩ := HB1.out.at_ (by omega)
  have hcell : ∀ k, k < 26 → (w.alloc _).cell? ⟨b, off + k, none⟩ = some (.int .u8 ((xs.getD k 0).toNat : Int)) := fun k hk => hc k _ (by rw [List.getElem?_map, List.getElem?_eq_getElem (by rw [HL.out]; omega)]; simp [u8v, List.getD_eq_getElem?_getD, List.getElem?_eq_getElem (show k < xs.length by rw [HL.out]; omega)])
  clear hc
  have c0 := hcell 0 (by omega); rw [Nat.add_zero] at c0; have c1 := hcell 1 (by omega); have c24 := hcell 24 (by omega)
  have HCELL := Lib.hid hcell
  clear hcell
  have HE := Lib.hid (show ∀ k, k = 22 ∨ k = 23 → xs.getD k 0 = xs.getD k 0 from fun _ _ => rfl)
  have hbw : b < w.heap.size := by
    obtain ⟨b', off', e, hlt, _⟩ := HB.out.at_ (by omega)
    injection e with e
    injection e with e1 e2
    rw [e1]; exact hlt
  have g0 : (0 : Int) < (n : Int) := by omega
  by_cases h136 : xs.getD 0 0 = 136
  case neg =>
    have HI := Lib.hid (show rdErr xs = some 4 by unfold rdErr; rw [if_neg (by rw [HL.out]; exact h26), if_pos h136])
    clear c1 c24
    generalize xs.getD 0 0 = x0 at *
    have q0 : ((x0.toNat : Int) != 136) = true := by
      have : x0.toNat ≠ 136 := fun e => h136 (UInt8.toNat_inj.1 e)
      simp; omega
    clear h136
    go_enter Tryd.func34, Tryd.ntmps34
    go_wp2_with (refine wpList_store_blk _ (by rfl) 35 _ _ rfl w.heap.size z0 rfl rfl 35 _ hk0 (by kernel_rfl) rfl (by kernel_rfl) ?_; intro w1 hk1 hg1)
    exact ret_cell_tmp rfl _ _ z0 _ rfl hk1 (by kernel_rfl) (by kernel_rfl) rfl rfl ⟨fun i hi => (by rw [HI.out] at hi; injection hi with hi; subst hi; rfl), fun hi => (by rw [HI.out] at hi; cases hi), Below.grown hb0 hg1 (by simp) (by simp)⟩
  case pos =>
  have q0 : (((xs.getD 0 0).toNat : Int) != 136) = false := by rw [h136]; rfl
  have H136 := Lib.hid h136
  clear h136
  generalize hx0 : xs.getD 0 0 = x0 at *
  generalize hx1 : xs.getD 1 0 = x1 at *
  generalize hx24 : xs.getD 24 0 = x24 at *
  have HX0 := Lib.hid hx0
  have HX1 := Lib.hid hx1
  have HX24 := Lib.hid hx24
  clear hx0 hx1 hx24
  go_enter Tryd.func34, Tryd.ntmps34
  go_wp2_with fail
  generalize w.alloc _ = W0 at *
  have hS0 : ReadS W0 b off x1 x24 W0.drew := ⟨c1, c24, below_drewN (w := W0) 1, hbb⟩
  have g1 : (1 : Int) < (n : Int) := by omega
  have g24 : (24 : Int) < (n : Int) := by omega
  have p4 : (4 : Int) ≤ (n : Int) := by omega
  have p10 : (10 : Int) ≤ (n : Int) := by omega
  have p16 : (16 : Int) ≤ (n : Int) := by omega
  have p22 : (22 : Int) ≤ (n : Int) := by omega
  have pC : (n : Int) ≤ (C : Int) := by omega
  have k4 : ¬ C = 4 := by omega
  have k10 : ¬ C = 10 := by omega
  have k16 : ¬ C = 16 := by omega
  have k22 : ¬ C = 22 := by omega
  obtain ⟨a, ha⟩ : ∃ a, rdA xs = a := ⟨_, rfl⟩
  obtain ⟨v, hv⟩ : ∃ v, (xs.getD 22 0).toNat + 256 * (xs.getD 23 0).toNat = v := ⟨_, rfl⟩
  have hv6 : v < 65536 := by
    have h1 := UInt8.toNat_lt (xs.getD 22 0)
    have h2 := UInt8.toNat_lt (xs.getD 23 0)
    omega
  have HA := Lib.hid ha
  have HV := Lib.hid hv
  have HS4 := Lib.hid (fun (w' : World) (hs : ReadS W0 b off x1 x24 w') => six_from HB1.out hs ha 4 0 rfl (by omega))
  have HS10 := Lib.hid (fun (w' : World) (hs : ReadS W0 b off x1 x24 w') => six_from HB1.out hs ha 10 6 rfl (by omega))
  have HS16 := Lib.hid (fun (w' : World) (hs : ReadS W0 b off x1 x24 w') => six_from HB1.out hs ha 16 12 rfl (by omega))
  have HN22 := Lib.hid (fun (w' : World) (hs : ReadS W0 b off x1 x24 w') => num_from HB1.out hs HL.out 22 (by omega))
  rw [show ((xs.getD 22 0).toNat + 256 * (xs.getD (22 + 1) 0).toNat) = v from hv] at HN22
  clear ha hv
  refine wp_region_held_drew (S := fun w' => w'.cell? ⟨b, off + 1, none⟩ = some (.int .u8 (x1.toNat : Int)) ∧ w'.cell? ⟨b, off + 24, none⟩ = some (.int .u8 (x24.toNat : Int)) ∧ Below W0.heap.size W0 w' ∧ b < W0.heap.size) (by kernel_rfl) hS0 (fun hHeld => ?_)
  refine wpAnyH_take (i := 0) (oi := { dst := some 14, op := _, type := _, pos := _, after := _, guard := none }) (v := ?v0) rfl (by kernel_rfl) (by kernel_rfl) (by kernel_rfl) (fun _ _ _ h => h) (Or.inl ⟨by rfl, ?y0⟩) (by assumption) ?r0
  (case y0 => intro w hSw; (try dsimp only at hSw); go_simp; try with_reducible rfl)
  try simp only [Act.put, List.setIfInBounds_toArray, List.set_cons_zero, List.set_cons_succ]
  refine wpAnyH_take (i := 1) (oi := { dst := some 15, op := _, type := _, pos := _, after := _, guard := none }) (v := ?v1) rfl (by kernel_rfl) (by kernel_rfl) (by kernel_rfl) (fun _ _ _ h => h) (Or.inl ⟨by rfl, ?y1⟩) (by assumption) ?r1
  (case y1 => intro w hSw; (try dsimp only at hSw); go_simp; try with_reducible rfl)
  try simp only [Act.put, List.setIfInBounds_toArray, List.set_cons_zero, List.set_cons_succ]
  refine wpAnyH_take (i := 3) (oi := { dst := some 17, op := _, type := _, pos := _, after := _, guard := none }) (v := ?v3) rfl (by kernel_rfl) (by kernel_rfl) (by kernel_rfl) (fun _ _ _ h => h) (Or.inl ⟨by rfl, ?y3⟩) (by assumption) ?r3
  (case y3 => intro w hSw; (try dsimp only at hSw); go_simp; try with_reducible rfl)
  try simp only [Act.put, List.setIfInBounds_toArray, List.set_cons_zero, List.set_cons_succ]
  refine wpAnyH_take (i := 4) (oi := { dst := some 18, op := _, type := _, pos := _, after := _, guard := none }) (v := ?v4) rfl (by kernel_rfl) (by kernel_rfl) (by kernel_rfl) (fun _ _ _ h => h) (Or.inl ⟨by rfl, ?y4⟩) (by assumption) ?r4
  (case y4 => intro w hSw; (try dsimp only at hSw); go_simp; try with_reducible rfl)
  try simp only [Act.put, List.setIfInBounds_toArray, List.set_cons_zero, List.set_cons_succ]
  refine wpAnyH_take (i := 6) (oi := { dst := some 20, op := _, type := _, pos := _, after := _, guard := none }) (v := ?v6) rfl (by kernel_rfl) (by kernel_rfl) (by kernel_rfl) (fun _ _ _ h => h) (Or.inl ⟨by rfl, ?y6⟩) (by assumption) ?r6
  (case y6 => intro w hSw; (try dsimp only at hSw); go_simp; try with_reducible rfl)
  try simp only [Act.put, List.setIfInBounds_toArray, List.set_cons_zero, List.set_cons_succ]
  refine wpAnyH_take (i := 7) (oi := { dst := some 21, op := _, type := _, pos := _, after := _, guard := none }) (v := ?v7) rfl (by kernel_rfl) (by kernel_rfl) (by kernel_rfl) (fun _ _ _ h => h) (Or.inl ⟨by rfl, ?y7⟩) (by assumption) ?r7
  (case y7 => intro w hSw; (try dsimp only at hSw); go_simp; try with_reducible rfl)
  try simp only [Act.put, List.setIfInBounds_toArray, List.set_cons_zero, List.set_cons_succ]
  refine wpAnyH_take (i := 9) (oi := { dst := some 23, op := _, type := _, pos := _, after := _, guard := none }) (v := ?v9) rfl (by kernel_rfl) (by kernel_rfl) (by kernel_rfl) (fun _ _ _ h => h) (Or.inl ⟨by rfl, ?y9⟩) (by assumption) ?r9
  (case y9 => intro w hSw; (try dsimp only at hSw); go_simp; try with_reducible rfl)
  try simp only [Act.put, List.setIfInBounds_toArray, List.set_cons_zero, List.set_cons_succ]
  refine wpAnyH_take (i := 10) (oi := { dst := some 24, op := _, type := _, pos := _, after := _, guard := none }) (v := ?v10) rfl (by kernel_rfl) (by kernel_rfl) (by kernel_rfl) (fun _ _ _ h => h) (Or.inl ⟨by rfl, ?y10⟩) (by assumption) ?r10
  (case y10 => intro w hSw; (try dsimp only at hSw); go_simp; try with_reducible rfl)
  try simp only [Act.put, List.setIfInBounds_toArray, List.set_cons_zero, List.set_cons_succ]
  refine wpAnyH_take (i := 13) (oi := { dst := some 27, op := _, type := _, pos := _, after := _, guard := none }) (v := ?v13) rfl (by kernel_rfl) (by kernel_rfl) (by kernel_rfl) (fun _ _ _ h => h) (Or.inl ⟨by rfl, ?y13⟩) (by assumption) ?r13
  (case y13 => intro w hSw; (try dsimp only at hSw); go_simp; try with_reducible rfl)
  try simp only [Act.put, List.setIfInBounds_toArray, List.set_cons_zero, List.set_cons_succ]
  refine wpAnyH_take (i := 14) (oi := { dst := some 28, op := _, type := _, pos := _, after := _, guard := none }) (v := ?v14) rfl (by kernel_rfl) (by kernel_rfl) (by kernel_rfl) (fun _ _ _ h => h) (Or.inl ⟨by rfl, ?y14⟩) (by assumption) ?r14
  (case y14 => intro w hSw; (try dsimp only at hSw); go_simp; try with_reducible rfl)
  try simp only [Act.put, List.setIfInBounds_toArray, List.set_cons_zero, List.set_cons_succ]
  refine wpAnyH_take (i := 15) (oi := { dst := some 29, op := _, type := _, pos := _, after := _, guard := none }) (v := ?v15) rfl (by kernel_rfl) (by kernel_rfl) (by kernel_rfl) (fun _ _ _ h => h) (Or.inl ⟨by rfl, ?y15⟩) (by assumption) ?r15
  (case y15 => intro w hSw; (try dsimp only at hSw); go_simp; try with_reducible rfl)
  try simp only [Act.put, List.setIfInBounds_toArray, List.set_cons_zero, List.set_cons_succ]
  refine wpAnyH_take (i := 16) (oi := { dst := some 30, op := _, type := _, pos := _, after := _, guard := none }) (v := ?v16) rfl (by kernel_rfl) (by kernel_rfl) (by kernel_rfl) (fun _ _ _ h => h) (Or.inl ⟨by rfl, ?y16⟩) (by assumption) ?r16
  (case y16 => intro w hSw; (try dsimp only at hSw); go_simp; try with_reducible rfl)
  try simp only [Act.put, List.setIfInBounds_toArray, List.set_cons_zero, List.set_cons_succ]
  refine wpAnyH_take (i := 17) (oi := { dst := some 31, op := _, type := _, pos := _, after := _, guard := none }) (v := ?v17) rfl (by kernel_rfl) (by kernel_rfl) (by kernel_rfl) (fun _ _ _ h => h) (Or.inl ⟨by rfl, ?y17⟩) (by assumption) ?r17
  (case y17 => intro w hSw; (try dsimp only at hSw); go_simp; try with_reducible rfl)
  try simp only [Act.put, List.setIfInBounds_toArray, List.set_cons_zero, List.set_cons_succ]
  refine wpAnyH_take (i := 18) (oi := { dst := some 32, op := _, type := _, pos := _, after := _, guard := none }) (v := ?v18) rfl (by kernel_rfl) (by kernel_rfl) (by kernel_rfl) (fun _ _ _ h => h) (Or.inl ⟨by rfl, ?y18⟩) (by assumption) ?r18
  (case y18 => intro w hSw; (try dsimp only at hSw); go_simp; try with_reducible rfl)
  try simp only [Act.put, List.setIfInBounds_toArray, List.set_cons_zero, List.set_cons_succ]
  refine wpAnyH_take (i := 19) (oi := { dst := some 33, op := _, type := _, pos := _, after := _, guard := none }) (v := ?v19) rfl (by kernel_rfl) (by kernel_rfl) (by kernel_rfl) (fun _ _ _ h => h) (Or.inl ⟨by rfl, ?y19⟩) (by assumption) ?r19
  (case y19 => intro w hSw; (try dsimp only at hSw); go_simp; try with_reducible rfl)
  try simp only [Act.put, List.setIfInBounds_toArray, List.set_cons_zero, List.set_cons_succ]
  refine wpAnyH_take (i := 20) (oi := { dst := some 34, op := _, type := _, pos := _, after := _, guard := none }) (v := ?v20) rfl (by kernel_rfl) (by kernel_rfl) (by kernel_rfl) (fun _ _ _ h => h) (Or.inl ⟨by rfl, ?y20⟩) (by assumption) ?r20
  (case y20 => intro w hSw; (try dsimp only at hSw); go_simp; try with_reducible rfl)
  try simp only [Act.put, List.setIfInBounds_toArray, List.set_cons_zero, List.set_cons_succ]
  refine wpAnyH_take (i := 21) (oi := { dst := some 35, op := _, type := _, pos := _, after := _, guard := none }) (v := ?v21) rfl (by kernel_rfl) (by kernel_rfl) (by kernel_rfl) (fun _ _ _ h => h) (Or.inl ⟨by rfl, ?y21⟩) (by assumption) ?r21
  (case y21 => intro w hSw; (try dsimp only at hSw); go_simp; try with_reducible rfl)
  try simp only [Act.put, List.setIfInBounds_toArray, List.set_cons_zero, List.set_cons_succ]
  refine wpAnyH_take (i := 22) (oi := { dst := some 36, op := _, type := _, pos := _, after := _, guard := none }) (v := ?v22) rfl (by kernel_rfl) (by kernel_rfl) (by kernel_rfl) (fun _ _ _ h => h) (Or.inl ⟨by rfl, ?y22⟩) (by assumption) ?r22
  (case y22 => intro w hSw; (try dsimp only at hSw); go_simp; try with_reducible rfl)
  try simp only [Act.put, List.setIfInBounds_toArray, List.set_cons_zero, List.set_cons_succ]
  refine wpAnyH_take (i := 23) (oi := { dst := some 37, op := _, type := _, pos := _, after := _, guard := none }) (v := ?v23) rfl (by kernel_rfl) (by kernel_rfl) (by kernel_rfl) (fun _ _ _ h => h) (Or.inl ⟨by rfl, ?y23⟩) (by assumption) ?r23
  (case y23 => intro w hSw; (try dsimp only at hSw); go_simp; try with_reducible rfl)
  try simp only [Act.put, List.setIfInBounds_toArray, List.set_cons_zero, List.set_cons_succ]
  refine wpAnyH_take (i := 24) (oi := { dst := some 38, op := _, type := _, pos := _, after := _, guard := none }) (v := ?v24) rfl (by kernel_rfl) (by kernel_rfl) (by kernel_rfl) (fun _ _ _ h => h) (Or.inl ⟨by rfl, ?y24⟩) (by assumption) ?r24
  (case y24 => intro w hSw; (try dsimp only at hSw); go_simp; try with_reducible rfl)
  try simp only [Act.put, List.setIfInBounds_toArray, List.set_cons_zero, List.set_cons_succ]
  refine wpAnyH_take (i := 25) (oi := { dst := some 39, op := _, type := _, pos := _, after := _, guard := none }) (v := ?v25) rfl (by kernel_rfl) (by kernel_rfl) (by kernel_rfl) (fun _ _ _ h => h) (Or.inl ⟨by rfl, ?y25⟩) (by assumption) ?r25
  (case y25 => intro w hSw; (try dsimp only at hSw); go_simp; try with_reducible rfl)
  try simp only [Act.put, List.setIfInBounds_toArray, List.set_cons_zero, List.set_cons_succ]
  refine wpAnyH_take (i := 26) (oi := { dst := some 40, op := _, type := _, pos := _, after := _, guard := none }) (v := ?v26) rfl (by kernel_rfl) (by kernel_rfl) (by kernel_rfl) (fun _ _ _ h => h) (Or.inl ⟨by rfl, ?y26⟩) (by assumption) ?r26
  (case y26 => intro w hSw; (try dsimp only at hSw); go_simp; try with_reducible rfl)
  try simp only [Act.put, List.setIfInBounds_toArray, List.set_cons_zero, List.set_cons_succ]
  refine wpAnyH_take (i := 27) (oi := { dst := some 41, op := _, type := _, pos := _, after := _, guard := none }) (v := ?v27) rfl (by kernel_rfl) (by kernel_rfl) (by kernel_rfl) (fun _ _ _ h => h) (Or.inl ⟨by rfl, ?y27⟩) (by assumption) ?r27
  (case y27 => intro w hSw; (try dsimp only at hSw); go_simp; try with_reducible rfl)
  try simp only [Act.put, List.setIfInBounds_toArray, List.set_cons_zero, List.set_cons_succ]
  refine wpAnyH_take (i := 28) (oi := { dst := some 42, op := _, type := _, pos := _, after := _, guard := none }) (v := ?v28) rfl (by kernel_rfl) (by kernel_rfl) (by kernel_rfl) (fun _ _ _ h => h) (Or.inl ⟨by rfl, ?y28⟩) (by assumption) ?r28
  (case y28 => intro w hSw; (try dsimp only at hSw); go_simp; try with_reducible rfl)
  try simp only [Act.put, List.setIfInBounds_toArray, List.set_cons_zero, List.set_cons_succ]
  refine wpAnyH_take (i := 29) (oi := { dst := some 43, op := _, type := _, pos := _, after := _, guard := none }) (v := ?v29) rfl (by kernel_rfl) (by kernel_rfl) (by kernel_rfl) (fun _ _ _ h => h) (Or.inl ⟨by rfl, ?y29⟩) (by assumption) ?r29
  (case y29 => intro w hSw; (try dsimp only at hSw); go_simp; try with_reducible rfl)
  try simp only [Act.put, List.setIfInBounds_toArray, List.set_cons_zero, List.set_cons_succ]
  refine wpAnyH_take (i := 30) (oi := { dst := some 44, op := _, type := _, pos := _, after := _, guard := none }) (v := ?v30) rfl (by kernel_rfl) (by kernel_rfl) (by kernel_rfl) (fun _ _ _ h => h) (Or.inl ⟨by rfl, ?y30⟩) (by assumption) ?r30
  (case y30 => intro w hSw; (try dsimp only at hSw); go_simp; try with_reducible rfl)
  try simp only [Act.put, List.setIfInBounds_toArray, List.set_cons_zero, List.set_cons_succ]
  refine wpAnyH_take (i := 31) (oi := { dst := some 45, op := _, type := _, pos := _, after := _, guard := none }) (v := ?v31) rfl (by kernel_rfl) (by kernel_rfl) (by kernel_rfl) (fun _ _ _ h => h) (Or.inl ⟨by rfl, ?y31⟩) (by assumption) ?r31
  (case y31 => intro w hSw; (try dsimp only at hSw); go_simp; try with_reducible rfl)
  try simp only [Act.put, List.setIfInBounds_toArray, List.set_cons_zero, List.set_cons_succ]
  refine wpAnyH_take (i := 32) (oi := { dst := some 46, op := _, type := _, pos := _, after := _, guard := none }) (v := ?v32) rfl (by kernel_rfl) (by kernel_rfl) (by kernel_rfl) (fun _ _ _ h => h) (Or.inl ⟨by rfl, ?y32⟩) (by assumption) ?r32
  (case y32 => intro w hSw; (try dsimp only at hSw); go_simp; try with_reducible rfl)
  try simp only [Act.put, List.setIfInBounds_toArray, List.set_cons_zero, List.set_cons_succ]
  simp only [rform15, rbit3, rbit5, rbit4]
  have w15 : IntKind.i64.wrap ((x24.toNat % 16 : Nat) : Int) = ((x24.toNat % 16 : Nat) : Int) := IntWalk.i64_in _ (by omega)
  try simp only [w15]
  clear hS0 c1 c24
  generalize W0.drew = WD at hHeld ⊢
  apply two_roads (F := fun pb W => Blk W pb (qcells a ((x24.toNat : Int) % 16) (IntKind.i64.wrap ((v : Int) / 16)) (bitAt x1 3) (bitAt x1 5) (bitAt x24 4) none 0 0) 35 ∧ ReadS W0 b off x1 x24 W ∧ W0.heap.size ≤ pb)
  case ways =>
    intro REST
    refine wpAnyH_ready (rs := [2, 34]) (by kernel_rfl) (by simp) ?_
    refine AllReadyH.cons (o := { dst := some 16, op := _, type := _, pos := _, after := _, guard := none }) rfl (fun K hK => ?_) (AllReadyH.cons (o := { dst := some 4, op := _, type := _, pos := _, after := _, guard := none }) rfl (fun K hK => ?_) AllReadyH.nil)
    · go_simp
      refine (HS4.out _ hHeld).mono ?_
      rintro e w0 ⟨rfl, hb0⟩
      go_wp2_with fail
      have hs0 := ReadS.below hHeld hb0
      refine hK.out _ _ hs0 (fun hHeld0 => ?_)
      clear hK hHeld0
      try simp only [Act.put, List.setIfInBounds_toArray, List.set_cons_zero, List.set_cons_succ]
      refine wpAnyH_ready (rs := [5, 34]) (by kernel_rfl) (by simp) ?_
      refine AllReadyH.cons (o := { dst := some 19, op := _, type := _, pos := _, after := _, guard := none }) rfl (fun K hK => ?_) (AllReadyH.cons (o := { dst := some 4, op := _, type := _, pos := _, after := _, guard := none }) rfl (fun K hK => ?_) AllReadyH.nil)
      · go_simp
        refine (HS10.out _ hs0).mono ?_
        rintro e w1 ⟨rfl, hb1⟩
        go_wp2_with fail
        have hs1 := ReadS.below hs0 hb1
        refine hK.out _ _ hs1 (fun hHeld1 => ?_)
        clear hK hHeld1
        try simp only [Act.put, List.setIfInBounds_toArray, List.set_cons_zero, List.set_cons_succ]
        refine wpAnyH_ready (rs := [8, 34]) (by kernel_rfl) (by simp) ?_
        refine AllReadyH.cons (o := { dst := some 22, op := _, type := _, pos := _, after := _, guard := none }) rfl (fun K hK => ?_) (AllReadyH.cons (o := { dst := some 4, op := _, type := _, pos := _, after := _, guard := none }) rfl (fun K hK => ?_) AllReadyH.nil)
        · go_simp
          refine (HS16.out _ hs1).mono ?_
          rintro e w2 ⟨rfl, hb2⟩
          go_wp2_with fail
          have hs2 := ReadS.below hs1 hb2
          refine hK.out _ _ hs2 (fun hHeld2 => ?_)
          clear hK hHeld2
          try simp only [Act.put, List.setIfInBounds_toArray, List.set_cons_zero, List.set_cons_succ]
          refine wpAnyH_ready (rs := [11, 34]) (by kernel_rfl) (by simp) ?_
          refine AllReadyH.cons (o := { dst := some 25, op := _, type := _, pos := _, after := _, guard := none }) rfl (fun K hK => ?_) (AllReadyH.cons (o := { dst := some 4, op := _, type := _, pos := _, after := _, guard := none }) rfl (fun K hK => ?_) AllReadyH.nil)
          · go_simp
            refine (HN22.out _ hs2).mono ?_
            rintro e w3 ⟨rfl, hq3⟩
            have hb3 : Below (w2).heap.size (w2) w3 := by obtain ⟨k, rfl⟩ := hq3; exact below_drewN _
            go_wp2_with fail
            have hs3 := ReadS.below hs2 hb3
            refine hK.out _ _ hs3 (fun hHeld3 => ?_)
            clear hK hHeld3
            try simp only [Act.put, List.setIfInBounds_toArray, List.set_cons_zero, List.set_cons_succ]
            refine wpAnyH_take (i := 12) (oi := { dst := some 26, op := _, type := _, pos := _, after := _, guard := none }) (v := ?v12z3) rfl (by kernel_rfl) (by kernel_rfl) (by kernel_rfl) (fun _ _ _ h => h) (Or.inl ⟨by rfl, ?y12z3⟩) (by assumption) ?r12z3
            (case y12z3 => intro w hSw; (try dsimp only at hSw); go_simp; try with_reducible rfl)
            try simp only [Act.put, List.setIfInBounds_toArray, List.set_cons_zero, List.set_cons_succ]
            refine wpAnyH_take (i := 33) (oi := { dst := some 47, op := _, type := _, pos := _, after := _, guard := none }) (v := ?v33z3) rfl (by kernel_rfl) (by kernel_rfl) (by kernel_rfl) (fun _ _ _ h => h) (Or.inl ⟨by rfl, ?y33z3⟩) (by assumption) ?r33z3
            (case y33z3 => intro w hSw; (try dsimp only at hSw); go_simp; try with_reducible rfl)
            try simp only [Act.put, List.setIfInBounds_toArray, List.set_cons_zero, List.set_cons_succ]
            refine wpAnyH_ready (rs := [34]) (by kernel_rfl) (by simp) ?_
            refine AllReadyH.cons (o := { dst := some 4, op := _, type := _, pos := _, after := _, guard := none }) rfl (fun K hK => ?_) AllReadyH.nil
            go_simp
            have hkN := Blk.new w3 z0 35
            have hsN := ReadS.alloc hs3 (.cells z0 35)
            have hge : W0.heap.size ≤ (w3).heap.size := hs3.2.2.1.size
            have hkNl := hkN.lt
            refine hK.out _ ((w3).alloc (.cells z0 35)) hsN (fun hHeld4 => ?_)
            clear hK hHeld4
            try simp only [Act.put, List.setIfInBounds_toArray, List.set_cons_zero, List.set_cons_succ]
            generalize (w3).alloc (.cells z0 35) = V4 at *
            generalize (w3).heap.size = pb at hkN hge hkNl ⊢
            refine wpAnyH_ready (rs := [35]) (by kernel_rfl) (by simp) ?_
            refine AllReadyH.cons (o := { dst := none, op := _, type := _, pos := _, after := _, guard := none }) rfl (fun K hK => as_wanted rfl (wp_store_blk _ _ _ _ rfl pb (qcells a ((x24.toNat : Int) % 16) (IntKind.i64.wrap ((v : Int) / 16)) (bitAt x1 3) (bitAt x1 5) (bitAt x24 4) none 0 0) rfl rfl 35 z0 hkN (by kernel_rfl) rfl (qcells_one _ _ _ _ _ _ _ _ _) ?_)) AllReadyH.nil
            intro WE hkE hgE
            have hsE := ReadS.grown hsN hgE hge
            refine hK.out _ _ hsE (fun _ => ?_)
            try simp only [Act.put, List.setIfInBounds_toArray, List.set_cons_zero, List.set_cons_succ]
            refine wpAnyH_done (by kernel_rfl) ?_ _
            exact REST _ _ ⟨hkE, hsE, hge⟩
          · go_simp
            have hkN := Blk.new w2 z0 35
            have hsN := ReadS.alloc hs2 (.cells z0 35)
            have hge : W0.heap.size ≤ (w2).heap.size := hs2.2.2.1.size
            have hkNl := hkN.lt
            refine hK.out _ ((w2).alloc (.cells z0 35)) hsN (fun hHeld6 => ?_)
            clear hK hHeld6
            try simp only [Act.put, List.setIfInBounds_toArray, List.set_cons_zero, List.set_cons_succ]
            generalize (w2).alloc (.cells z0 35) = V6 at *
            generalize (w2).heap.size = pb at hkN hge hkNl ⊢
            refine wpAnyH_ready (rs := [11]) (by kernel_rfl) (by simp) ?_
            refine AllReadyH.cons (o := { dst := some 25, op := _, type := _, pos := _, after := _, guard := none }) rfl (fun K hK => ?_) AllReadyH.nil
            go_simp
            refine (HN22.out _ hsN).mono ?_
            rintro e w7 ⟨rfl, hq7⟩
            have hb7 : Below (V6).heap.size (V6) w7 := by obtain ⟨k, rfl⟩ := hq7; exact below_drewN _
            go_wp2_with fail
            have hs7 := ReadS.below hsN hb7
            have hk7 := Blk.below hkN hb7 hkNl
            have hk7l := hk7.lt
            refine hK.out _ _ hs7 (fun hHeld7 => ?_)
            clear hK hHeld7
            try simp only [Act.put, List.setIfInBounds_toArray, List.set_cons_zero, List.set_cons_succ]
            refine wpAnyH_take (i := 12) (oi := { dst := some 26, op := _, type := _, pos := _, after := _, guard := none }) (v := ?v12z7) rfl (by kernel_rfl) (by kernel_rfl) (by kernel_rfl) (fun _ _ _ h => h) (Or.inl ⟨by rfl, ?y12z7⟩) (by assumption) ?r12z7
            (case y12z7 => intro w hSw; (try dsimp only at hSw); go_simp; try with_reducible rfl)
            try simp only [Act.put, List.setIfInBounds_toArray, List.set_cons_zero, List.set_cons_succ]
            refine wpAnyH_take (i := 33) (oi := { dst := some 47, op := _, type := _, pos := _, after := _, guard := none }) (v := ?v33z7) rfl (by kernel_rfl) (by kernel_rfl) (by kernel_rfl) (fun _ _ _ h => h) (Or.inl ⟨by rfl, ?y33z7⟩) (by assumption) ?r33z7
            (case y33z7 => intro w hSw; (try dsimp only at hSw); go_simp; try with_reducible rfl)
            try simp only [Act.put, List.setIfInBounds_toArray, List.set_cons_zero, List.set_cons_succ]
            refine wpAnyH_ready (rs := [35]) (by kernel_rfl) (by simp) ?_
            refine AllReadyH.cons (o := { dst := none, op := _, type := _, pos := _, after := _, guard := none }) rfl (fun K hK => as_wanted rfl (wp_store_blk _ _ _ _ rfl pb (qcells a ((x24.toNat : Int) % 16) (IntKind.i64.wrap ((v : Int) / 16)) (bitAt x1 3) (bitAt x1 5) (bitAt x24 4) none 0 0) rfl rfl 35 z0 hk7 (by kernel_rfl) rfl (qcells_one _ _ _ _ _ _ _ _ _) ?_)) AllReadyH.nil
            intro WE hkE hgE
            have hsE := ReadS.grown hs7 hgE hge
            refine hK.out _ _ hsE (fun _ => ?_)
            try simp only [Act.put, List.setIfInBounds_toArray, List.set_cons_zero, List.set_cons_succ]
            refine wpAnyH_done (by kernel_rfl) ?_ _
            exact REST _ _ ⟨hkE, hsE, hge⟩
        · go_simp
          have hkN := Blk.new w1 z0 35
          have hsN := ReadS.alloc hs1 (.cells z0 35)
          have hge : W0.heap.size ≤ (w1).heap.size := hs1.2.2.1.size
          have hkNl := hkN.lt
          refine hK.out _ ((w1).alloc (.cells z0 35)) hsN (fun hHeld9 => ?_)
          clear hK hHeld9
          try simp only [Act.put, List.setIfInBounds_toArray, List.set_cons_zero, List.set_cons_succ]
          generalize (w1).alloc (.cells z0 35) = V9 at *
          generalize (w1).heap.size = pb at hkN hge hkNl ⊢
          refine wpAnyH_ready (rs := [8]) (by kernel_rfl) (by simp) ?_
          refine AllReadyH.cons (o := { dst := some 22, op := _, type := _, pos := _, after := _, guard := none }) rfl (fun K hK => ?_) AllReadyH.nil
          go_simp
          refine (HS16.out _ hsN).mono ?_
          rintro e w10 ⟨rfl, hb10⟩
          go_wp2_with fail
          have hs10 := ReadS.below hsN hb10
          have hk10 := Blk.below hkN hb10 hkNl
          have hk10l := hk10.lt
          refine hK.out _ _ hs10 (fun hHeld10 => ?_)
          clear hK hHeld10
          try simp only [Act.put, List.setIfInBounds_toArray, List.set_cons_zero, List.set_cons_succ]
          refine wpAnyH_ready (rs := [11]) (by kernel_rfl) (by simp) ?_
          refine AllReadyH.cons (o := { dst := some 25, op := _, type := _, pos := _, after := _, guard := none }) rfl (fun K hK => ?_) AllReadyH.nil
          go_simp
          refine (HN22.out _ hs10).mono ?_
          rintro e w11 ⟨rfl, hq11⟩
          have hb11 : Below (w10).heap.size (w10) w11 := by obtain ⟨k, rfl⟩ := hq11; exact below_drewN _
          go_wp2_with fail
          have hs11 := ReadS.below hs10 hb11
          have hk11 := Blk.below hk10 hb11 hk10l
          have hk11l := hk11.lt
          refine hK.out _ _ hs11 (fun hHeld11 => ?_)
          clear hK hHeld11
          try simp only [Act.put, List.setIfInBounds_toArray, List.set_cons_zero, List.set_cons_succ]
          refine wpAnyH_take (i := 12) (oi := { dst := some 26, op := _, type := _, pos := _, after := _, guard := none }) (v := ?v12z11) rfl (by kernel_rfl) (by kernel_rfl) (by kernel_rfl) (fun _ _ _ h => h) (Or.inl ⟨by rfl, ?y12z11⟩) (by assumption) ?r12z11
          (case y12z11 => intro w hSw; (try dsimp only at hSw); go_simp; try with_reducible rfl)
          try simp only [Act.put, List.setIfInBounds_toArray, List.set_cons_zero, List.set_cons_succ]
          refine wpAnyH_take (i := 33) (oi := { dst := some 47, op := _, type := _, pos := _, after := _, guard := none }) (v := ?v33z11) rfl (by kernel_rfl) (by kernel_rfl) (by kernel_rfl) (fun _ _ _ h => h) (Or.inl ⟨by rfl, ?y33z11⟩) (by assumption) ?r33z11
          (case y33z11 => intro w hSw; (try dsimp only at hSw); go_simp; try with_reducible rfl)
          try simp only [Act.put, List.setIfInBounds_toArray, List.set_cons_zero, List.set_cons_succ]
          refine wpAnyH_ready (rs := [35]) (by kernel_rfl) (by simp) ?_
          refine AllReadyH.cons (o := { dst := none, op := _, type := _, pos := _, after := _, guard := none }) rfl (fun K hK => as_wanted rfl (wp_store_blk _ _ _ _ rfl pb (qcells a ((x24.toNat : Int) % 16) (IntKind.i64.wrap ((v : Int) / 16)) (bitAt x1 3) (bitAt x1 5) (bitAt x24 4) none 0 0) rfl rfl 35 z0 hk11 (by kernel_rfl) rfl (qcells_one _ _ _ _ _ _ _ _ _) ?_)) AllReadyH.nil
          intro WE hkE hgE
          have hsE := ReadS.grown hs11 hgE hge
          refine hK.out _ _ hsE (fun _ => ?_)
          try simp only [Act.put, List.setIfInBounds_toArray, List.set_cons_zero, List.set_cons_succ]
          refine wpAnyH_done (by kernel_rfl) ?_ _
          exact REST _ _ ⟨hkE, hsE, hge⟩
      · go_simp
        have hkN := Blk.new w0 z0 35
        have hsN := ReadS.alloc hs0 (.cells z0 35)
        have hge : W0.heap.size ≤ (w0).heap.size := hs0.2.2.1.size
        have hkNl := hkN.lt
        refine hK.out _ ((w0).alloc (.cells z0 35)) hsN (fun hHeld13 => ?_)
        clear hK hHeld13
        try simp only [Act.put, List.setIfInBounds_toArray, List.set_cons_zero, List.set_cons_succ]
        generalize (w0).alloc (.cells z0 35) = V13 at *
        generalize (w0).heap.size = pb at hkN hge hkNl ⊢
        refine wpAnyH_ready (rs := [5]) (by kernel_rfl) (by simp) ?_
        refine AllReadyH.cons (o := { dst := some 19, op := _, type := _, pos := _, after := _, guard := none }) rfl (fun K hK => ?_) AllReadyH.nil
        go_simp
        refine (HS10.out _ hsN).mono ?_
        rintro e w14 ⟨rfl, hb14⟩
        go_wp2_with fail
        have hs14 := ReadS.below hsN hb14
        have hk14 := Blk.below hkN hb14 hkNl
        have hk14l := hk14.lt
        refine hK.out _ _ hs14 (fun hHeld14 => ?_)
        clear hK hHeld14
        try simp only [Act.put, List.setIfInBounds_toArray, List.set_cons_zero, List.set_cons_succ]
        refine wpAnyH_ready (rs := [8]) (by kernel_rfl) (by simp) ?_
        refine AllReadyH.cons (o := { dst := some 22, op := _, type := _, pos := _, after := _, guard := none }) rfl (fun K hK => ?_) AllReadyH.nil
        go_simp
        refine (HS16.out _ hs14).mono ?_
        rintro e w15 ⟨rfl, hb15⟩
        go_wp2_with fail
        have hs15 := ReadS.below hs14 hb15
        have hk15 := Blk.below hk14 hb15 hk14l
        have hk15l := hk15.lt
        refine hK.out _ _ hs15 (fun hHeld15 => ?_)
        clear hK hHeld15
        try simp only [Act.put, List.setIfInBounds_toArray, List.set_cons_zero, List.set_cons_succ]
        refine wpAnyH_ready (rs := [11]) (by kernel_rfl) (by simp) ?_
        refine AllReadyH.cons (o := { dst := some 25, op := _, type := _, pos := _, after := _, guard := none }) rfl (fun K hK => ?_) AllReadyH.nil
        go_simp
        refine (HN22.out _ hs15).mono ?_
        rintro e w16 ⟨rfl, hq16⟩
        have hb16 : Below (w15).heap.size (w15) w16 := by obtain ⟨k, rfl⟩ := hq16; exact below_drewN _
        go_wp2_with fail
        have hs16 := ReadS.below hs15 hb16
        have hk16 := Blk.below hk15 hb16 hk15l
        have hk16l := hk16.lt
        refine hK.out _ _ hs16 (fun hHeld16 => ?_)
        clear hK hHeld16
        try simp only [Act.put, List.setIfInBounds_toArray, List.set_cons_zero, List.set_cons_succ]
        refine wpAnyH_take (i := 12) (oi := { dst := some 26, op := _, type := _, pos := _, after := _, guard := none }) (v := ?v12z16) rfl (by kernel_rfl) (by kernel_rfl) (by kernel_rfl) (fun _ _ _ h => h) (Or.inl ⟨by rfl, ?y12z16⟩) (by assumption) ?r12z16
        (case y12z16 => intro w hSw; (try dsimp only at hSw); go_simp; try with_reducible rfl)
        try simp only [Act.put, List.setIfInBounds_toArray, List.set_cons_zero, List.set_cons_succ]
        refine wpAnyH_take (i := 33) (oi := { dst := some 47, op := _, type := _, pos := _, after := _, guard := none }) (v := ?v33z16) rfl (by kernel_rfl) (by kernel_rfl) (by kernel_rfl) (fun _ _ _ h => h) (Or.inl ⟨by rfl, ?y33z16⟩) (by assumption) ?r33z16
        (case y33z16 => intro w hSw; (try dsimp only at hSw); go_simp; try with_reducible rfl)
        try simp only [Act.put, List.setIfInBounds_toArray, List.set_cons_zero, List.set_cons_succ]
        refine wpAnyH_ready (rs := [35]) (by kernel_rfl) (by simp) ?_
        refine AllReadyH.cons (o := { dst := none, op := _, type := _, pos := _, after := _, guard := none }) rfl (fun K hK => as_wanted rfl (wp_store_blk _ _ _ _ rfl pb (qcells a ((x24.toNat : Int) % 16) (IntKind.i64.wrap ((v : Int) / 16)) (bitAt x1 3) (bitAt x1 5) (bitAt x24 4) none 0 0) rfl rfl 35 z0 hk16 (by kernel_rfl) rfl (qcells_one _ _ _ _ _ _ _ _ _) ?_)) AllReadyH.nil
        intro WE hkE hgE
        have hsE := ReadS.grown hs16 hgE hge
        refine hK.out _ _ hsE (fun _ => ?_)
        try simp only [Act.put, List.setIfInBounds_toArray, List.set_cons_zero, List.set_cons_succ]
        refine wpAnyH_done (by kernel_rfl) ?_ _
        exact REST _ _ ⟨hkE, hsE, hge⟩
    · go_simp
      have hkN := Blk.new WD z0 35
      have hsN := ReadS.alloc hHeld (.cells z0 35)
      have hge : W0.heap.size ≤ (WD).heap.size := hHeld.2.2.1.size
      have hkNl := hkN.lt
      refine hK.out _ ((WD).alloc (.cells z0 35)) hsN (fun hHeld18 => ?_)
      clear hK hHeld18
      try simp only [Act.put, List.setIfInBounds_toArray, List.set_cons_zero, List.set_cons_succ]
      generalize (WD).alloc (.cells z0 35) = V18 at *
      generalize (WD).heap.size = pb at hkN hge hkNl ⊢
      refine wpAnyH_ready (rs := [2]) (by kernel_rfl) (by simp) ?_
      refine AllReadyH.cons (o := { dst := some 16, op := _, type := _, pos := _, after := _, guard := none }) rfl (fun K hK => ?_) AllReadyH.nil
      go_simp
      refine (HS4.out _ hsN).mono ?_
      rintro e w19 ⟨rfl, hb19⟩
      go_wp2_with fail
      have hs19 := ReadS.below hsN hb19
      have hk19 := Blk.below hkN hb19 hkNl
      have hk19l := hk19.lt
      refine hK.out _ _ hs19 (fun hHeld19 => ?_)
      clear hK hHeld19
      try simp only [Act.put, List.setIfInBounds_toArray, List.set_cons_zero, List.set_cons_succ]
      refine wpAnyH_ready (rs := [5]) (by kernel_rfl) (by simp) ?_
      refine AllReadyH.cons (o := { dst := some 19, op := _, type := _, pos := _, after := _, guard := none }) rfl (fun K hK => ?_) AllReadyH.nil
      go_simp
      refine (HS10.out _ hs19).mono ?_
      rintro e w20 ⟨rfl, hb20⟩
      go_wp2_with fail
      have hs20 := ReadS.below hs19 hb20
      have hk20 := Blk.below hk19 hb20 hk19l
      have hk20l := hk20.lt
      refine hK.out _ _ hs20 (fun hHeld20 => ?_)
      clear hK hHeld20
      try simp only [Act.put, List.setIfInBounds_toArray, List.set_cons_zero, List.set_cons_succ]
      refine wpAnyH_ready (rs := [8]) (by kernel_rfl) (by simp) ?_
      refine AllReadyH.cons (o := { dst := some 22, op := _, type := _, pos := _, after := _, guard := none }) rfl (fun K hK => ?_) AllReadyH.nil
      go_simp
      refine (HS16.out _ hs20).mono ?_
      rintro e w21 ⟨rfl, hb21⟩
      go_wp2_with fail
      have hs21 := ReadS.below hs20 hb21
      have hk21 := Blk.below hk20 hb21 hk20l
      have hk21l := hk21.lt
      refine hK.out _ _ hs21 (fun hHeld21 => ?_)
      clear hK hHeld21
      try simp only [Act.put, List.setIfInBounds_toArray, List.set_cons_zero, List.set_cons_succ]
      refine wpAnyH_ready (rs := [11]) (by kernel_rfl) (by simp) ?_
      refine AllReadyH.cons (o := { dst := some 25, op := _, type := _, pos := _, after := _, guard := none }) rfl (fun K hK => ?_) AllReadyH.nil
      go_simp
      refine (HN22.out _ hs21).mono ?_
      rintro e w22 ⟨rfl, hq22⟩
      have hb22 : Below (w21).heap.size (w21) w22 := by obtain ⟨k, rfl⟩ := hq22; exact below_drewN _
      go_wp2_with fail
      have hs22 := ReadS.below hs21 hb22
      have hk22 := Blk.below hk21 hb22 hk21l
      have hk22l := hk22.lt
      refine hK.out _ _ hs22 (fun hHeld22 => ?_)
      clear hK hHeld22
      try simp only [Act.put, List.setIfInBounds_toArray, List.set_cons_zero, List.set_cons_succ]
      refine wpAnyH_take (i := 12) (oi := { dst := some 26, op := _, type := _, pos := _, after := _, guard := none }) (v := ?v12z22) rfl (by kernel_rfl) (by kernel_rfl) (by kernel_rfl) (fun _ _ _ h => h) (Or.inl ⟨by rfl, ?y12z22⟩) (by assumption) ?r12z22
      (case y12z22 => intro w hSw; (try dsimp only at hSw); go_simp; try with_reducible rfl)
      try simp only [Act.put, List.setIfInBounds_toArray, List.set_cons_zero, List.set_cons_succ]
      refine wpAnyH_take (i := 33) (oi := { dst := some 47, op := _, type := _, pos := _, after := _, guard := none }) (v := ?v33z22) rfl (by kernel_rfl) (by kernel_rfl) (by kernel_rfl) (fun _ _ _ h => h) (Or.inl ⟨by rfl, ?y33z22⟩) (by assumption) ?r33z22
      (case y33z22 => intro w hSw; (try dsimp only at hSw); go_simp; try with_reducible rfl)
      try simp only [Act.put, List.setIfInBounds_toArray, List.set_cons_zero, List.set_cons_succ]
      refine wpAnyH_ready (rs := [35]) (by kernel_rfl) (by simp) ?_
      refine AllReadyH.cons (o := { dst := none, op := _, type := _, pos := _, after := _, guard := none }) rfl (fun K hK => as_wanted rfl (wp_store_blk _ _ _ _ rfl pb (qcells a ((x24.toNat : Int) % 16) (IntKind.i64.wrap ((v : Int) / 16)) (bitAt x1 3) (bitAt x1 5) (bitAt x24 4) none 0 0) rfl rfl 35 z0 hk22 (by kernel_rfl) rfl (qcells_one _ _ _ _ _ _ _ _ _) ?_)) AllReadyH.nil
      intro WE hkE hgE
      have hsE := ReadS.grown hs22 hgE hge
      refine hK.out _ _ hsE (fun _ => ?_)
      try simp only [Act.put, List.setIfInBounds_toArray, List.set_cons_zero, List.set_cons_succ]
      refine wpAnyH_done (by kernel_rfl) ?_ _
      exact REST _ _ ⟨hkE, hsE, hge⟩
  case rest =>
    rintro pb W ⟨hkf, hsf, hge⟩
    have hlw : w.heap.size < W.heap.size := Nat.lt_of_lt_of_le hlt0 hsf.2.2.1.size
    have hkR := hk0.below hsf.2.2.1 hlt0
    have HBW := Lib.hid (hb0.trans (hsf.2.2.1.mono (Nat.le_of_lt hlt0)))
    have HKF := Lib.hid hkf
    have HRW := Lib.hid (hsf.row HB1.out)
    have hcell : ∀ k, k < 26 → W.cell? ⟨b, off + k, none⟩ = some (.int .u8 ((xs.getD k 0).toNat : Int)) := by
      obtain ⟨b', off', e, _, hc⟩ := HRW.out.at_ (by omega)
      injection e with e
      injection e with e1 e2
      subst e1 e2
      exact fun k hk => hc k _ (by rw [List.getElem?_map, List.getElem?_eq_getElem (by rw [HL.out]; omega)]; simp [u8v, List.getD_eq_getElem?_getD, List.getElem?_eq_getElem (show k < xs.length by rw [HL.out]; omega)])
    have c1 := hcell 1 (by omega)
    have c2 := hcell 2 (by omega)
    have c3 := hcell 3 (by omega)
    have c22 := hcell 22 (by omega)
    have c24 := hcell 24 (by omega)
    have c25 := hcell 25 (by omega)
    rw [HX1.out] at c1
    rw [HX24.out] at c24
    have c18 : W.cell? ⟨pb, 18, none⟩ = some (.int .i64 ((x24.toNat : Int) % 16)) := hkf.cell 18
    have HRD := Lib.hid (show ∀ bl, shapeOk x1 (xs.getD 2 0) (xs.getD 3 0) (xs.getD 22 0) x24 (xs.getD 25 0) = bl → rdErr xs = if bl = false then some 1 else if 1526 < n then some 2 else none from fun bl h => by
      unfold rdErr
      rw [if_neg (by rw [HL.out]; exact h26), HX0.out, if_neg (by rw [H136.out]; simp), HX1.out, HX24.out, h, HL.out])
    rw [shape_doc] at HRD
    have HGE := Lib.hid (show w.heap.size < pb from Nat.lt_of_lt_of_le hlt0 hge)
    clear hcell hk0 hb0 hlt0 hsf hge hkf
    generalize xs.getD 2 0 = x2 at *
    generalize xs.getD 3 0 = x3 at *
    generalize hx22 : xs.getD 22 0 = x22 at *
    have HX22 := Lib.hid hx22
    clear hx22
    generalize xs.getD 25 0 = x25 at *
    have t22 : bits .and .u8 (x22.toNat : Int) 15 = (x22.toNat : Int) % 16 := by rw [rform15]; exact Int.natCast_emod _ _
    have l1 := UInt8.toNat_lt x1
    have l2 := UInt8.toNat_lt x2
    have l3 := UInt8.toNat_lt x3
    have l22 := UInt8.toNat_lt x22
    have l24 := UInt8.toNat_lt x24
    have l25 := UInt8.toNat_lt x25
    have g2 : (2 : Int) < (n : Int) := by omega
    have g3 : (3 : Int) < (n : Int) := by omega
    have g22 : (22 : Int) < (n : Int) := by omega
    have g25 : (25 : Int) < (n : Int) := by omega
    have p26 : (26 : Int) ≤ (n : Int) := by omega
    clear p4 p10 p16 p22 k4 k10 k16 k22 hv6
    rcases q0 : (bits .and .u8 (x1.toNat : Int) 215 != 2)
    case true =>
      have HI := Lib.hid (show rdErr xs = some 1 by rw [HRD.out false (by rw [q0]; simp)]; rfl)
      go_wp2_with (refine wpList_store_blk _ (by rfl) 35 _ _ rfl w.heap.size z0 rfl rfl 35 _ hkR (by kernel_rfl) rfl (by kernel_rfl) ?_; intro w1 hk1 hg1)
      exact ret_cell_tmp rfl _ _ z0 _ rfl hk1 (by kernel_rfl) (by kernel_rfl) rfl rfl ⟨fun i hi => (by rw [HI.out] at hi; injection hi with hi; subst hi; rfl), fun hi => (by rw [HI.out] at hi; cases hi), Below.grown HBW.out hg1 (by omega) (by simp)⟩
    case false =>
    rcases q1 : ((x2.toNat : Int) != 0)
    case true =>
      have HI := Lib.hid (show rdErr xs = some 1 by rw [HRD.out false (by rw [q0, q1]; simp)]; rfl)
      go_wp2_with (refine wpList_store_blk _ (by rfl) 35 _ _ rfl w.heap.size z0 rfl rfl 35 _ hkR (by kernel_rfl) rfl (by kernel_rfl) ?_; intro w1 hk1 hg1)
      exact ret_cell_tmp rfl _ _ z0 _ rfl hk1 (by kernel_rfl) (by kernel_rfl) rfl rfl ⟨fun i hi => (by rw [HI.out] at hi; injection hi with hi; subst hi; rfl), fun hi => (by rw [HI.out] at hi; cases hi), Below.grown HBW.out hg1 (by omega) (by simp)⟩
    case false =>
    rcases q2 : ((x3.toNat : Int) != 0)
    case true =>
      have HI := Lib.hid (show rdErr xs = some 1 by rw [HRD.out false (by rw [q0, q1, q2]; simp)]; rfl)
      go_wp2_with (refine wpList_store_blk _ (by rfl) 35 _ _ rfl w.heap.size z0 rfl rfl 35 _ hkR (by kernel_rfl) rfl (by kernel_rfl) ?_; intro w1 hk1 hg1)
      exact ret_cell_tmp rfl _ _ z0 _ rfl hk1 (by kernel_rfl) (by kernel_rfl) rfl rfl ⟨fun i hi => (by rw [HI.out] at hi; injection hi with hi; subst hi; rfl), fun hi => (by rw [HI.out] at hi; cases hi), Below.grown HBW.out hg1 (by omega) (by simp)⟩
    case false =>
    rcases q3 : ((x25.toNat : Int) != 0)
    case true =>
      have HI := Lib.hid (show rdErr xs = some 1 by rw [HRD.out false (by rw [q0, q1, q2, q3]; simp)]; rfl)
      go_wp2_with (refine wpList_store_blk _ (by rfl) 35 _ _ rfl w.heap.size z0 rfl rfl 35 _ hkR (by kernel_rfl) rfl (by kernel_rfl) ?_; intro w1 hk1 hg1)
      exact ret_cell_tmp rfl _ _ z0 _ rfl hk1 (by kernel_rfl) (by kernel_rfl) rfl rfl ⟨fun i hi => (by rw [HI.out] at hi; injection hi with hi; subst hi; rfl), fun hi => (by rw [HI.out] at hi; cases hi), Below.grown HBW.out hg1 (by omega) (by simp)⟩
    case false =>
    rcases q4 : ((x22.toNat : Int) % 16 != 0)
    case true =>
      have HI := Lib.hid (show rdErr xs = some 1 by rw [HRD.out false (by rw [q0, q1, q2, q3, q4]; simp)]; rfl)
      go_wp2_with (refine wpList_store_blk _ (by rfl) 35 _ _ rfl w.heap.size z0 rfl rfl 35 _ hkR (by kernel_rfl) rfl (by kernel_rfl) ?_; intro w1 hk1 hg1)
      exact ret_cell_tmp rfl _ _ z0 _ rfl hk1 (by kernel_rfl) (by kernel_rfl) rfl rfl ⟨fun i hi => (by rw [HI.out] at hi; injection hi with hi; subst hi; rfl), fun hi => (by rw [HI.out] at hi; cases hi), Below.grown HBW.out hg1 (by omega) (by simp)⟩
    case false =>
    rcases q5 : decide ((23 : Int) < (x24.toNat : Int))
    case true =>
      have HI := Lib.hid (show rdErr xs = some 1 by rw [HRD.out false (by rw [q0, q1, q2, q3, q4, q5]; simp)]; rfl)
      go_wp2_with (refine wpList_store_blk _ (by rfl) 35 _ _ rfl w.heap.size z0 rfl rfl 35 _ hkR (by kernel_rfl) rfl (by kernel_rfl) ?_; intro w1 hk1 hg1)
      exact ret_cell_tmp rfl _ _ z0 _ rfl hk1 (by kernel_rfl) (by kernel_rfl) rfl rfl ⟨fun i hi => (by rw [HI.out] at hi; injection hi with hi; subst hi; rfl), fun hi => (by rw [HI.out] at hi; cases hi), Below.grown HBW.out hg1 (by omega) (by simp)⟩
    case false =>
    rcases q6 : decide ((7 : Int) < (x24.toNat : Int) % 16)
    case true =>
      have HI := Lib.hid (show rdErr xs = some 1 by rw [HRD.out false (by rw [q0, q1, q2, q3, q4, q5, q6]; simp)]; rfl)
      go_wp2_with (refine wpList_store_blk _ (by rfl) 35 _ _ rfl w.heap.size z0 rfl rfl 35 _ hkR (by kernel_rfl) rfl (by kernel_rfl) ?_; intro w1 hk1 hg1)
      exact ret_cell_tmp rfl _ _ z0 _ rfl hk1 (by kernel_rfl) (by kernel_rfl) rfl rfl ⟨fun i hi => (by rw [HI.out] at hi; injection hi with hi; subst hi; rfl), fun hi => (by rw [HI.out] at hi; cases hi), Below.grown HBW.out hg1 (by omega) (by simp)⟩
    case false =>
    have HI2 := Lib.hid (show rdErr xs = if 1526 < n then some 2 else none by rw [HRD.out true (by rw [q0, q1, q2, q3, q4, q5, q6]; rfl)]; rfl)
    by_cases h1526 : 1526 < n
    case pos =>
      have HI := Lib.hid (show rdErr xs = some 2 by rw [HI2.out, if_pos h1526])
      have d1 : decide ((1500 : Int) < (n : Int) - 26) = true := decide_eq_true (by omega)
      go_wp2_with (refine wpList_store_blk _ (by rfl) 35 _ _ rfl w.heap.size z0 rfl rfl 35 _ hkR (by kernel_rfl) rfl (by kernel_rfl) ?_; intro w1 hk1 hg1)
      exact ret_cell_tmp rfl _ _ z0 _ rfl hk1 (by kernel_rfl) (by kernel_rfl) rfl rfl ⟨fun i hi => (by rw [HI.out] at hi; injection hi with hi; subst hi; rfl), fun hi => (by rw [HI.out] at hi; cases hi), Below.grown HBW.out hg1 (by omega) (by simp)⟩
    case neg =>
      have HI := Lib.hid (show rdErr xs = none by rw [HI2.out, if_neg h1526])
      have d1 : decide ((1500 : Int) < (n : Int) - 26) = false := decide_eq_false (by omega)
      by_cases hC26 : C = 26
      case pos =>
        have hrow := HRW.out.cut (n := 26) (by omega)
        rw [if_pos hC26, ← List.map_drop] at hrow
        subst hC26
        obtain rfl : n = 26 := by omega
        have HBY := Lib.hid (show Calls Tryd.prog 56 #[.slice (some ⟨b, off, none⟩) 0 0] W fun e w' => GivesU8 W (xs.drop 26) e w' from bytes_any _ 0 0 (xs.drop 26) W hrow (by omega))
        clear hrow
        go_wp2_with fail
        refine HBY.out.mono ?_
        rintro e w5 ⟨A2, n2, C2, rfl, ho5, hb5⟩
        have HO5 := Lib.hid ho5
        have HB5 := Lib.hid (HBW.out.trans (hb5.mono (Nat.le_of_lt hlw)))
        have hlp := HKF.out.lt
        have hk5 := HKF.out.below hb5 hlp
        have hkR5 := hkR.below hb5 hlw
        have x23 : w5.cell? ⟨pb, 23, none⟩ = some (.slice none 0 0) := hk5.cell 23
        have f23 := hk5.frozen 23
        have HK6 := Lib.hid (hk5.set_ 23 (.slice A2 n2 C2))
        have HR6 := Lib.hid (hkR5.far (p := ⟨pb, 23, none⟩) (show w.heap.size ≠ pb by have := HGE.out; omega) (.slice A2 n2 C2))
        have HO6 := Lib.hid (OwnU8.keep (w' := w5.setCell ⟨pb, 23, none⟩ (.slice A2 n2 C2)) (r := some pb) HO5.out ⟨rfl, rfl, rfl, by simp [World.setCell], fun k _ hk => Below.heap_setCell _ _ _ k (fun e => hk (by rw [e]))⟩ (.inr (by intro e; have := (HO5.out.blk_ge pb e).1; omega)))
        have HB6 := Lib.hid (HB5.out.setCell (p := ⟨pb, 23, none⟩) (show w.heap.size ≤ pb by have := HGE.out; omega) (.slice A2 n2 C2))
        clear ho5 hb5 hk5 hkR5 hkR
        go_wp2_with (first
          | (refine wpList_load_blk _ (by rfl) 35 _ rfl pb rfl 35 _ _ HK6.out Tryd.underlying35 rfl (by kernel_rfl) ?_)
          | (refine wpList_store_blk _ (by rfl) 35 _ _ rfl w.heap.size _ rfl rfl 35 _ HR6.out (by kernel_rfl) rfl (qcells_one a ((x24.toNat : Int) % 16) (IntKind.i64.wrap ((v : Int) / 16)) (bitAt x1 3) (bitAt x1 5) (bitAt x24 4) A2 n2 C2) ?_; intro w7 hk7 hg7))
        have hS : IntKind.i64.wrap ((v : Int) / 16) = rdSeq x22 (xs.getD 23 0) := by
          have h1 := UInt8.toNat_lt (xs.getD 23 0)
          have h2 := HV.out
          rw [IntWalk.i64_in _ (by omega)]
          unfold rdSeq
          omega
        have hk8 : Blk w7 w.heap.size (qcells a ((x24.toNat : Int) % 16) (IntKind.i64.wrap ((v : Int) / 16)) (bitAt x1 3) (bitAt x1 5) (bitAt x24 4) A2 n2 C2) 35 := hk7
        rw [hS, show (x24.toNat : Int) % 16 = rdTid x24 from (Int.natCast_emod _ _).symm, ← HA.out, ← HX22.out] at hk8
        exact ret_cell_tmp rfl _ _ _ (.int .i64 0) rfl hk8 (by kernel_rfl) (by kernel_rfl) rfl rfl ⟨fun i hi => (by rw [HI.out] at hi; cases hi), fun _ => ⟨A2, n2, C2, rfl, OwnU8.base_le (OwnU8.keep HO6.out hg7 (.inr (by intro e; have := (HO6.out.blk_ge _ e).1; omega))) (Nat.le_of_lt hlw)⟩, Below.grown HB6.out hg7 HB6.out.size (by simp)⟩
      case neg =>
        have hrow := HRW.out.cut (n := 26) (by omega)
        rw [if_neg hC26, ← List.map_drop] at hrow
        have HBY := Lib.hid (bytes_any _ _ _ (xs.drop 26) W hrow (by omega))
        clear hrow
        go_wp2_with fail
        refine HBY.out.mono ?_
        rintro e w5 ⟨A2, n2, C2, rfl, ho5, hb5⟩
        have HO5 := Lib.hid ho5
        have HB5 := Lib.hid (HBW.out.trans (hb5.mono (Nat.le_of_lt hlw)))
        have hlp := HKF.out.lt
        have hk5 := HKF.out.below hb5 hlp
        have hkR5 := hkR.below hb5 hlw
        have x23 : w5.cell? ⟨pb, 23, none⟩ = some (.slice none 0 0) := hk5.cell 23
        have f23 := hk5.frozen 23
        have HK6 := Lib.hid (hk5.set_ 23 (.slice A2 n2 C2))
        have HR6 := Lib.hid (hkR5.far (p := ⟨pb, 23, none⟩) (show w.heap.size ≠ pb by have := HGE.out; omega) (.slice A2 n2 C2))
        have HO6 := Lib.hid (OwnU8.keep (w' := w5.setCell ⟨pb, 23, none⟩ (.slice A2 n2 C2)) (r := some pb) HO5.out ⟨rfl, rfl, rfl, by simp [World.setCell], fun k _ hk => Below.heap_setCell _ _ _ k (fun e => hk (by rw [e]))⟩ (.inr (by intro e; have := (HO5.out.blk_ge pb e).1; omega)))
        have HB6 := Lib.hid (HB5.out.setCell (p := ⟨pb, 23, none⟩) (show w.heap.size ≤ pb by have := HGE.out; omega) (.slice A2 n2 C2))
        clear ho5 hb5 hk5 hkR5 hkR
        go_wp2_with (first
          | (refine wpList_load_blk _ (by rfl) 35 _ rfl pb rfl 35 _ _ HK6.out Tryd.underlying35 rfl (by kernel_rfl) ?_)
          | (refine wpList_store_blk _ (by rfl) 35 _ _ rfl w.heap.size _ rfl rfl 35 _ HR6.out (by kernel_rfl) rfl (qcells_one a ((x24.toNat : Int) % 16) (IntKind.i64.wrap ((v : Int) / 16)) (bitAt x1 3) (bitAt x1 5) (bitAt x24 4) A2 n2 C2) ?_; intro w7 hk7 hg7))
        have hS : IntKind.i64.wrap ((v : Int) / 16) = rdSeq x22 (xs.getD 23 0) := by
          have h1 := UInt8.toNat_lt (xs.getD 23 0)
          have h2 := HV.out
          rw [IntWalk.i64_in _ (by omega)]
          unfold rdSeq
          omega
        have hk8 : Blk w7 w.heap.size (qcells a ((x24.toNat : Int) % 16) (IntKind.i64.wrap ((v : Int) / 16)) (bitAt x1 3) (bitAt x1 5) (bitAt x24 4) A2 n2 C2) 35 := hk7
        rw [hS, show (x24.toNat : Int) % 16 = rdTid x24 from (Int.natCast_emod _ _).symm, ← HA.out, ← HX22.out] at hk8
        exact ret_cell_tmp rfl _ _ _ (.int .i64 0) rfl hk8 (by kernel_rfl) (by kernel_rfl) rfl rfl ⟨fun i hi => (by rw [HI.out] at hi; cases hi), fun _ => ⟨A2, n2, C2, rfl, OwnU8.base_le (OwnU8.keep HO6.out hg7 (.inr (by intro e; have := (HO6.out.blk_ge _ e).1; omega))) (Nat.le_of_lt hlw)⟩, Below.grown HB6.out hg7 HB6.out.size (by simp)⟩
end Go.Proofs.YtoagmehgiaamlaaDoor
