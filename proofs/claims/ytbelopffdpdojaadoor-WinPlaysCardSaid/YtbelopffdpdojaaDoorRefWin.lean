/-
  The document's Win: Ahead, Next, Done, Resize; Has, Del, SameInts.
-/
import Derived.Test.YtbelopffdpdojaaDoorWinHoldsPlain
import Derived.BigQuiet
namespace Go.Proofs.YtbelopffdpdojaaDoor
open Go.ChangeShapes Go.WideShapes Go.ChangeAt Go.RowKit
set_option linter.unusedVariables false

structure RWn (w : World) (base X : Nat) (A : Option Addr) (C Z st d : Nat) (ds : List Nat) : Prop where
  blk : Blk w X #[.int .i64 (st : Int), .int .i64 (d : Int), .int .i64 (Z : Int), .slice A ds.length C] 49
  own : OwnI w base A ds.length C (ds.map (atD st))
section
variable {w w' : World} {base X C Z st d : Nat} {A : Option Addr} {ds : List Nat}
theorem RWn.c0 (h : RWn w base X A C Z st d ds) : w.cell? ⟨X, 0, none⟩ = some (.int .i64 (st : Int)) := h.blk.cell 0
theorem RWn.c1 (h : RWn w base X A C Z st d ds) : w.cell? ⟨X, 1, none⟩ = some (.int .i64 (d : Int)) := h.blk.cell 1
theorem RWn.c2 (h : RWn w base X A C Z st d ds) : w.cell? ⟨X, 2, none⟩ = some (.int .i64 (Z : Int)) := h.blk.cell 2
theorem RWn.c3 (h : RWn w base X A C Z st d ds) : w.cell? ⟨X, 3, none⟩ = some (.slice A ds.length C) := h.blk.cell 3
theorem RWn.ne (h : RWn w base X A C Z st d ds) : some X ≠ Go.Proofs.YtbelopffdpdojaaDoor.blk A := own_ne h.own h.blk (by decide)
theorem RWn.below {D : Nat} (h : RWn w base X A C Z st d ds) (hb : Below D w w') (hD : w.heap.size ≤ D) : RWn w' base X A C Z st d ds := ⟨h.blk.below hb (Nat.lt_of_lt_of_le h.blk.lt hD), h.own.below hb hD⟩
theorem RWn.drewN (h : RWn w base X A C Z st d ds) (n : Nat) : RWn (w.drewN n) base X A C Z st d ds := ⟨h.blk, h.own⟩
theorem RWn.belowT (h : RWn w base X A C Z st d ds) (hX : base ≤ X) (ht : Touch (wnS X A) w w') : Below base w w' :=
  ht.below (fun k hk => by
    rcases hk with rfl | hk
    · exact hX
    · exact (h.own.ge k hk).1) (Nat.le_trans hX (Nat.le_of_lt h.blk.lt))
theorem RWn.touch {S : Nat → Prop} (h : RWn w base X A C Z st d ds) (ht : Touch S w w') (h1 : ¬ S X) (h2 : ∀ k, Go.Proofs.YtbelopffdpdojaaDoor.blk A = some k → ¬ S k) : RWn w' base X A C Z st d ds := ⟨h.blk.touch ht h1, h.own.touch ht h2⟩
end

set_option maxHeartbeats 800000 in
theorem rahead_any {w : World} {base X C Z st d : Nat} {A : Option Addr} {ds : List Nat} (h : RWn w base X A C Z st d ds) :
    Calls Tryd.prog 25 #[.pointer (some ⟨X, 0, none⟩)] w fun e w' => e = .returned (.int .i64 (atD st d)) ∧ ∃ n, w' = w.drewN n := by
  have c0 := h.c0
  have c1 := h.c1
  have HV := Lib.hid (show ((st : Int) + (d : Int)) % 4096 = atD st d from rfl)
  go_enter Tryd.func25, Tryd.ntmps25
  go_wp2_with fail
  go_quiet ((go_at_call 38; exact quiet_same (radd_any (st : Int) (d : Int) _)))
  go_wp2_with fail
  go_ret
  exact ⟨ret_i64 HV.out, _, rfl⟩

set_option maxHeartbeats 800000 in
theorem has_any (a : Option Addr) (len cap : Nat) (xs : List Int) (s : Int) (w : World) (h : Row w 1 a len cap (xs.map (Value.int .i64))) :
    Calls Tryd.prog 36 #[.slice a len cap, .int .i64 s] w fun e w' => e = .returned (.bool (decide (s ∈ xs))) ∧ w = w' := by
  have hm := h.len_le
  have hL : xs.length = len := by simpa using h.1
  have H := Lib.hid h
  clear h
  go_enter Tryd.func36, Tryd.ntmps36
  go_wp2_with fail
  go_loopw [5] (fun i wr => ∃ k : Nat, k ≤ len ∧ i = .int .i64 k ∧ Hid (∀ j z, j < k → xs[j]? = some z → z ≠ s) ∧ wr = w) (fun i _ => len - (intOf i).toNat)
  case atStart => exact ⟨0, Nat.zero_le _, rfl, Lib.hid (fun j z hj => by omega), rfl⟩
  case round =>
    obtain ⟨k, hk, rfl, HN, rfl⟩ := hrel
    by_cases hlt : k < len
    · obtain ⟨b, off, rfl, hb, hc⟩ := H.out.at_ (by omega)
      obtain ⟨z, hz⟩ : ∃ z, xs[k]? = some z := ⟨_, List.getElem?_eq_getElem (by omega)⟩
      have hcz : wr.cell? ⟨b, off + k, none⟩ = some (.int .i64 z) := hc k _ (by rw [List.getElem?_map, hz]; rfl)
      have HZ := Lib.hid hz
      clear hc hz
      by_cases hzs : z = s
      · have HD := Lib.hid (show decide (s ∈ xs) = true from decide_eq_true (hzs ▸ List.mem_of_getElem? HZ.out))
        go_wp2_with fail
        go_ret
        exact ⟨ret_bool HD.out.symm, by trivial⟩
      · have HN2 := Lib.hid (show ∀ j z', j < k + 1 → xs[j]? = some z' → z' ≠ s from fun j z' hj hz' => by
          by_cases hjk : j = k
          · subst hjk; rw [HZ.out] at hz'; injection hz' with hz'; subst hz'; exact hzs
          · exact HN.out j z' (by omega) hz')
        go_wp2_with fail
        go_roundw
        case rel => exact ⟨k + 1, by omega, by go_num, HN2, by trivial⟩
        case measure => simp [intOf]; omega
    · have HD := Lib.hid (show decide (s ∈ xs) = false from decide_eq_false fun hin => by
        obtain ⟨j, hj⟩ := List.getElem?_of_mem hin
        exact HN.out j s (by have := (List.getElem?_eq_some_iff.1 hj).1; omega) hj rfl)
      go_wp2_with fail
      go_ret
      exact ⟨ret_bool HD.out.symm, by trivial⟩

theorem filter_take (xs : List Int) (s : Int) {k : Nat} {z : Int} (h : xs[k]? = some z) : (xs.take (k + 1)).filter (· != s) = (xs.take k).filter (· != s) ++ (if z = s then [] else [z]) := by
  obtain ⟨hk, rfl⟩ := List.getElem?_eq_some_iff.1 h
  rw [List.take_succ_eq_append_getElem hk, List.filter_append]
  congr 1
  by_cases e : xs[k] = s <;> simp [e]

set_option maxHeartbeats 1600000 in
theorem del_any (a : Option Addr) (len cap : Nat) (xs : List Int) (s : Int) (w : World) (h : Row w 1 a len cap (xs.map (Value.int .i64))) (hl : len ≤ 1000000) :
    Calls Tryd.prog 37 #[.slice a len cap, .int .i64 s] w fun e w' => ∃ A C, e = .returned (.slice A (xs.filter (· != s)).length C) ∧ OwnI w' w.heap.size A (xs.filter (· != s)).length C (xs.filter (· != s)) ∧ Below w.heap.size w w' := by
  have hm := h.len_le
  have HL := Lib.hid (show xs.length = len by simpa using h.1)
  have H := Lib.hid h
  clear h
  go_enter Tryd.func37, Tryd.ntmps37
  go_wp2_with fail
  go_loopw [5, 6] (fun o i wr => ∃ k : Nat, k ≤ len ∧ i = .int .i64 k ∧ ∃ ys A C, Hid (ys = (xs.take k).filter (· != s)) ∧ ys.length ≤ k ∧ o = .slice A ys.length C ∧ OwnI wr w.heap.size A ys.length C ys ∧ Below w.heap.size w wr) (fun _ i _ => len - (intOf i).toNat)
  case atStart => exact ⟨0, Nat.zero_le _, rfl, [], none, 0, Lib.hid (by simp), by simp, rfl, ownI_nil _ _, Below.refl _ _⟩
  case round =>
    obtain ⟨k, hk, rfl, ys, A, C, HY, hyl, rfl, hown, hbw⟩ := hrel
    by_cases hlt : k < len
    · obtain ⟨b, off, rfl, hb, hc⟩ := H.out.at_ (by omega)
      obtain ⟨z, hz⟩ : ∃ z, xs[k]? = some z := ⟨_, List.getElem?_eq_getElem (by rw [HL.out]; exact hlt)⟩
      have hcz : wr.cell? ⟨b, off + k, none⟩ = some (.int .i64 z) := (hbw.cell (p := ⟨b, off + k, none⟩) hb).trans (hc k _ (by rw [List.getElem?_map, hz]; rfl))
      have HT := Lib.hid (filter_take xs s hz)
      have HO := Lib.hid hown
      have sz := hbw.size
      obtain ⟨n, hn⟩ : ∃ n, ys.length = n := ⟨_, rfl⟩
      rw [hn] at hyl ⊢
      have HN := Lib.hid hn
      clear hc hz hown hn
      by_cases hzs : z = s
      · have HY2 := Lib.hid (show ys = (xs.take (k + 1)).filter (· != s) by rw [HT.out, if_pos hzs, List.append_nil]; exact HY.out)
        go_wp2_with fail
        go_roundw
        case rel => exact ⟨k + 1, by omega, by go_num, ys, A, C, HY2, by rw [HN.out]; omega, by rw [HN.out], HO.out, hbw⟩
        case measure => simp [intOf]; omega
      · have HY2 := Lib.hid (show ys ++ [z] = (xs.take (k + 1)).filter (· != s) by rw [HT.out, if_neg hzs]; rw [HY.out])
        go_wp2_with (at_builtin; refine append_int _ rfl (.tmp 19) (.tmp 24) rfl w.heap.size A n C ys rfl (by have := HO.out; rw [HN.out] at this; exact this.alloc _) _ 1 1 [z] rfl (row_int1 _ _ _) (by omega) (by simp; omega) ?_; intro A2 C2 w2 hown2 hg2 hat2)
        have HO2 := Lib.hid hown2
        have hb2 : Below w.heap.size w w2 := below_grown (hbw.alloc sz _) (by have := HO.out; rw [HN.out] at this; exact this.alloc _) (Nat.le_refl _) (by simp; omega) hg2
        clear hown2 hg2 hat2
        go_roundw
        case rel => exact ⟨k + 1, by omega, by go_num, ys ++ [z], A2, C2, HY2, by rw [List.length_append, HN.out]; simp; omega, by rw [List.length_append, HN.out]; rfl, by rw [List.length_append, HN.out]; exact HO2.out, hb2⟩
        case measure => simp [intOf]; omega
    · have hke : k = len := by omega
      have HF := Lib.hid (show ys = xs.filter (· != s) by rw [HY.out, List.take_of_length_le]; rw [HL.out]; omega)
      clear hke
      go_wp2_with fail
      go_ret
      exact ⟨A, C, by rw [← HF.out]; rfl, by rw [← HF.out]; exact hown, hbw⟩

theorem drewN_two (w : World) (n m : Nat) : ∃ k, (w.drewN n).drewN m = w.drewN k := ⟨n + m, by simp⟩

set_option maxHeartbeats 800000 in
theorem sameInts_any (a a' : Option Addr) (len cap cap' : Nat) (xs : List Int) (w : World) (h : Row w 1 a len cap (xs.map (Value.int .i64))) (h' : Row w 1 a' len cap' (xs.map (Value.int .i64))) :
    Calls Tryd.prog 27 #[.slice a len cap, .slice a' len cap'] w fun e w' => e = .returned (.bool true) ∧ ∃ n, w' = w.drewN n := by
  have hm := h.len_le
  have hL : xs.length = len := by simpa using h.1
  have H := Lib.hid h
  have H' := Lib.hid h'
  clear h h'
  go_enter Tryd.func27, Tryd.ntmps27
  go_wp2_with fail
  go_loopw [5] (fun i wr => ∃ k : Nat, k ≤ len ∧ i = .int .i64 k ∧ ∃ n, wr = w.drewN n) (fun i _ => len - (intOf i).toNat)
  case atStart => exact ⟨0, Nat.zero_le _, rfl, 0, rfl⟩
  case round =>
    obtain ⟨k, hk, rfl, nn, hw⟩ := hrel
    have HW := Lib.hid hw
    clear hw
    by_cases hlt : k < len
    · obtain ⟨b, off, rfl, hb, hc⟩ := H.out.at_ (by omega)
      obtain ⟨b', off', rfl, hb', hc'⟩ := H'.out.at_ (by omega)
      obtain ⟨z, hz⟩ : ∃ z, xs[k]? = some z := ⟨_, List.getElem?_eq_getElem (by omega)⟩
      have hcz : wr.cell? ⟨b, off + k, none⟩ = some (.int .i64 z) := by rw [HW.out]; exact hc k _ (by rw [List.getElem?_map, hz]; rfl)
      have hcz' : wr.cell? ⟨b', off' + k, none⟩ = some (.int .i64 z) := by rw [HW.out]; exact hc' k _ (by rw [List.getElem?_map, hz]; rfl)
      clear hc hc' hz
      go_wp2_with fail
      go_quiet (fail)
      go_wp2_with fail
      go_roundw
      case rel => exact ⟨k + 1, by omega, by go_num, by rw [HW.out]; exact drewN_two _ _ _⟩
      case measure => simp [intOf]; omega
    · go_wp2_with fail
      go_ret
      exact ⟨rfl, _, HW.out⟩

set_option maxHeartbeats 800000 in
theorem rnext_no {w : World} {base X C Z st d : Nat} {A : Option Addr} {ds : List Nat} (h : RWn w base X A C Z st d ds) (hd : Z ≤ d) :
    Calls Tryd.prog 22 #[.pointer (some ⟨X, 0, none⟩)] w fun e w' => e = .returned (.tuple #[.int .i64 0, .bool false]) ∧ ∃ n, w' = w.drewN n := by
  have c1 := h.c1
  have c2 := h.c2
  have hg : decide ((Z : Int) ≤ (d : Int)) = true := decide_eq_true (by omega)
  go_enter Tryd.func22, Tryd.ntmps22
  go_wp2_with fail
  go_quiet (fail)
  go_wp2_with fail
  go_ret2
  exact ⟨rfl, _, rfl⟩

set_option maxHeartbeats 1600000 in
theorem rnext_yes {w : World} {base X C Z st d : Nat} {A : Option Addr} {ds : List Nat} (h : RWn w base X A C Z st d ds) (hd : d < Z) (hdm : d ≤ 1000) (hl : ds.length ≤ 1000000) (hB : base ≤ w.heap.size) :
    Calls Tryd.prog 22 #[.pointer (some ⟨X, 0, none⟩)] w fun e w' => e = .returned (.tuple #[.int .i64 (atD st d), .bool true]) ∧
      ∃ A2 C2, RWn w' base X A2 C2 Z st (d + 1) (ds ++ [d]) ∧ Touch (wnS X A) w w' ∧ (∀ k, blk A2 = some k → blk A = some k ∨ w.heap.size ≤ k) := by
  have H := Lib.hid h
  have hlt := h.blk.lt
  have c1 := h.c1
  have c2 := h.c2
  have hg : decide ((Z : Int) ≤ (d : Int)) = false := decide_eq_false (by omega)
  clear h
  go_enter Tryd.func22, Tryd.ntmps22
  go_wp2_with fail
  go_quiet (fail)
  go_wp2_with fail
  refine (rahead_any (H.out.drewN _)).mono ?_
  rintro e w1 ⟨rfl, n, rfl⟩
  obtain ⟨w1, hw1⟩ : ∃ w1, w1 = (w.drewN nq).drewN n := ⟨_, rfl⟩
  rw [← hw1]
  have H1 := Lib.hid (show RWn w1 base X A C Z st d ds by rw [hw1]; exact (H.out.drewN _).drewN _)
  have T1 := Lib.hid (show Touch (wnS X A) w w1 by rw [hw1]; exact (touch_drew _ _ _).trans (touch_drew (wnS X A) _ _) (fun _ _ x => x))
  have hsz1 : w1.heap.size = w.heap.size := by rw [hw1]; rfl
  clear hw1 c1 c2
  have d1 := H1.out.c1
  have f1 := H1.out.blk.frozen 1
  have d3 := H1.out.c3
  have f3 := H1.out.blk.frozen 3
  have hlt1 := H1.out.blk.lt
  generalize hV : atD st d = V at *
  have HV := Lib.hid hV
  clear hV
  go_wp2_with (at_builtin; refine append_int _ rfl (.tmp 28) (.tmp 30) rfl base A ds.length C _ rfl ((H1.out.own.far ⟨X, 1, none⟩ H1.out.ne _).alloc _) _ 1 1 [V] rfl (row_int1' _ _ _ _ (by simp [World.setCell, hsz1])) (by omega) (by simp [World.setCell]; omega) ?_; intro A2 C2 w3 hown3 hg3 hat3; have hk3 : Blk w3 X #[.int .i64 (st : Int), .int .i64 ((d : Int) + 1), .int .i64 (Z : Int), .slice A ds.length C] 49 := Blk.grown (w := (w1.setCell ⟨X, 1, none⟩ (.int .i64 ((d : Int) + 1))).alloc (.cells #[.int .i64 V] 3)) (Blk.alloc (Blk.set_ (w := w1) H1.out.blk 1 _) _) hg3 H1.out.ne; have d3' : w3.cell? ⟨X, 3, none⟩ = some (.slice A ds.length C) := hk3.cell 3; have df3 := hk3.frozen 3)
  go_ret2
  have hne3 : some X ≠ blk A2 := by
    rcases hat3 with e | e
    · rw [e]; exact H.out.ne
    · rw [e]; intro x; injection x with x; simp [World.setCell] at x; omega
  refine ⟨by rw [HV.out]; rfl, A2, C2, ⟨?_, ?_⟩, ?_, ?_⟩
  · have := hk3.set_ 3 (.slice A2 (ds.length + 1) C2)
    rw [List.length_append]
    exact this
  · have := hown3.far ⟨X, 3, none⟩ hne3 (.slice A2 (ds.length + 1) C2)
    rw [List.length_append, List.map_append, List.map_cons, List.map_nil, HV.out]
    exact this
  · have t1 : Touch (wnS X A) w ((w1.setCell ⟨X, 1, none⟩ (.int .i64 ((d : Int) + 1))).alloc (.cells #[.int .i64 V] 3)) :=
      (T1.out.trans (touch_set (wnS X A) _ _ _ _ (.inl rfl)) (fun _ _ x => x)).trans (touch_alloc (wnS X A) _ _) (fun _ _ x => x)
    exact (t1.trans (touch_of_grown (S := wnS X A) hg3 (fun k hk => .inr hk)) (fun _ _ x => x)).trans (touch_set (wnS X A) _ _ _ _ (.inl rfl)) (fun _ _ x => x)
  · intro k hk
    rcases hat3 with e | e
    · exact .inl (e ▸ hk)
    · right; rw [e] at hk; injection hk with hk; simp [World.setCell] at hk; omega

set_option maxHeartbeats 800000 in
theorem rresize_any {w : World} {base X C Z st d : Nat} {A : Option Addr} {ds : List Nat} (h : RWn w base X A C Z st d ds) (n : Int) (B : Nat) :
    Calls Tryd.prog 24 #[.pointer (some ⟨X, 0, none⟩), .int .i64 n] w fun e w' => e = .returned (.int .i64 (errCode (rszR (WH B st d ds) n))) ∧ RWn w' base X A C (if rszR (WH B st d ds) n = none then n.toNat else Z) st d ds ∧ Touch (wnS X A) w w' := by
  have c3 := h.c3
  have c2 := h.c2
  have f2 := h.blk.frozen 2
  have hlen : (WH B st d ds).o.length = ds.length := by simp [WH]
  have H := Lib.hid h
  clear h
  by_cases h1 : n < 1
  · have hr : rszR (WH B st d ds) n = some 2 := by simp only [rszR]; rw [if_pos (.inl h1)]
    rw [hr]
    clear hr hlen
    go_enter Tryd.func24, Tryd.ntmps24
    go_wp2_with fail
    go_ret
    exact ⟨rfl, H.out, Touch.refl _ _⟩
  by_cases h2 : n > 64
  · have hr : rszR (WH B st d ds) n = some 2 := by simp only [rszR]; rw [if_pos (.inr h2)]
    rw [hr]
    clear hr hlen
    go_enter Tryd.func24, Tryd.ntmps24
    go_wp2_with fail
    go_ret
    exact ⟨rfl, H.out, Touch.refl _ _⟩
  by_cases h3 : 0 < ds.length
  · have hr : rszR (WH B st d ds) n = some 9 := by simp only [rszR]; rw [if_neg (by omega), if_pos (by rw [hlen]; exact h3)]
    rw [hr]
    clear hr hlen
    go_enter Tryd.func24, Tryd.ntmps24
    go_wp2_with fail
    go_ret
    exact ⟨rfl, H.out, Touch.refl _ _⟩
  · have hr : rszR (WH B st d ds) n = none := by simp only [rszR]; rw [if_neg (by omega), if_neg (by rw [hlen]; exact h3)]
    rw [hr]
    have hn : ((n.toNat : Nat) : Int) = n := by omega
    have HN := Lib.hid hn
    clear hr hlen hn
    go_enter Tryd.func24, Tryd.ntmps24
    go_wp2_with fail
    go_ret
    refine ⟨rfl, ⟨?_, H.out.own.far ⟨X, 2, none⟩ H.out.ne _⟩, touch_set _ _ _ _ _ (.inl rfl)⟩
    rw [HN.out]
    exact H.out.blk.set_ 2 (.int .i64 n)

theorem filter_gone {Z st d : Nat} {ds : List Nat} (h : HInv Z st d ds) {i y : Nat} (hy : ds[i]? = some y) : (ds.map (atD st)).filter (· != atD st y) = (ds.eraseIdx i).map (atD st) := by
  have hlt := h.lt; have hdz := h.dz; have h64 := h.z64
  have hyd := h.below y (List.mem_of_getElem? hy)
  obtain ⟨hi, rfl⟩ := List.getElem?_eq_some_iff.1 hy
  have hne : ∀ j (hj : j < ds.length), j ≠ i → atD st ds[j] ≠ atD st ds[i] := by
    intro j hj hji e
    have hjd := h.below ds[j] (List.getElem_mem hj)
    have hne : ds[j] ≠ ds[i] := by
      rcases Nat.lt_or_gt_of_ne hji with hl | hl
      · have := List.pairwise_iff_getElem.1 h.up j i hj hi hl; omega
      · have := List.pairwise_iff_getElem.1 h.up i j hi hj hl; omega
    unfold atD at e
    omega
  have hsplit : ds = ds.take i ++ ds[i] :: ds.drop (i + 1) := by rw [List.getElem_cons_drop, List.take_append_drop]
  rw [List.eraseIdx_eq_take_drop_succ]
  rw [show ds.map (atD st) = (ds.take i ++ ds[i] :: ds.drop (i + 1)).map (atD st) from congrArg (List.map (atD st)) hsplit]
  rw [List.map_append, List.map_cons, List.filter_append, List.filter_cons]
  have e1 : (ds.take i).map (atD st) = ((ds.take i).map (atD st)).filter (· != atD st ds[i]) := by
    symm
    apply List.filter_eq_self.2
    intro z hz
    obtain ⟨u, hu, rfl⟩ := List.mem_map.1 hz
    obtain ⟨j, hj, rfl⟩ := List.getElem_of_mem hu
    rw [List.getElem_take]
    have hji : j < i := by simp at hj; omega
    simpa using hne j (by omega) (by omega)
  have e2 : (ds.drop (i + 1)).map (atD st) = ((ds.drop (i + 1)).map (atD st)).filter (· != atD st ds[i]) := by
    symm
    apply List.filter_eq_self.2
    intro z hz
    obtain ⟨u, hu, rfl⟩ := List.mem_map.1 hz
    obtain ⟨j, hj, rfl⟩ := List.getElem_of_mem hu
    rw [List.getElem_drop]
    have hjl : j < ds.length - (i + 1) := by simpa using hj
    simpa using hne (i + 1 + j) (by omega) (by omega)
  rw [← e1, List.map_append]
  simp only [bne_self_eq_false, Bool.false_eq_true, if_false]
  rw [← e2]

set_option maxHeartbeats 800000 in
theorem rdone_no {w : World} {base X C Z st d : Nat} {A : Option Addr} {ds : List Nat} (h : RWn w base X A C Z st d ds) (n : Int) (hn : n ∉ ds.map (atD st)) :
    Calls Tryd.prog 23 #[.pointer (some ⟨X, 0, none⟩), .int .i64 n] w fun e w' => e = .returned (.int .i64 107) ∧ w = w' := by
  have c3 := h.c3
  have H := Lib.hid h
  have HD := Lib.hid (show decide (n ∈ ds.map (atD st)) = false from decide_eq_false hn)
  clear h hn
  go_enter Tryd.func23, Tryd.ntmps23
  go_wp2_with fail
  refine (has_any A ds.length C (ds.map (atD st)) n w H.out.own.row).mono ?_
  rintro e w1 ⟨rfl, rfl⟩
  rw [HD.out]
  go_wp2_with fail
  go_ret
  exact ⟨rfl, rfl⟩

set_option maxHeartbeats 1600000 in
theorem rdone_yes {w : World} {base X C Z st d : Nat} {A : Option Addr} {ds : List Nat} (h : RWn w base X A C Z st d ds) (hI : HInv Z st d ds) {i y : Nat} (hy : ds[i]? = some y) (hB : base ≤ w.heap.size) :
    Calls Tryd.prog 23 #[.pointer (some ⟨X, 0, none⟩), .int .i64 (atD st y)] w fun e w' => e = .returned (.int .i64 0) ∧
      ∃ A2 C2, (∃ x, x = (ds.eraseIdx i).headD d ∧ Blk w' X #[.int .i64 (atD st x), .int .i64 ((d : Int) - (x : Int)), .int .i64 (Z : Int), .slice A2 (ds.eraseIdx i).length C2] 49) ∧ OwnI w' base A2 (ds.eraseIdx i).length C2 ((ds.eraseIdx i).map (atD st)) ∧ Touch (wnS X A) w w' ∧ (∀ k, blk A2 = some k → w.heap.size ≤ k) := by
  have c3 := h.c3
  have H := Lib.hid h
  have hlt := h.blk.lt
  have hdl := hI.len
  have hdz := hI.dz
  have h64 := hI.z64
  have HD := Lib.hid (show decide (atD st y ∈ ds.map (atD st)) = true from decide_eq_true (List.mem_map.2 ⟨y, List.mem_of_getElem? hy, rfl⟩))
  have HF := Lib.hid (filter_gone hI hy)
  obtain ⟨es, hes⟩ : ∃ es, ds.eraseIdx i = es := ⟨_, rfl⟩
  rw [hes]
  have hx : es.headD d ≤ d := by
    rw [← hes]
    cases hc : ds.eraseIdx i with
    | nil => exact Nat.le_refl _
    | cons x l =>
      have := hI.below x ((List.eraseIdx_sublist ds i).subset (by rw [hc]; exact List.mem_cons_self ..))
      show x ≤ d; omega
  have hell : es.length ≤ 64 := by rw [← hes]; have := (List.eraseIdx_sublist ds i).length_le; omega
  have HES := Lib.hid hes
  have hst := hI.lt
  clear h hy hes hI
  generalize hV : atD st y = V at *
  go_enter Tryd.func23, Tryd.ntmps23
  go_wp2_with fail
  refine (has_any A ds.length C (ds.map (atD st)) V w H.out.own.row).mono ?_
  rintro e w1 ⟨rfl, rfl⟩
  rw [HD.out]
  go_wp2_with fail
  refine (del_any A ds.length C (ds.map (atD st)) V w H.out.own.row (by omega)).mono ?_
  rintro e w1 ⟨A1, C1, rfl, hown1, hb1⟩
  rw [HF.out, HES.out] at hown1
  rw [HF.out, HES.out]
  have hk1 : Blk w1 X #[.int .i64 (st : Int), .int .i64 (d : Int), .int .i64 (Z : Int), .slice A ds.length C] 49 := H.out.blk.below hb1 hlt
  have g3 : w1.cell? ⟨X, 3, none⟩ = some (.slice A ds.length C) := hk1.cell 3
  have gf3 := hk1.frozen 3
  have hnX : some X ≠ blk A1 := by
    intro e
    have := hown1.ge X e.symm
    omega
  have hmap : (es.map (atD st)).length = es.length := by simp
  rw [hmap] at hown1 ⊢
  obtain ⟨m, hm⟩ : ∃ m, es.length = m := ⟨_, rfl⟩
  rw [hm] at hown1 hell ⊢
  obtain ⟨w2, hw2⟩ : ∃ w2, w2 = w1.setCell ⟨X, 3, none⟩ (.slice A1 m C1) := ⟨_, rfl⟩
  have R2 := Lib.hid (show RWn w2 base X A1 C1 Z st d es from ⟨by rw [hw2, hm]; exact hk1.set_ 3 _, by rw [hw2, hm]; exact (hown1.base_le hB).far ⟨X, 3, none⟩ hnX _⟩)
  have T2 := Lib.hid (show Touch (wnS X A) w w2 by rw [hw2]; exact (touch_of_below hb1 (fun k hk _ => hk)).trans (touch_set (wnS X A) _ _ _ _ (.inl rfl)) (fun _ _ x => x))
  have HK1 := Lib.hid (show ∀ k, blk A1 = some k → w.heap.size ≤ k from fun k hk => (hown1.ge k hk).1)
  have HW2 := Lib.hid hw2
  have HM := Lib.hid hm
  clear hown1 hk1 hm hmap c3 hb1
  go_wp2_with fail
  rw [← HW2.out]
  refine (rahead_any R2.out).mono ?_
  rintro e w3 ⟨rfl, nq, rfl⟩
  obtain ⟨w3, hw3⟩ : ∃ w3, w3 = w2.drewN nq := ⟨_, rfl⟩
  rw [← hw3]
  have R3 := Lib.hid (show RWn w3 base X A1 C1 Z st d es by rw [hw3]; exact R2.out.drewN _)
  have T3 := Lib.hid (show Touch (wnS X A) w w3 by rw [hw3]; exact T2.out.trans (touch_drew (wnS X A) _ _) (fun _ _ x => x))
  clear hw3 hw2 R2 T2 HW2 g3 gf3
  have k0 := R3.out.c0
  have k1 := R3.out.c1
  have k3 := R3.out.c3
  have kf0 := R3.out.blk.frozen 0
  have kf1 := R3.out.blk.frozen 1
  rw [HM.out] at k3
  rcases Nat.eq_zero_or_pos m with hm0 | hm0
  · subst hm0
    have hnil : es = [] := List.eq_nil_of_length_eq_zero HM.out
    have eD : (atD st d - (st : Int)) % 4096 = (d : Int) := by unfold atD; omega
    have cD := Lib.hid (show Calls Tryd.prog 15 #[.int .i64 (st : Int), .int .i64 (atD st d)] w3.drew fun e w' => e = .returned (.int .i64 (d : Int)) ∧ w' = w3.drew from by have := rdist_any (st : Int) (atD st d) w3.drew; rw [eD] at this; exact this.mono (fun _ _ hh => ⟨hh.1, hh.2.symm⟩))
    have HN := Lib.hid hnil
    clear hnil eD
    go_wp2_with fail
    go_still_tail 14, (by kernel_rfl)
    still_call cD.out
    (repeat still_step)
    (try refine wpStill_nil ?_)
    change wpList _ _ _ _ _ w3.drew
    obtain ⟨w4, hw4⟩ : ∃ w4, w4 = w3.drew := ⟨_, rfl⟩
    rw [← hw4]
    have R4 := Lib.hid (show RWn w4 base X A1 C1 Z st d es by rw [hw4]; exact ⟨R3.out.blk, R3.out.own⟩)
    have T4 := Lib.hid (show Touch (wnS X A) w w4 by rw [hw4]; exact T3.out.trans (touch_drew (wnS X A) w3 1) (fun _ _ x => x))
    clear hw4 k0 k1 k3 kf0 kf1 cD R3 T3
    have k0 := R4.out.c0
    have k1 := R4.out.c1
    have kf0 := R4.out.blk.frozen 0
    have kf1 := R4.out.blk.frozen 1
    go_wp2_with fail
    go_ret
    refine ⟨rfl, A1, C1, ⟨_, rfl, ?_⟩, ?_, ?_, HK1.out⟩
    · rw [show es.headD d = d by rw [HN.out]; rfl]
      have hh := (R4.out.blk.set_ 1 (.int .i64 ((d : Int) - (d : Int)))).set_ 0 (.int .i64 (atD st d))
      simpa using hh
    · have := (R4.out.own.far ⟨X, 1, none⟩ R4.out.ne (.int .i64 ((d : Int) - (d : Int)))).far ⟨X, 0, none⟩ R4.out.ne (.int .i64 (atD st d))
      simpa using this
    · exact (T4.out.trans (touch_set (wnS X A) _ _ _ _ (.inl rfl)) (fun _ _ x => x)).trans (touch_set (wnS X A) _ _ _ _ (.inl rfl)) (fun _ _ x => x)
  · obtain ⟨x, hx0⟩ : ∃ x, es[0]? = some x := ⟨_, List.getElem?_eq_getElem (by rw [HM.out]; exact hm0)⟩
    have hhx : es.headD d = x := by rw [List.headD_eq_head?_getD, List.head?_eq_getElem?, hx0]; rfl
    rw [hhx] at hx
    have HX := Lib.hid hhx
    obtain ⟨g, rfl, _, _, _, hcell, _, _⟩ := R3.out.own.open_ (by rw [HM.out]; exact hm0)
    have ke : w3.cell? ⟨g, 0, none⟩ = some (.int .i64 (atD st x)) := hcell 0 _ (by rw [List.getElem?_map, hx0]; rfl)
    have eD : (atD st x - (st : Int)) % 4096 = (x : Int) := by unfold atD; omega
    have cD := Lib.hid (show Calls Tryd.prog 15 #[.int .i64 (st : Int), .int .i64 (atD st x)] w3.drew fun e w' => e = .returned (.int .i64 (x : Int)) ∧ w' = w3.drew from by have := rdist_any (st : Int) (atD st x) w3.drew; rw [eD] at this; exact this.mono (fun _ _ hh => ⟨hh.1, hh.2.symm⟩))
    clear hcell eD hx0 hhx
    go_wp2_with fail
    go_still_tail 14, (by kernel_rfl)
    still_call cD.out
    (repeat still_step)
    (try refine wpStill_nil ?_)
    change wpList _ _ _ _ _ w3.drew
    obtain ⟨w4, hw4⟩ : ∃ w4, w4 = w3.drew := ⟨_, rfl⟩
    rw [← hw4]
    have R4 := Lib.hid (show RWn w4 base X (some ⟨g, 0, none⟩) C1 Z st d es by rw [hw4]; exact ⟨R3.out.blk, R3.out.own⟩)
    have T4 := Lib.hid (show Touch (wnS X A) w w4 by rw [hw4]; exact T3.out.trans (touch_drew (wnS X A) w3 1) (fun _ _ x => x))
    clear hw4 k0 k1 k3 kf0 kf1 cD R3 T3 ke
    have k0 := R4.out.c0
    have k1 := R4.out.c1
    have kf0 := R4.out.blk.frozen 0
    have kf1 := R4.out.blk.frozen 1
    go_wp2_with fail
    go_ret
    refine ⟨rfl, some ⟨g, 0, none⟩, C1, ⟨_, rfl, ?_⟩, ?_, ?_, HK1.out⟩
    · rw [HX.out]
      have hh := (R4.out.blk.set_ 1 (.int .i64 ((d : Int) - (x : Int)))).set_ 0 (.int .i64 (atD st x))
      exact hh
    · have := (R4.out.own.far ⟨X, 1, none⟩ R4.out.ne (.int .i64 ((d : Int) - (x : Int)))).far ⟨X, 0, none⟩ R4.out.ne (.int .i64 (atD st x))
      exact this
    · exact (T4.out.trans (touch_set (wnS X (A)) _ _ _ _ (.inl rfl)) (fun _ _ x => x)).trans (touch_set (wnS X A) _ _ _ _ (.inl rfl)) (fun _ _ x => x)
end Go.Proofs.YtbelopffdpdojaaDoor
