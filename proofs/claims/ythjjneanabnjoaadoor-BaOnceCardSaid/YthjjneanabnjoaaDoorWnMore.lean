/-
  win.Win: Done, Resize.
-/
import Derived.Test.YthjjneanabnjoaaDoorWn
namespace Go.Proofs.YthjjneanabnjoaaDoor
open Go.ChangeShapes Go.WideShapes Go.ChangeAt Go.RowKit
set_option linter.unusedVariables false

set_option maxHeartbeats 800000 in
theorem done_no {w : World} {E : Nat → Addr} {base B C : Nat} {A : Option Addr} {s : WS} (h : Wn w base B A C s) (hc : w.cell? ⟨3, 0, none⟩ = some (errV E 6)) (n : Int) (hn : n ∉ s.o) :
    Calls Tryd.prog 63 #[.pointer (some ⟨B, 0, none⟩), .int .i64 n] w fun e w' => e = .returned (errV E 6) ∧ w = w' := by
  have c3 := h.c3
  have H := Lib.hid h
  have hc' : w.cell? ⟨3, 0, none⟩ = some (.iface 115 (.pointer (some (E 6)))) := hc
  clear h hc
  go_enter Tryd.func63, Tryd.ntmps63
  go_wp2_with fail
  refine (index_no A s.o.length C s.o n w H.out.own.row hn).mono ?_
  rintro e w1 ⟨rfl, rfl⟩
  go_wp2_with fail
  go_ret
  exact ⟨rfl, rfl⟩

/-- Done of the number at place i -/
def doneS (s : WS) (i : Nat) : WS := ⟨(s.o.eraseIdx i).headD s.nx, s.nx, s.sz, s.o.eraseIdx i⟩

set_option maxHeartbeats 1600000 in
theorem done_yes {w : World} {base B C : Nat} {A : Option Addr} {s : WS} (h : Wn w base B A C s) (n : Int) (i : Nat) (hi : s.o[i]? = some n) (hfst : ∀ j, j < i → s.o[j]? ≠ some n) (hl : s.o.length ≤ 1000000) (hB : base ≤ w.heap.size) :
    Calls Tryd.prog 63 #[.pointer (some ⟨B, 0, none⟩), .int .i64 n] w fun e w' => e = .returned .nilIface ∧
      ∃ A2 C2, Wn w' base B A2 C2 (doneS s i) ∧ Touch (wnS B A) w w' ∧ (∀ k, blk A2 = some k → w.heap.size ≤ k) := by
  have c3 := h.c3
  have H := Lib.hid h
  have HI := Lib.hid hi
  have HF := Lib.hid hfst
  have hlt := h.blk.lt
  have hil := (List.getElem?_eq_some_iff.1 hi).1
  clear h hi hfst
  go_enter Tryd.func63, Tryd.ntmps63
  go_wp2_with fail
  refine (index_yes A s.o.length C s.o n w H.out.own.row i HI.out HF.out).mono ?_
  rintro e w1 ⟨rfl, rfl⟩
  go_wp2_with fail
  refine (cloneI_any A s.o.length C s.o _ H.out.own.row hl).mono ?_
  rintro e w1 ⟨A2, C2, rfl, hown1, hb1⟩
  obtain ⟨g, rfl, hg1, hg2, hC2, hcell1, hfr1, _⟩ := hown1.open_ (by omega)
  have hCm : C2 ≤ 9223372036854775807 := hown1.row.len_cap.2
  have HO := Lib.hid hown1
  clear hown1 hcell1 hfr1
  go_wp2_with fail
  refine (delete_any HO.out hil hC2 hCm).mono ?_
  rintro e w2 ⟨rfl, hown2, hgr2⟩
  obtain ⟨m, hm⟩ : ∃ m, s.o.length - 1 = m := ⟨_, rfl⟩
  rw [hm]
  rw [hm] at hown2
  have hel : (s.o.eraseIdx i).length = m := by rw [List.length_eraseIdx, if_pos hil]; exact hm
  have hne : some B ≠ (some g : Option Nat) := by intro e; injection e with e; omega
  have hgB : ¬ g = B := by omega
  have hBg : ¬ B = g := by omega
  have hk2 : Blk w2 B (winC s A C) 94 := (H.out.blk.below hb1 hlt).grown hgr2 hne
  have d0 : w2.cell? ⟨B, 0, none⟩ = some (.int .i64 s.st) := hk2.cell 0
  have d1 : w2.cell? ⟨B, 1, none⟩ = some (.int .i64 s.nx) := hk2.cell 1
  have d3 : w2.cell? ⟨B, 3, none⟩ = some (.slice A s.o.length C) := hk2.cell 3
  have f0 := hk2.frozen 0
  have f3 := hk2.frozen 3
  have T2 : Touch (wnS B A) w w2 := (touch_of_below hb1 (fun k hk _ => hk)).trans (touch_of_grown (S := fun k => k = g) hgr2 (fun k hk => by injection hk with hk; exact hk.symm)) (fun k hk e => by subst e; omega)
  have HT := Lib.hid T2
  have HK := Lib.hid hk2
  have HO2 := Lib.hid (hown2.base_le (Nat.le_refl _))
  have HE := Lib.hid hel
  have hsz1 := hb1.size
  have hmm : m ≤ 1000000 := by omega
  clear T2 hm hel HO c3
  rcases Nat.eq_zero_or_pos m with hm0 | hm0
  · subst hm0
    have hnil : s.o.eraseIdx i = [] := List.eq_nil_of_length_eq_zero HE.out
    have HN := Lib.hid hnil
    clear hnil hown2
    go_wp2_with fail
    go_ret
    have hw : winC (doneS s i) (some ⟨g, 0, none⟩) C2 = #[.int .i64 s.nx, .int .i64 s.nx, .int .i64 s.sz, .slice (some ⟨g, 0, none⟩) 0 C2] := by simp [winC, doneS, HN.out]
    refine ⟨rfl, some ⟨g, 0, none⟩, C2, ⟨?_, ?_⟩, ?_, ?_⟩
    · rw [hw]
      exact (HK.out.set_ 3 (.slice (some ⟨g, 0, none⟩) 0 C2)).set_ 0 (.int .i64 s.nx)
    · show OwnI _ base _ (s.o.eraseIdx i).length C2 (s.o.eraseIdx i)
      rw [HE.out]
      exact ((HO2.out.base_le hB).far ⟨B, 3, none⟩ hne _).far ⟨B, 0, none⟩ hne _
    · exact (HT.out.trans (touch_set (wnS B A) _ _ _ _ (.inl rfl)) (fun _ _ x => x)).trans (touch_set (wnS B A) _ _ _ _ (.inl rfl)) (fun _ _ x => x)
    · intro k hk
      have hk' : some g = some k := hk
      injection hk' with hk'
      omega
  · obtain ⟨z, hz⟩ : ∃ z, (s.o.eraseIdx i)[0]? = some z := ⟨_, List.getElem?_eq_getElem (by rw [HE.out]; exact hm0)⟩
    obtain ⟨g', hg', _, _, _, hcell2, _, _⟩ := hown2.open_ hm0
    injection hg' with hg'; injection hg' with hg'; subst hg'
    have e0 := hcell2 0 z hz
    have HZ := Lib.hid hz
    clear hz hcell2 hown2
    go_wp2_with fail
    go_ret
    have hd : (s.o.eraseIdx i).headD s.nx = z := by rw [List.headD_eq_head?_getD, List.head?_eq_getElem?, HZ.out]; rfl
    have hw : winC (doneS s i) (some ⟨g, 0, none⟩) C2 = #[.int .i64 z, .int .i64 s.nx, .int .i64 s.sz, .slice (some ⟨g, 0, none⟩) m C2] := by simp only [winC, doneS, hd, HE.out]
    refine ⟨rfl, some ⟨g, 0, none⟩, C2, ⟨?_, ?_⟩, ?_, ?_⟩
    · rw [hw]
      exact ((HK.out.set_ 3 (.slice (some ⟨g, 0, none⟩) m C2)).set_ 0 (.int .i64 s.nx)).set_ 0 (.int .i64 z)
    · show OwnI _ base _ (s.o.eraseIdx i).length C2 (s.o.eraseIdx i)
      rw [HE.out]
      exact (((HO2.out.base_le hB).far ⟨B, 3, none⟩ hne _).far ⟨B, 0, none⟩ hne _).far ⟨B, 0, none⟩ hne _
    · exact ((HT.out.trans (touch_set (wnS B A) _ _ _ _ (.inl rfl)) (fun _ _ x => x)).trans (touch_set (wnS B A) _ _ _ _ (.inl rfl)) (fun _ _ x => x)).trans (touch_set (wnS B A) _ _ _ _ (.inl rfl)) (fun _ _ x => x)
    · intro k hk
      have hk' : some g = some k := hk
      injection hk' with hk'
      omega

/-- Resize: the error's place -/
def rszR (s : WS) (n : Int) : Option Nat := if n < 1 ∨ n > 64 then some 2 else if 0 < s.o.length then some 9 else none
def rszS (s : WS) (n : Int) : WS := if rszR s n = none then { s with sz := n } else s

set_option maxHeartbeats 800000 in
theorem resize_any {w : World} {E : Nat → Addr} {base B C : Nat} {A : Option Addr} {s : WS} (h : Wn w base B A C s) (hE : Errs [2, 9] w E) (n : Int) :
    Calls Tryd.prog 45 #[.pointer (some ⟨B, 0, none⟩), .int .i64 n] w fun e w' => e = .returned (errO E (rszR s n)) ∧ Wn w' base B A C (rszS s n) ∧ Touch (wnS B A) w w' := by
  have c3 := h.c3
  have c2 := h.c2
  have f2 := h.blk.frozen 2
  have gR := hE.at_ 2 0 (by decide) rfl
  have gS := hE.at_ 9 1 (by decide) rfl
  have H := Lib.hid h
  clear h
  by_cases h1 : n < 1
  · have hr : rszR s n = some 2 := by simp only [rszR]; rw [if_pos (.inl h1)]
    have hs : rszS s n = s := by simp only [rszS, hr]; rfl
    rw [hr, hs]
    clear hr hs
    go_enter Tryd.func45, Tryd.ntmps45
    go_wp2_with fail
    go_ret
    exact ⟨rfl, H.out, Touch.refl _ _⟩
  by_cases h2 : n > 64
  · have hr : rszR s n = some 2 := by simp only [rszR]; rw [if_pos (.inr h2)]
    have hs : rszS s n = s := by simp only [rszS, hr]; rfl
    rw [hr, hs]
    clear hr hs
    go_enter Tryd.func45, Tryd.ntmps45
    go_wp2_with fail
    go_ret
    exact ⟨rfl, H.out, Touch.refl _ _⟩
  by_cases h3 : 0 < s.o.length
  · have hr : rszR s n = some 9 := by simp only [rszR]; rw [if_neg (by omega), if_pos h3]
    have hs : rszS s n = s := by simp only [rszS, hr]; rfl
    rw [hr, hs]
    clear hr hs
    go_enter Tryd.func45, Tryd.ntmps45
    go_wp2_with fail
    go_ret
    exact ⟨rfl, H.out, Touch.refl _ _⟩
  · have hr : rszR s n = none := by simp only [rszR]; rw [if_neg (by omega), if_neg h3]
    have hs : rszS s n = { s with sz := n } := by simp only [rszS, hr]; rfl
    rw [hr, hs]
    clear hr hs
    go_enter Tryd.func45, Tryd.ntmps45
    go_wp2_with fail
    go_ret
    exact ⟨rfl, ⟨H.out.blk.set_ 2 (.int .i64 n), H.out.own.far ⟨B, 2, none⟩ H.out.ne _⟩, touch_set _ _ _ _ _ (.inl rfl)⟩
end Go.Proofs.YthjjneanabnjoaaDoor
