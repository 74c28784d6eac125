/-
  ba: land, Lost.
-/
import Derived.Test.YthjjneanabnjoaaDoorBaFreshOk
namespace Go.Proofs.YthjjneanabnjoaaDoor
open Go.ChangeShapes Go.WideShapes Go.ChangeAt Go.RowKit
set_option linter.unusedVariables false

def land1 (x : Fm) : Fm := { x with fl := false }
def landS (s : BS) : BS := { s with l := s.l.map land1 }
/-- a function on the first k of a list -/
def mapK (f : Fm → Fm) (l : List Fm) (k : Nat) : List Fm := (l.take k).map f ++ l.drop k
theorem mapK_zero (f : Fm → Fm) (l : List Fm) : mapK f l 0 = l := by simp [mapK]
theorem mapK_all (f : Fm → Fm) (l : List Fm) : mapK f l l.length = l.map f := by simp [mapK]
theorem mapK_len (f : Fm → Fm) (l : List Fm) (k : Nat) : (mapK f l k).length = l.length := by simp [mapK]; omega
theorem mapK_get {f : Fm → Fm} {l : List Fm} {k : Nat} {x : Fm} (hx : l[k]? = some x) : (mapK f l k)[k]? = some x := by
  have hk := (List.getElem?_eq_some_iff.1 hx).1
  rw [mapK, List.getElem?_append_right (by simp; omega), List.getElem?_drop, List.length_map, List.length_take, Nat.min_eq_left (by omega), Nat.sub_self, Nat.add_zero]
  exact hx
theorem mapK_succ {f : Fm → Fm} {l : List Fm} {k : Nat} {x : Fm} (hx : l[k]? = some x) : (mapK f l k).set k (f x) = mapK f l (k + 1) := by
  obtain ⟨hk, e⟩ := List.getElem?_eq_some_iff.1 hx
  unfold mapK
  rw [List.set_append_right _ _ (by simp; omega), List.length_map, List.length_take, Nat.min_eq_left (by omega), Nat.sub_self, List.drop_eq_getElem_cons hk, List.set_cons_zero, List.take_succ_eq_append_getElem hk, List.map_append, e]
  simp
theorem mapK_mem {f : Fm → Fm} {l : List Fm} {k : Nat} {x : Fm} (h : x ∈ mapK f l k) : x ∈ l ∨ ∃ y ∈ l, x = f y := by
  rcases List.mem_append.1 h with h | h
  · obtain ⟨y, hy, rfl⟩ := List.mem_map.1 h
    exact .inr ⟨y, List.mem_of_mem_take hy, rfl⟩
  · exact .inl (List.mem_of_mem_drop h)
section
variable {w w' : World} {base B : Nat} {p : BP} {s : BS}
/-- cells of the k-th frame's are written -/
theorem Bs.setf {g C k j : Nat} {x x' : Fm} {u : Value} (h : Bs w base B ⟨p.W, p.AW, p.CW, some ⟨g, 0, none⟩, C⟩ s) (hx : s.l[k]? = some x) (hj : j < 9) (hu : (fmC x).set j u = fmC x') (hA : x'.A = x.A) (hC : x'.C = x.C) (hm : x'.m.body = x.m.body) :
    Bs (w.setCell ⟨g, k * 9 + j, none⟩ u) base B ⟨p.W, p.AW, p.CW, some ⟨g, 0, none⟩, C⟩ { s with l := s.l.set k x' } := by
  have hk := (List.getElem?_eq_some_iff.1 hx).1
  obtain ⟨g', hg', _, _, _, _, _, hst⟩ := own_open h.own (by omega)
  injection hg' with hg'; injection hg' with hg'; subst hg'
  have hnB : B ≠ g := by intro e; exact h.neA (by rw [e]; rfl)
  have hnW : p.W ≠ g := by intro e; exact h.neWA (by rw [← e]; rfl)
  refine ⟨?_, ⟨h.win.blk.far (p := ⟨g, k * 9 + j, none⟩) hnW u, h.win.own.far ⟨g, k * 9 + j, none⟩ ?_ u⟩, ?_, ?_⟩
  · have := h.blk.far (p := ⟨g, k * 9 + j, none⟩) hnB u
    have e : bsA ⟨p.W, p.AW, p.CW, some ⟨g, 0, none⟩, C⟩ { s with l := s.l.set k x' } = bsA ⟨p.W, p.AW, p.CW, some ⟨g, 0, none⟩, C⟩ s := by unfold bsA; simp
    rw [e]; exact this
  · rcases own_ne_own h.own h.win.own (by decide) with h1 | h1
    · cases h1
    · exact h1
  · have := hst (k * 9 + j) u
    rw [flat_set fmC 9 fmC_len s.l k j hj hx hu] at this
    simp only [List.length_set]
    exact this
  · intro y hy
    have hbody : ∀ z ∈ s.l, OwnU8 (w.setCell ⟨g, k * 9 + j, none⟩ u) base z.A z.m.body.length z.C z.m.body := fun z hz => by
      refine ownU8_far (h.body z hz) ⟨g, k * 9 + j, none⟩ ?_ u
      rcases own_ne_own h.own (h.body z hz) (by decide) with h1 | h1
      · cases h1
      · exact h1
    rcases List.mem_or_eq_of_mem_set hy with hy | rfl
    · exact hbody y hy
    · rw [hA, hC, hm]
      exact hbody x (List.mem_of_getElem? hx)
end
theorem land1_cells (x : Fm) : (fmC x).set 8 (.bool false) = fmC (land1 x) := rfl

set_option maxRecDepth 100000 in
set_option maxHeartbeats 1600000 in
theorem land_any {w : World} {base B : Nat} {p : BP} {s : BS} (h : Bs w base B p s) :
    Calls Tryd.prog 49 #[.pointer (some ⟨B, 0, none⟩)] w fun e w' => e = .returned (.tuple #[]) ∧ Bs w' base B p (landS s) ∧ Touch (fun k => blk p.A = some k) w w' := by
  have c6 := h.c6
  have hcap := (row_of_own h.own).len_cap
  have H := Lib.hid h
  clear h
  go_enter Tryd.func49, Tryd.ntmps49
  go_wp2_with fail
  go_loopw [8] (fun iv wr => ∃ k : Nat, k ≤ s.l.length ∧ iv = .int .i64 k ∧ Bs wr base B p { s with l := mapK land1 s.l k } ∧ Touch (fun k => blk p.A = some k) w wr) (fun iv _ => s.l.length - (intOf iv).toNat)
  case atStart => exact ⟨0, Nat.zero_le _, rfl, by rw [mapK_zero]; exact H.out, Touch.refl _ _⟩
  case round =>
    obtain ⟨k, hk, rfl, hW, hT⟩ := hrel
    have HW := Lib.hid hW
    have HT := Lib.hid hT
    clear hW hT c6
    by_cases hkn : k < s.l.length
    · obtain ⟨g, hgA, _, _, _, hcell, hfr, _⟩ := own_open HW.out.own (by simp [mapK_len]; omega)
      have hgA' : p.A = some ⟨g, 0, none⟩ := hgA
      obtain ⟨W0, AW0, CW0, A0, C0⟩ := p
      subst hgA'
      obtain ⟨x, hx⟩ : ∃ x, s.l[k]? = some x := ⟨_, List.getElem?_eq_getElem hkn⟩
      have d6 := HW.out.c6
      simp only [mapK_len] at d6
      have c8 : wr.cell? ⟨g, k * 9 + 8, none⟩ = some (.bool x.fl) := hcell _ _ (flat_get fmC 9 fmC_len _ k 8 (by decide) (mapK_get hx) rfl)
      have f8 := hfr (k * 9 + 8)
      have HN := Lib.hid (Bs.setf (p := ⟨W0, AW0, CW0, some ⟨g, 0, none⟩, C0⟩) (x' := land1 x) HW.out (mapK_get hx) (show 8 < 9 by decide) (land1_cells x) rfl rfl rfl)
      have HTN := Lib.hid (HT.out.trans (touch_set (fun k => blk (some ⟨g, 0, none⟩) = some k) wr g (k * 9 + 8) (.bool false) rfl) (fun _ _ x => x))
      have HS := Lib.hid (mapK_succ (f := land1) hx)
      clear hcell hfr hx hgA
      go_wp2_with fail
      go_roundw
      case rel => exact ⟨k + 1, by omega, by go_num, by rw [← HS.out]; exact HN.out, HTN.out⟩
      case measure => simp [intOf]; omega
    · have hke : k = s.l.length := by omega
      have HF := Lib.hid (show mapK land1 s.l k = s.l.map land1 by rw [hke, mapK_all])
      clear hke
      rw [HF.out] at HW
      go_wp2_with fail
      refine bodyPost_end (results_none rfl _ _ _) rfl ?_
      exact ⟨rfl, HW.out, HT.out⟩
set_option maxHeartbeats 800000 in
theorem lost_no {w : World} {base B : Nat} {p : BP} {s : BS} {E : Nat → Addr} (h : Bs w base B p s) (hE : w.cell? ⟨1, 0, none⟩ = some (errV E 9)) (hs : s.l.any (·.fl) = false) :
    Calls Tryd.prog 26 #[.pointer (some ⟨B, 0, none⟩)] w fun e w' => e = .returned (errV E 9) ∧ Below w.heap.size w w' := by
  have HC := Lib.hid (flies_any h)
  rw [hs] at HC
  have hlt := World.block_lt_of_cell? w _ hE
  have HE := Lib.hid hE
  clear h hE hs
  go_enter Tryd.func26, Tryd.ntmps26
  go_wp2_with fail
  refine HC.out.mono ?_
  rintro e w1 ⟨rfl, hb⟩
  have he : w1.cell? ⟨1, 0, none⟩ = some (.iface 115 (.pointer (some (E 9)))) := (hb.cell (p := ⟨1, 0, none⟩) hlt).trans HE.out
  go_wp2_with fail
  go_ret
  exact ⟨rfl, hb⟩
theorem bsS_map {B k : Nat} {p : BP} {s : BS} {f : Fm → Fm} (hf : ∀ x, (f x).A = x.A) (h : bsS B p { s with l := s.l.map f } k) : bsS B p s k := by
  rcases h with h | h | h | h | ⟨x, hx, h⟩
  · exact .inl h
  · exact .inr (.inl h)
  · exact .inr (.inr (.inl h))
  · exact .inr (.inr (.inr (.inl h)))
  · obtain ⟨y, hy, rfl⟩ := List.mem_map.1 hx
    rw [hf] at h
    exact .inr (.inr (.inr (.inr ⟨y, hy, h⟩)))
set_option maxHeartbeats 800000 in
theorem lost_ok {w : World} {base B : Nat} {p : BP} {s : BS} (h : Bs w base B p s) (hs : s.l.any (·.fl) = true) :
    Calls Tryd.prog 26 #[.pointer (some ⟨B, 0, none⟩)] w fun e w' => e = .returned .nilIface ∧ BStep w w' base B p s (landS s) := by
  have HC := Lib.hid (flies_any h)
  rw [hs] at HC
  have H := Lib.hid h
  clear h hs
  go_enter Tryd.func26, Tryd.ntmps26
  go_wp2_with fail
  refine HC.out.mono ?_
  rintro e w1 ⟨rfl, hb⟩
  have HB := Lib.hid hb
  have HL := Lib.hid (land_any (H.out.below hb (Nat.le_refl _)))
  clear hb
  go_wp2_with fail
  refine HL.out.mono ?_
  rintro e w2 ⟨rfl, h2, t2⟩
  have H2 := Lib.hid h2
  have HT := Lib.hid ((touch_of_below (S := bsS B p s) HB.out (fun k hk _ => hk)).trans t2 (fun _ _ x => .inr (.inr (.inr (.inl x)))))
  clear h2 t2
  go_wp2_with fail
  go_ret
  exact ⟨rfl, p, H2.out, HT.out, fun k hk => .inl (bsS_map (f := land1) (fun _ => rfl) hk)⟩
end Go.Proofs.YthjjneanabnjoaaDoor
