/-
  A slice of slices of bytes that came as an argument: from its reading to its cells.
-/
import Derived.Test.YtplcdjdmkmdddaaDoorParts
import Derived.OpenShut
import Derived.Deep.Matrix
namespace Go.Proofs.YtplcdjdmkmdddaaDoor
open Go.ChangeShapes Go.WideShapes Go.ChangeAt Go.RowKit
set_option linter.unusedVariables false

theorem open_parts {H : Type} {enc : TypeId × Value → H} {W : World} {base : Nat} {held : Bool} {v : Value} {d : DataW H} {p : List MemPlace} (hok : Value.okWide Tryd.prog W .any base 24 v)
    (h : DataW.Trod enc Tryd.prog W 0 (fun _ => true) held 24 v d p) : ∃ a n C L, v = .slice a n C ∧ RowP W a n C L := by
  obtain ⟨a, n, C, rfl⟩ := okWide_slice Tryd.underlying24 hok
  refine ⟨a, n, C, ?_⟩
  obtain ⟨fuel, hf⟩ := h
  rcases Go.Deep.open_int_rows Tryd.underlying24 Tryd.underlying25 Tryd.underlying5 (by kernel_rfl) (by kernel_rfl) hf with ⟨hcs, _⟩ | ⟨x, len, cap, A, L, Cc, Z, hcs, _, hl, hm, _, hrow⟩
  · simp [Value.cells] at hcs
    obtain ⟨rfl, rfl, rfl⟩ := hcs
    exact ⟨[], rfl, rfl, [], row_nil _ _, fun i u x hu _ => by simp at hu⟩
  · simp [Value.cells] at hcs
    obtain ⟨rfl, rfl, rfl⟩ := hcs
    have hcell : ∀ r, r < C → W.cell? (x.add r) = some (.slice (A r) (L r) (Cc r)) := fun r hr => (hrow r hr).1
    refine ⟨(List.range n).map fun (r : Nat) => ((Z r).take (L r)).map fun n => UInt8.ofNat n.toNat, rfl, by simp, (List.range n).map fun (r : Nat) => .slice (A r) (L r) (Cc r), ⟨by simp, hl, hm, fun h => by simp at h, fun hp => ?_⟩, fun i u y hu hy => ?_⟩
    · obtain ⟨b, off, spot⟩ := x
      have hc0 := hcell 0 (by omega)
      have hspot : spot = none := by simpa [Addr.add] using World.cell?_spot hc0
      subst hspot
      refine ⟨b, off, rfl, World.block_lt_of_cell? W _ hc0, fun i u hu => ?_⟩
      have hi : i < n := by have := (List.getElem?_eq_some_iff.1 hu).1; simpa using this
      have hc := hcell i (by omega)
      rw [add_at] at hc
      rw [hc]
      simp [hi] at hu
      rw [← hu]
    · have hi : i < n := by have := (List.getElem?_eq_some_iff.1 hu).1; simpa using this
      rw [List.getElem?_map, List.getElem?_range hi, Option.map_some] at hu hy
      injection hu with hu
      injection hy with hy
      obtain ⟨_, r1, r2, r3, r4, r5, r6⟩ := hrow i (by omega)
      have hlen : y.length = L i := by rw [← hy, List.length_map, List.length_take]; omega
      refine ⟨A i, Cc i, by rw [hlen, ← hu], ?_⟩
      rw [hlen, ← hy, ← bytes_of (fun n hn => r4 n (List.mem_of_mem_take hn))]
      rcases hA : A i with _ | a'
      · have hC := r5 hA
        have hL0 : L i = 0 := by omega
        rw [hC, hL0]
        simp only [List.take_zero, List.map_nil]
        exact row_nil _ _
      · exact row_of_ints r1 r2 r3 (fun c hc => (r6 a' hA).2 c (by omega))
end Go.Proofs.YtplcdjdmkmdddaaDoor
