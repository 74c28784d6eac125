/-
  A frame's bytes read and written again (plain).
-/
import Derived.Test.YtidgomffmeplaaaDoorQosReadAny
import Derived.Test.YtidgomffmeplaaaDoorSameQos
namespace Go.Proofs.YtidgomffmeplaaaDoor
open Go.ChangeShapes Go.WideShapes Go.ChangeAt Go.RowKit
set_option linter.unusedVariables false

theorem flags_back (x1 : UInt8) (h : (x1 == 2 || x1 == 10 || x1 == 34 || x1 == 42) = true) : UInt8.ofNat (qflags (bitAt x1 3) (bitAt x1 5)) = x1 := by
  simp only [Bool.or_eq_true, beq_iff_eq] at h
  rcases h with ((rfl | rfl) | rfl) | rfl <;> decide
theorem u8_eq {n : Nat} {x : UInt8} (h : n = x.toNat) : UInt8.ofNat n = x := by rw [h]; exact UInt8.ofNat_toNat
theorem seq_back1 (x22 x23 : UInt8) (h : x22.toNat % 16 = 0) : UInt8.ofNat ((rdSeq x22 x23).toNat * 16 % 256) = x22 := by
  have h1 := UInt8.toNat_lt x22
  have h2 := UInt8.toNat_lt x23
  refine u8_eq ?_
  unfold rdSeq
  rw [Int.toNat_natCast]
  omega
theorem seq_back2 (x22 x23 : UInt8) (h : x22.toNat % 16 = 0) : UInt8.ofNat ((rdSeq x22 x23).toNat / 16) = x23 := by
  have h1 := UInt8.toNat_lt x22
  have h2 := UInt8.toNat_lt x23
  refine u8_eq ?_
  unfold rdSeq
  rw [Int.toNat_natCast]
  omega
theorem bit4 (x : UInt8) (h : x.toNat < 8 ∨ (16 ≤ x.toNat ∧ x.toNat < 24)) : bitAt x 4 = decide (16 ≤ x.toNat) := by
  unfold bitAt
  rcases h with h | ⟨h1, h2⟩
  · have e : x.toNat / 2 ^ 4 % 2 = 0 := by rw [show (2 : Nat) ^ 4 = 16 from rfl]; omega
    rw [e]; simp; omega
  · have e : x.toNat / 2 ^ 4 % 2 = 1 := by rw [show (2 : Nat) ^ 4 = 16 from rfl]; omega
    rw [e]; simp; omega
theorem tid_back (x : UInt8) (h : x.toNat < 8 ∨ (16 ≤ x.toNat ∧ x.toNat < 24)) : UInt8.ofNat (qtid (rdTid x) (bitAt x 4)) = x := by
  refine u8_eq ?_
  rw [bit4 x h]
  unfold qtid rdTid
  rw [Int.toNat_natCast]
  rcases h with h | ⟨h1, h2⟩
  · rw [if_neg (by simp; omega)]; omega
  · rw [if_pos (by simp; omega)]; omega
theorem shape_parts {x1 x2 x3 x22 x24 x25 : UInt8} (h : shapeOk x1 x2 x3 x22 x24 x25 = true) : (x1 == 2 || x1 == 10 || x1 == 34 || x1 == 42) = true ∧ x2 = 0 ∧ x3 = 0 ∧ x25 = 0 ∧ x22.toNat % 16 = 0 ∧ (x24.toNat < 8 ∨ (16 ≤ x24.toNat ∧ x24.toNat < 24)) := by
  unfold shapeOk at h
  simp only [Bool.and_eq_true, beq_iff_eq] at h
  obtain ⟨⟨⟨⟨⟨h1, h2⟩, h3⟩, h4⟩, h5⟩, h6⟩ := h
  exact ⟨h1, h2, h3, h4, h5, by simpa using h6⟩

theorem rdErr_parts {xs : List UInt8} (h : rdErr xs = none) : 26 ≤ xs.length ∧ xs.getD 0 0 = 0x88 ∧ shapeOk (xs.getD 1 0) (xs.getD 2 0) (xs.getD 3 0) (xs.getD 22 0) (xs.getD 24 0) (xs.getD 25 0) = true ∧ xs.length ≤ 1526 := by
  unfold rdErr at h
  split at h
  · cases h
  · split at h
    · cases h
    · split at h
      · cases h
      · split at h
        · cases h
        · rename_i h1 h2 h3 h4
          exact ⟨by omega, by simpa using h2, by simpa using h3, by omega⟩

theorem read_back (xs : List UInt8) (h : rdErr xs = none) :
    qbytes (rdA xs) (rdTid (xs.getD 24 0)) (rdSeq (xs.getD 22 0) (xs.getD 23 0)) (bitAt (xs.getD 1 0) 3) (bitAt (xs.getD 1 0) 5) (bitAt (xs.getD 24 0) 4) (xs.drop 26) = xs := by
  obtain ⟨hl, h0, hs, _⟩ := rdErr_parts h
  clear h
  obtain ⟨hd, rest, rfl, hhd⟩ : ∃ hd rest : List UInt8, xs = hd ++ rest ∧ hd.length = 26 := ⟨xs.take 26, xs.drop 26, (List.take_append_drop ..).symm, by simp; omega⟩
  clear hl
  match hd, hhd with
  | [x0, x1, x2, x3, x4, x5, x6, x7, x8, x9, x10, x11, x12, x13, x14, x15, x16, x17, x18, x19, x20, x21, x22, x23, x24, x25], _ =>
    have e0 : x0 = 0x88 := h0
    have hs : shapeOk x1 x2 x3 x22 x24 x25 = true := hs
    obtain ⟨h1, e2, e3, e25, h22, h24⟩ := shape_parts hs
    have f1 := flags_back x1 h1
    have f22 := seq_back1 x22 x23 h22
    have f23 := seq_back2 x22 x23 h22
    have f24 := tid_back x24 h24
    show [0x88, UInt8.ofNat (qflags (bitAt x1 3) (bitAt x1 5)), 0, 0, x4, x5, x6, x7, x8, x9, x10, x11, x12, x13, x14, x15, x16, x17, x18, x19, x20, x21, UInt8.ofNat ((rdSeq x22 x23).toNat * 16 % 256), UInt8.ofNat ((rdSeq x22 x23).toNat / 16), UInt8.ofNat (qtid (rdTid x24) (bitAt x24 4)), 0] ++ rest = _
    rw [f1, f22, f23, f24, e0, e2, e3, e25]

theorem read_ok (xs : List UInt8) (h : rdErr xs = none) : qok (rdTid (xs.getD 24 0)) (rdSeq (xs.getD 22 0) (xs.getD 23 0)) (xs.drop 26).length := by
  obtain ⟨hl, h0, hs, hm⟩ := rdErr_parts h
  obtain ⟨_, _, _, _, h22, h24⟩ := shape_parts hs
  have b1 := UInt8.toNat_lt (xs.getD 22 0)
  have b2 := UInt8.toNat_lt (xs.getD 23 0)
  unfold qok rdTid rdSeq
  rw [List.length_drop]
  refine ⟨by omega, by omega, by omega, by omega, by omega⟩

theorem own_tid {tid : Int} {e : Bool} (h0 : 0 ≤ tid) (h1 : tid < 8) : rdTid (UInt8.ofNat (qtid tid e)) = tid := by
  unfold rdTid
  rw [qhead_end tid e h0 h1]
  cases e <;> simp <;> omega
theorem own_seq {seq : Int} (h0 : 0 ≤ seq) (h1 : seq < 4096) : rdSeq (UInt8.ofNat (seq.toNat * 16 % 256)) (UInt8.ofNat (seq.toNat / 16)) = seq := by
  unfold rdSeq
  rw [UInt8.toNat_ofNat', UInt8.toNat_ofNat']
  omega
theorem own_retry (r m : Bool) : bitAt (UInt8.ofNat (qflags r m)) 3 = r := by cases r <;> cases m <;> decide
theorem own_more (r m : Bool) : bitAt (UInt8.ofNat (qflags r m)) 5 = m := by cases r <;> cases m <;> decide
theorem own_eosp {tid : Int} (e : Bool) (h0 : 0 ≤ tid) (h1 : tid < 8) : bitAt (UInt8.ofNat (qtid tid e)) 4 = e := by
  unfold bitAt
  rw [qhead_end tid e h0 h1, show (2 : Nat) ^ 4 = 16 from rfl]
  cases e
  · have : (tid.toNat + if false = true then 16 else 0) / 16 % 2 = 0 := by simp; omega
    rw [this]; rfl
  · have : (tid.toNat + if true = true then 16 else 0) / 16 % 2 = 1 := by simp; omega
    rw [this]; rfl
theorem own_addr (a : Nat → UInt8) (tid seq : Int) (r m e : Bool) (body : List UInt8) (i : Nat) (hi : i < 18) : rdA (qbytes a tid seq r m e body) i = a i := by
  rcases (show i = 0 ∨ i = 1 ∨ i = 2 ∨ i = 3 ∨ i = 4 ∨ i = 5 ∨ i = 6 ∨ i = 7 ∨ i = 8 ∨ i = 9 ∨ i = 10 ∨ i = 11 ∨ i = 12 ∨ i = 13 ∨ i = 14 ∨ i = 15 ∨ i = 16 ∨ i = 17 by omega) with rfl | rfl | rfl | rfl | rfl | rfl | rfl | rfl | rfl | rfl | rfl | rfl | rfl | rfl | rfl | rfl | rfl | rfl <;> rfl

theorem sameB_refl (xs : List UInt8) : sameB xs xs = true := by unfold sameB; simp
theorem sameQ_refl' {a a' : Nat → UInt8} (h : ∀ i, i < 18 → a i = a' i) (tid seq : Int) (r m e : Bool) (body : List UInt8) : sameQ a tid seq r m e body a' tid seq r m e body = true := by
  unfold sameQ
  rw [sameA_iff.2 fun i hi => h i (by omega), sameA_iff.2 fun i hi => h (6 + i) (by omega), sameA_iff.2 fun i hi => h (12 + i) (by omega), sameB_refl]
  simp
theorem sameQ_bytes {a a' : Nat → UInt8} {tid tid' seq seq' : Int} {r r' m m' e e' : Bool} {body body' : List UInt8} (h : sameQ a tid seq r m e body a' tid' seq' r' m' e' body' = true) :
    qbytes a tid seq r m e body = qbytes a' tid' seq' r' m' e' body' := by
  unfold sameQ at h
  simp only [Bool.and_eq_true, beq_iff_eq] at h
  obtain ⟨h1, h2, h3, rfl, rfl, rfl, rfl, rfl, h4⟩ := h
  have g1 := sameA_iff.1 h1
  have g2 := sameA_iff.1 h2
  have g3 := sameA_iff.1 h3
  have hb : body = body' := by unfold sameB at h4; simpa using h4
  have ha : addrs a = addrs a' := by
    unfold addrs
    rw [g1 0 (by omega), g1 1 (by omega), g1 2 (by omega), g1 3 (by omega), g1 4 (by omega), g1 5 (by omega),
      show a 6 = a' 6 from g2 0 (by omega), show a 7 = a' 7 from g2 1 (by omega), show a 8 = a' 8 from g2 2 (by omega), show a 9 = a' 9 from g2 3 (by omega), show a 10 = a' 10 from g2 4 (by omega), show a 11 = a' 11 from g2 5 (by omega),
      show a 12 = a' 12 from g3 0 (by omega), show a 13 = a' 13 from g3 1 (by omega), show a 14 = a' 14 from g3 2 (by omega), show a 15 = a' 15 from g3 3 (by omega), show a 16 = a' 16 from g3 4 (by omega), show a 17 = a' 17 from g3 5 (by omega)]
  unfold qbytes qhead
  rw [ha, hb]
/-- what a frame's own bytes are read as -/
theorem read_same {a : Nat → UInt8} {tid seq : Int} {r m e : Bool} {body : List UInt8} (hok : qok tid seq body.length) {a' : Nat → UInt8} {tid' seq' : Int} {r' m' e' : Bool} {body' : List UInt8}
    (hq : QRead (qbytes a tid seq r m e body) a' tid' seq' r' m' e' body') : rdErr (qbytes a tid seq r m e body) = none ∧ sameQ a' tid' seq' r' m' e' body' a tid seq r m e body = true := by
  obtain ⟨h0, h1, h2, h3, h4⟩ := hok
  have hn : rdErr (qbytes a tid seq r m e body) = none := by
    unfold qbytes
    rw [rdErr_own a tid seq r m e body h0 h1, if_neg (by omega)]
  obtain ⟨g1, g2, g3, g4, g5, g6, g7⟩ := hq hn
  refine ⟨hn, ?_⟩
  rw [g1, g2, g3, g4, g5, g6, g7]
  have e24 : (qbytes a tid seq r m e body).getD 24 0 = UInt8.ofNat (qtid tid e) := rfl
  have e22 : (qbytes a tid seq r m e body).getD 22 0 = UInt8.ofNat (seq.toNat * 16 % 256) := rfl
  have e23 : (qbytes a tid seq r m e body).getD 23 0 = UInt8.ofNat (seq.toNat / 16) := rfl
  have e1 : (qbytes a tid seq r m e body).getD 1 0 = UInt8.ofNat (qflags r m) := rfl
  have ed : (qbytes a tid seq r m e body).drop 26 = body := rfl
  rw [e24, e22, e23, e1, ed, own_tid h0 h1, own_seq h2 h3, own_retry, own_more, own_eosp e h0 h1]
  exact sameQ_refl' (fun i hi => own_addr a tid seq r m e body i hi) _ _ _ _ _ _

theorem flip_retry (a : Nat → UInt8) (tid seq : Int) (r m e : Bool) (body : List UInt8) : (qbytes a tid seq r m e body).set 1 (UInt8.ofNat (qflags r m) ^^^ 8) = qbytes a tid seq (!r) m e body := by
  have : UInt8.ofNat (qflags r m) ^^^ 8 = UInt8.ofNat (qflags (!r) m) := by cases r <;> cases m <;> decide
  rw [this]; rfl
theorem flip_more (a : Nat → UInt8) (tid seq : Int) (r m e : Bool) (body : List UInt8) : (qbytes a tid seq r m e body).set 1 (UInt8.ofNat (qflags r m) ^^^ 32) = qbytes a tid seq r (!m) e body := by
  have : UInt8.ofNat (qflags r m) ^^^ 32 = UInt8.ofNat (qflags r (!m)) := by cases r <;> cases m <;> decide
  rw [this]; rfl
theorem flip_eosp (a : Nat → UInt8) (tid seq : Int) (r m e : Bool) (body : List UInt8) (h0 : 0 ≤ tid) (h1 : tid < 8) : (qbytes a tid seq r m e body).set 24 (UInt8.ofNat (qtid tid e) ^^^ 16) = qbytes a tid seq r m (!e) body := by
  have : UInt8.ofNat (qtid tid e) ^^^ 16 = UInt8.ofNat (qtid tid (!e)) := by
    have h : ∀ n : Fin 8, ∀ e : Bool, UInt8.ofNat (n.val + (if e = true then 16 else 0)) ^^^ 16 = UInt8.ofNat (n.val + (if (!e) = true then 16 else 0)) := by decide
    exact h ⟨tid.toNat, by omega⟩ e
  rw [this]; rfl
end Go.Proofs.YtidgomffmeplaaaDoor
