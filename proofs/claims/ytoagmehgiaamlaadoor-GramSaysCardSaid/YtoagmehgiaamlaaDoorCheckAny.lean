/-
  gram.Check whole; muezzinlaw25.first; a frame's own bytes as they are read; what part and whole say of right frames (plain).
-/
import Derived.Test.YtoagmehgiaamlaaDoorCheckOne
import Derived.Test.YtoagmehgiaamlaaDoorCheckMany
import Derived.Test.YtoagmehgiaamlaaDoorRules
namespace Go.Proofs.YtoagmehgiaamlaaDoor
open Go.ChangeShapes Go.WideShapes Go.ChangeAt Go.RowKit
set_option linter.unusedVariables false

theorem check_any {w : World} {E : Nat → Addr} (hE : Errs allErr w E) (m : RulesP) (ag : Bool) (A : Option Addr) (n C : Nat) (b : List UInt8) (h : Row w 1 A n C (b.map u8v)) (hn : n ≤ 1048576) :
    Calls Tryd.prog 11 #[ruv m, .bool ag, .slice A n C] w fun e w' => CheckR w E (checkP m ag b) e w' := by
  have hbl : b.length = n := by simpa using h.1
  cases ag with
  | false =>
    have e : checkP m false b = allR m false n [b] := by unfold checkP; rw [if_neg (by decide), hbl]
    rw [e]
    exact check_one hE m A n C b h hn
  | true =>
    by_cases hs : m.session = true
    · rcases hp : partsP b with c | L
      · have e : checkP m true b = .bare c := by unfold checkP; rw [if_pos rfl, if_neg (by rw [hs]; decide), hp]
        rw [e]
        exact check_parts hE m hs A n C b h hn c hp
      · have e : checkP m true b = allR m true n L := by unfold checkP; rw [if_pos rfl, if_neg (by rw [hs]; decide), hp, hbl]
        rw [e]
        exact check_many hE m hs A n C b h hn L hp
    · have hs' : m.session = false := by simpa using hs
      have e : checkP m true b = .bare 9 := by unfold checkP; rw [if_pos rfl, if_pos hs']
      rw [e]
      exact check_state hE m hs' A n C

def zeroR : RulesP := ⟨fun _ => 0, fun _ => 0, ⟨0, 0, 0, 0, 0⟩, 0, 0, 0, 0, false⟩
theorem zeroR_eq : ruv zeroR = .agg #[.int .u8 0, .int .u8 0, .int .u8 0, .int .u8 0, .int .u8 0, .int .u8 0, .int .u8 0, .int .u8 0, .int .u8 0, .int .u8 0, .int .u8 0, .int .u8 0, .int .i64 0, .int .i64 0, .int .i64 0, .int .i64 0, .int .i64 0, .int .i64 0, .int .i64 0, .int .i64 0, .int .i64 0, .bool false] := rfl
theorem check_empty (m : RulesP) : checkP m false [] = .placed 0 0 := by
  unfold checkP
  rw [if_neg (by decide)]
  unfold allR
  rw [sent_bad (rdErr_short (xs := []) (by decide))]

theorem at_guard (p : Nat) (x : Operand) (v : Value) (w : World) : (eqGuard .neq 42 x (.const v) (atV p) .nilIface).run Tryd.prog w = .ok () w := by rfl
theorem at_guard' (p : Nat) (x : Operand) (v : Value) (w : World) : (eqGuard .eql 42 x (.const v) (atV p) .nilIface).run Tryd.prog w = .ok () w := by rfl
theorem at_nonnil (p : Nat) (w : World) : (binOp .neq 42 (atV p) .nilIface).run Tryd.prog w = .ok (.bool true) w := by
  unfold atV; simp [go_sem]
theorem at_isnil (p : Nat) (w : World) : (binOp .eql 42 (atV p) .nilIface).run Tryd.prog w = .ok (.bool false) w := by
  unfold atV; simp [go_sem]

set_option maxRecDepth 100000 in
set_option maxHeartbeats 800000 in
theorem first_any {w : World} {E : Nat → Addr} (hE : Errs allErr w E) : Calls Tryd.prog 7 #[] w fun e w' => e = .returned (.bool true) ∧ Below w.heap.size w w' := by
  have HC := Lib.hid (fun (w1 : World) (h : Errs allErr w1 E) => check_any h zeroR false none 0 0 [] (row_nil _ _) (by decide))
  rw [check_empty, zeroR_eq] at HC
  go_enter Tryd.func7, Tryd.ntmps7
  go_wp2_with fail
  refine (HC.out _ hE).mono ?_
  rintro e w1 ⟨p, rfl, hk, hp, hb⟩
  have g := at_guard p
  have g' := at_nonnil p
  unfold zsent sentcells
  go_wp2_with fail
  go_ret
  exact ⟨rfl, hb.alloc hb.size _⟩

/-- three addresses of a frame, one behind the other -/
def fA (d s t : Nat → UInt8) (i : Nat) : UInt8 := if i < 6 then d i else if i < 12 then s (i - 6) else t (i - 12)
theorem own_tid {tid : Int} {e : Bool} (h0 : 0 ≤ tid) (h1 : tid < 8) : rdTid (UInt8.ofNat (qtid tid e)) = tid := by
  unfold rdTid
  rw [qhead_end tid e h0 h1]
  cases e <;> simp <;> omega
theorem own_seq {seq : Int} (h0 : 0 ≤ seq) (h1 : seq < 4096) : rdSeq (UInt8.ofNat (seq.toNat * 16 % 256)) (UInt8.ofNat (seq.toNat / 16)) = seq := by
  unfold rdSeq
  rw [UInt8.toNat_ofNat', UInt8.toNat_ofNat']
  omega
theorem own_retry (r m : Bool) : bitAt (UInt8.ofNat (qflags r m)) 3 = r := by cases r <;> cases m <;> decide
theorem own_more (r m : Bool) : bitAt (UInt8.ofNat (qflags r m)) 5 = m := by cases r <;> cases m <;> decide
theorem own_eosp {tid : Int} (e : Bool) (h0 : 0 ≤ tid) (h1 : tid < 8) : bitAt (UInt8.ofNat (qtid tid e)) 4 = e := by
  unfold bitAt
  rw [qhead_end tid e h0 h1, show (2 : Nat) ^ 4 = 16 from rfl]
  cases e
  · have : (tid.toNat + if false = true then 16 else 0) / 16 % 2 = 0 := by simp; omega
    rw [this]; rfl
  · have : (tid.toNat + if true = true then 16 else 0) / 16 % 2 = 1 := by simp; omega
    rw [this]; rfl
theorem own_addr (a : Nat → UInt8) (tid seq : Int) (r m e : Bool) (body : List UInt8) (i : Nat) (hi : i < 18) : rdA (qbytes a tid seq r m e body) i = a i := by
  rcases (show i = 0 ∨ i = 1 ∨ i = 2 ∨ i = 3 ∨ i = 4 ∨ i = 5 ∨ i = 6 ∨ i = 7 ∨ i = 8 ∨ i = 9 ∨ i = 10 ∨ i = 11 ∨ i = 12 ∨ i = 13 ∨ i = 14 ∨ i = 15 ∨ i = 16 ∨ i = 17 by omega) with rfl | rfl | rfl | rfl | rfl | rfl | rfl | rfl | rfl | rfl | rfl | rfl | rfl | rfl | rfl | rfl | rfl | rfl <;> rfl
/-- what a right frame's own bytes are read as -/
theorem uread_own {a : Nat → UInt8} {tid seq : Int} {r m e : Bool} {body : List UInt8} (hok : qok tid seq body.length) :
    rdErr (qbytes a tid seq r m e body) = none ∧ ∃ f, uread (qbytes a tid seq r m e body) = ⟨f, tid, seq, r, m, e, body⟩ ∧ ∀ i, i < 18 → f i = a i := by
  obtain ⟨h0, h1, h2, h3, h4⟩ := hok
  have hn : rdErr (qbytes a tid seq r m e body) = none := by
    unfold qbytes
    rw [rdErr_own a tid seq r m e body h0 h1, if_neg (by omega)]
  refine ⟨hn, rdA (qbytes a tid seq r m e body), ?_, fun i hi => own_addr a tid seq r m e body i hi⟩
  unfold uread
  rw [hn]
  have e24 : (qbytes a tid seq r m e body).getD 24 0 = UInt8.ofNat (qtid tid e) := rfl
  have e22 : (qbytes a tid seq r m e body).getD 22 0 = UInt8.ofNat (seq.toNat * 16 % 256) := rfl
  have e23 : (qbytes a tid seq r m e body).getD 23 0 = UInt8.ofNat (seq.toNat / 16) := rfl
  have e1 : (qbytes a tid seq r m e body).getD 1 0 = UInt8.ofNat (qflags r m) := rfl
  have ed : (qbytes a tid seq r m e body).drop 26 = body := rfl
  simp only
  rw [e24, e22, e23, e1, ed, own_tid h0 h1, own_seq h2 h3, own_retry, own_more, own_eosp e h0 h1]
theorem sameA_of {f g : Nat → UInt8} (h : ∀ i, i < 6 → f i = g i) : sameA f g = true := sameA_iff.2 h
theorem fA_d {d s t f : Nat → UInt8} (h : ∀ i, i < 18 → f i = fA d s t i) : sameA f d = true := sameA_of fun i hi => by rw [h i (by omega), fA, if_pos hi]
theorem fA_s {d s t f : Nat → UInt8} (h : ∀ i, i < 18 → f i = fA d s t i) : sameA (fun i => f (6 + i)) s = true := sameA_of fun i hi => by
  show f (6 + i) = s i
  rw [h _ (by omega), fA, if_neg (by omega), if_pos (by omega), Nat.add_sub_cancel_left]
theorem fA_t {d s t f : Nat → UInt8} (h : ∀ i, i < 18 → f i = fA d s t i) : sameA (fun i => f (12 + i)) t = true := sameA_of fun i hi => by
  show f (12 + i) = t i
  rw [h _ (by omega), fA, if_neg (by omega), if_neg (by omega), Nat.add_sub_cancel_left]
theorem part_good {m : RulesP} {u : URead} {l : Option URead} (h1 : sameA u.a m.dst = true) (h2 : sameA (fun i => u.a (6 + i)) m.bss = true) (h3 : sameA (fun i => u.a (12 + i)) m.bss = true)
    (hin : (u.seq - m.start) % 4096 < m.size) (hl : ∀ x, l = some x → u.tid = x.tid ∧ (x.seq - m.start) % 4096 < (u.seq - m.start) % 4096 ∧ u.m = x.m ∧ u.e = x.e) : partG m u l = none := by
  unfold partG
  rw [if_neg, if_neg, if_neg]
  · rintro ⟨x, hx, h⟩
    obtain ⟨_, _, e1, e2⟩ := hl x hx
    rcases h with h | h
    · exact h e1
    · exact h e2
  · rintro (h | ⟨x, hx, h⟩)
    · exact h hin
    · have := (hl x hx).2.1
      omega
  · rintro (h | h | h | ⟨x, hx, h⟩)
    · rw [h1] at h; cases h
    · rw [h2] at h; cases h
    · rw [h3] at h; cases h
    · exact h (hl x hx).1
theorem part_kind {m : RulesP} {u : URead} {l : Option URead} (h : sameA u.a m.dst = false ∨ sameA (fun i => u.a (6 + i)) m.bss = false) : partG m u l = some 4 := by
  unfold partG
  rw [if_pos]
  rcases h with h | h
  · exact .inl h
  · exact .inr (.inl h)
theorem part_seq {m : RulesP} {u : URead} {l : Option URead} (h1 : sameA u.a m.dst = true) (h2 : sameA (fun i => u.a (6 + i)) m.bss = true) (h3 : sameA (fun i => u.a (12 + i)) m.bss = true) (hl : ∀ x, l = some x → u.tid = x.tid)
    (h : ¬ (u.seq - m.start) % 4096 < m.size) : partG m u l = some 10 := by
  unfold partG
  rw [if_neg, if_pos (.inl h)]
  rintro (h | h | h | ⟨x, hx, h⟩)
  · rw [h1] at h; cases h
  · rw [h2] at h; cases h
  · rw [h3] at h; cases h
  · exact h (hl x hx)
end Go.Proofs.YtoagmehgiaamlaaDoor
