/- Inz: In9, InB, InC, InF, InG in one text. -/
import Derived.Test.YtchebkpcgglllaaGreatIny
import Derived.Test.YtchebkpcgglllaaGreatNux
namespace Go.Proofs.YtchebkpcgglllaaGreat.Cu
open Go Go.SX Go.Proofs.YtchebkpcgglllaaGreat.VT
set_option maxRecDepth 100000
set_option linter.unusedVariables false
set_option linter.unusedSimpArgs false

end Go.Proofs.YtchebkpcgglllaaGreat.Cu

namespace Go.Proofs.YtchebkpcgglllaaGreat.Cu
open Go Go.SX Go.Proofs.YtchebkpcgglllaaGreat.VT
set_option maxRecDepth 100000
set_option linter.unusedVariables false
set_option linter.unusedSimpArgs false

variable {sh : Int → Prop}
theorem Cod.optN (h1 : sh 1) (hnz : ∀ e, sh e → e ≠ 0) (u : Bool) (bound why : Int) (hb : bound ≤ 9223372036854775808) (hw : why ≠ 0) :
    Cod sh (Cu.optN u bound why) (fun x => if u then pU x else []) (fun x => if u = true then 0 ≤ x ∧ x < bound else x = 0) := by
  cases u
  · exact (Cod.none hnz 0).congr (fun p => rfl) (fun x h => rfl) (fun x => by simp)
  · exact (Cod.num h1 hnz bound why hb hw).congr (fun p => rfl) (fun x h => by simp) (fun x => by simp)
theorem Cod.optI (h1 : sh 1) (hnz : ∀ e, sh e → e ≠ 0) (u : Bool) :
    Cod sh (Cu.optI u) (fun x => if u then putB (zig x).toNat else []) (fun x => if u = true then in64 x else x = 0) := by
  cases u
  · exact (Cod.none hnz 0).congr (fun p => rfl) (fun x h => rfl) (fun x => by simp)
  · exact (Cod.int h1 hnz).congr (fun p => rfl) (fun x h => by simp) (fun x => by simp [in64])
theorem optN_st {u : Bool} {bound why : Int} {p : Ps} (h : p.2 ≠ 0) : (Cu.optN u bound why p).2.2 = p.2 := by
  cases u
  · rfl
  · unfold Cu.optN sNum
    dsimp only
    rw [sUint_err h]
    split
    · rw [sFail_erI h]
    · rfl
theorem optI_st {u : Bool} {p : Ps} (h : p.2 ≠ 0) : (Cu.optI u p).2.2 = p.2 := by
  cases u
  · rfl
  · unfold Cu.optI; dsimp only; rw [sInt_err h]
theorem Cod.flds (h1 : sh 1) (hnz : ∀ e, sh e → e ≠ 0) (op regs : Int) (hb : regs ≤ 9223372036854775808) :
    Cod sh (sFlds op regs) (fun x => fieldsB (decide (uD op)) (decide (uA op)) (decide (uB op)) (decide (op = 1)) x.1 x.2.1 x.2.2.1 x.2.2.2)
      (fun x => (if decide (uD op) = true then 0 ≤ x.1 ∧ x.1 < regs else x.1 = 0) ∧ (if decide (uA op) = true then 0 ≤ x.2.1 ∧ x.2.1 < regs else x.2.1 = 0) ∧ (if decide (uB op) = true then 0 ≤ x.2.2.1 ∧ x.2.2.1 < regs else x.2.2.1 = 0) ∧ (if decide (op = 1) = true then in64 x.2.2.2 else x.2.2.2 = 0)) := by
  have hI := Cod.optI h1 hnz (decide (op = 1))
  have hB := (Cod.optN h1 hnz (decide (uB op)) regs 9 hb (by decide)).seq (fun _ _ => hI) (fun _ _ h => optI_st h)
  have hA := (Cod.optN h1 hnz (decide (uA op)) regs 9 hb (by decide)).seq (fun _ _ => hB) (fun _ p h => hB.st p h)
  have hD := (Cod.optN h1 hnz (decide (uD op)) regs 9 hb (by decide)).seq (fun _ _ => hA) (fun _ p h => hA.st p h)
  exact hD.congr (fun p => rfl) (fun x _ => by simp [fieldsB]) (fun x => Iff.rfl)
theorem sFlds_st {op regs : Int} {p : Ps} (h : p.2 ≠ 0) : (sFlds op regs p).2.2 = p.2 := by
  unfold sFlds
  dsimp only
  have e1 := optN_st (u := decide (uD op)) (bound := regs) (why := 9) h
  have e2 := optN_st (u := decide (uA op)) (bound := regs) (why := 9) (p := (Cu.optN (decide (uD op)) regs 9 p).2) (by rw [e1]; exact h)
  have e3 := optN_st (u := decide (uB op)) (bound := regs) (why := 9) (p := (Cu.optN (decide (uA op)) regs 9 (Cu.optN (decide (uD op)) regs 9 p).2).2) (by rw [e2, e1]; exact h)
  rw [optI_st (by rw [e3, e2, e1]; exact h), e3, e2, e1]
theorem Cod.first (h1 : sh 1) (hnz : ∀ e, sh e → e ≠ 0) (good : Int → Bool) (why : Int) (hw : why ≠ 0) : Cod sh (sFirst good why) (fun x => [x]) (fun x => (0 ≤ x ∧ x ≤ 255) ∧ good x = true) := by
  refine (Cod.byte h1 hnz).chk _ (fun x => good x = true) ?_ ?_ ?_
  · intro p hp
    unfold sFirst
    dsimp only
    split
    · rfl
    · rw [sFail_erI hp]
  · intro p hp hg
    unfold sFirst
    rw [if_pos hg]
  · intro p hp hg
    unfold sFirst
    rw [if_neg hg]
    exact sFail_ne hw
/-- A source instruction that may be written. -/
def okIns (regs : Int) (i : Ins) : Prop := (known i.op ∧ i.op ≠ 18) ∧ (if uD i.op then 0 ≤ i.d ∧ i.d < regs else i.d = 0) ∧ (if uA i.op then 0 ≤ i.a ∧ i.a < regs else i.a = 0) ∧ (if uB i.op then 0 ≤ i.b ∧ i.b < regs else i.b = 0) ∧ (if i.op = 1 then in64 i.imm else i.imm = 0)
theorem Cod.ins (h1 : sh 1) (hnz : ∀ e, sh e → e ≠ 0) (regs : Int) (hb : regs ≤ 9223372036854775808) : Cod sh (sIns regs) putInsB (okIns regs) := by
  have hF := (Cod.first h1 hnz srcOp 8 (by decide)).seq (fun op _ => Cod.flds h1 hnz op regs hb) (fun _ _ h => sFlds_st h)
  refine hF.map _ _ _ (fun x => ⟨x.1, x.2.1, x.2.2.1, x.2.2.2.1, x.2.2.2.2⟩) (fun i => (i.op, i.d, i.a, i.b, i.imm)) ?_ ?_ ?_
  · intro p
    refine ⟨rfl, fun h => ?_⟩
    unfold sIns
    dsimp only at h ⊢
    rw [if_pos h]
  · intro y h
    obtain ⟨h0, h⟩ := h
    have h18 := h0.2
    have hk := h0.1
    unfold known at hk
    refine ⟨⟨⟨by omega, decide_eq_true h0⟩, ?_⟩, rfl, ?_⟩
    · simpa only [decide_eq_true_eq] using h
    · unfold putInsB
      rw [IntKind.wrap_u8, Int.emod_eq_of_lt (by omega) (by omega)]
      rfl
  · intro x h
    obtain ⟨⟨h0, h00⟩, h⟩ := h
    refine ⟨⟨of_decide_eq_true h00, ?_⟩, ?_⟩
    · simpa only [decide_eq_true_eq] using h
    · have hw : IntKind.u8.wrap x.1 = x.1 := by rw [IntKind.wrap_u8]; omega
      unfold putInsB
      dsimp only
      rw [hw]
      rfl
/-! ### terminators -/
def okTrm (regs blocks : Int) (t : Trm) : Prop := (1 ≤ t.kind ∧ t.kind ≤ 3) ∧ (if t.kind ≠ 1 then 0 ≤ t.a ∧ t.a < regs else t.a = 0) ∧ (if t.kind ≠ 3 then 0 ≤ t.to_ ∧ t.to_ < blocks else t.to_ = 0) ∧ (if t.kind = 2 then 0 ≤ t.els ∧ t.els < blocks else t.els = 0)
theorem Cod.tf (h1 : sh 1) (hnz : ∀ e, sh e → e ≠ 0) (k regs blocks : Int) (hr : regs ≤ 9223372036854775808) (hb : blocks ≤ 9223372036854775808) :
    Cod sh (sTf k regs blocks) (fun x => (if k ≠ 1 then pU x.1 else []) ++ (if k ≠ 3 then pU x.2.1 else []) ++ (if k = 2 then pU x.2.2 else []))
      (fun x => (if k ≠ 1 then 0 ≤ x.1 ∧ x.1 < regs else x.1 = 0) ∧ (if k ≠ 3 then 0 ≤ x.2.1 ∧ x.2.1 < blocks else x.2.1 = 0) ∧ (if k = 2 then 0 ≤ x.2.2 ∧ x.2.2 < blocks else x.2.2 = 0)) := by
  have hE := Cod.optN h1 hnz (decide (k = 2)) blocks 11 hb (by decide)
  have hT := (Cod.optN h1 hnz (decide (k ≠ 3)) blocks 11 hb (by decide)).seq (fun _ _ => hE) (fun _ p h => hE.st p h)
  have hA := (Cod.optN h1 hnz (decide (k ≠ 1)) regs 9 hr (by decide)).seq (fun _ _ => hT) (fun _ p h => hT.st p h)
  exact hA.congr (fun p => rfl) (fun x _ => by simp) (fun x => by simp)
theorem sTf_st {k regs blocks : Int} {p : Ps} (h : p.2 ≠ 0) : (sTf k regs blocks p).2.2 = p.2 := by
  unfold sTf
  dsimp only
  have e1 := optN_st (u := decide (k ≠ 1)) (bound := regs) (why := 9) h
  have e2 := optN_st (u := decide (k ≠ 3)) (bound := blocks) (why := 11) (p := (Cu.optN (decide (k ≠ 1)) regs 9 p).2) (by rw [e1]; exact h)
  rw [optN_st (by rw [e2, e1]; exact h), e2, e1]
theorem Cod.trm (h1 : sh 1) (hnz : ∀ e, sh e → e ≠ 0) (regs blocks : Int) (hr : regs ≤ 9223372036854775808) (hb : blocks ≤ 9223372036854775808) : Cod sh (sTrm regs blocks) putTrmB (okTrm regs blocks) := by
  have hF := (Cod.first h1 hnz trmKind 16 (by decide)).seq (fun k _ => Cod.tf h1 hnz k regs blocks hr hb) (fun _ _ h => sTf_st h)
  refine hF.map _ _ _ (fun x => ⟨x.1, x.2.1, x.2.2.1, x.2.2.2⟩) (fun t => (t.kind, t.a, t.to_, t.els)) ?_ ?_ ?_
  · intro p
    refine ⟨rfl, fun h => ?_⟩
    unfold sTrm
    dsimp only at h ⊢
    rw [if_pos h]
  · intro y h
    obtain ⟨h0, h⟩ := h
    refine ⟨⟨⟨by omega, decide_eq_true h0⟩, h⟩, rfl, ?_⟩
    unfold putTrmB
    rw [IntKind.wrap_u8, Int.emod_eq_of_lt (by omega) (by omega)]
    rfl
  · intro x h
    obtain ⟨⟨h0, h00⟩, h⟩ := h
    refine ⟨⟨of_decide_eq_true h00, h⟩, ?_⟩
    have hw : IntKind.u8.wrap x.1 = x.1 := by rw [IntKind.wrap_u8]; omega
    unfold putTrmB
    dsimp only
    rw [hw]
    rfl
/-! ### instructions of machines -/
def okLoc (regs slots l : Int) : Prop := inRange l regs slots ∧ l ≤ 4611686018427387904
theorem Cod.place (h1 : sh 1) (hnz : ∀ e, sh e → e ≠ 0) (regs slots : Int) : Cod sh (sPlace regs slots) pU (okLoc regs slots) := by
  have hp : ∀ x : Int, okLoc regs slots x → pU x = putB x.toNat := fun x h => by have := h.1.1; have := h.2; unfold pU; rw [u64_in (by omega) (by omega)]
  have hg : ∀ u : Int, 0 ≤ u → (¬ (4611686018427387904 < u ∨ ¬ inRange (IntKind.i64.wrap u) regs slots)) → okLoc regs slots u ∧ IntKind.i64.wrap u = u := by
    intro u h0 h
    have h2 : ¬ 4611686018427387904 < u := fun h3 => h (.inl h3)
    have h3 : inRange (IntKind.i64.wrap u) regs slots := Classical.byContradiction fun h4 => h (.inr h4)
    have hw : IntKind.i64.wrap u = u := i64_in (by omega) (by omega)
    rw [hw] at h3
    exact ⟨⟨h3, by omega⟩, hw⟩
  have hg2 : ∀ u : Int, okLoc regs slots u → (¬ (4611686018427387904 < u ∨ ¬ inRange (IntKind.i64.wrap u) regs slots)) ∧ IntKind.i64.wrap u = u := by
    intro u h
    have h0 := h.1.1
    have h2 := h.2
    have hw : IntKind.i64.wrap u = u := i64_in (by omega) (by omega)
    refine ⟨?_, hw⟩
    rintro (h3 | h3)
    · omega
    · rw [hw] at h3; exact h3 h.1
  refine ((Cod.uint h1 hnz maxU).chk (fun p => ((sUint maxU p).1, if (sUint maxU p).2.2 = 0 ∧ (4611686018427387904 < (sUint maxU p).1 ∨ ¬ inRange (IntKind.i64.wrap (sUint maxU p).1) regs slots) then sFail 10 (sUint maxU p).2 else (sUint maxU p).2)) (fun u => ¬ (4611686018427387904 < u ∨ ¬ inRange (IntKind.i64.wrap u) regs slots)) ?_ ?_ ?_).map _ _ _ IntKind.i64.wrap id ?_ ?_ ?_
  · intro p hp
    try dsimp only
    rw [if_neg (by rintro ⟨h, _⟩; exact hp h)]
  · intro p hp hg
    try dsimp only
    rw [if_neg (by rintro ⟨_, h⟩; exact hg h)]
  · intro p hp hg
    try dsimp only
    rw [if_pos ⟨hp, Classical.byContradiction hg⟩]
    exact sFail_ne (by decide)
  · intro p
    exact ⟨rfl, fun _ => rfl⟩
  · intro y h
    have h0 := h.1.1
    have h2 := h.2
    exact ⟨⟨⟨h0, by simp only [id]; omega, by simp only [id]; unfold maxU; omega⟩, (hg2 y h).1⟩, (hg2 y h).2, hp y h⟩
  · intro x h
    obtain ⟨a, b⟩ := hg x h.1.1 h.2
    rw [b]
    exact ⟨a, hp x a⟩
theorem sPlace_st {regs slots : Int} {p : Ps} (h : p.2 ≠ 0) : (sPlace regs slots p).2.2 = p.2 := (Cod.place (sh := fun e => e ≠ 0) (by decide) (fun _ h => h) regs slots).st p h
theorem Cod.move (h1 : sh 1) (hnz : ∀ e, sh e → e ≠ 0) (regs slots : Int) :
    Cod sh (sMove regs slots) (fun x => pU x.1 ++ pU x.2) (fun x => (okLoc regs slots x.1 ∧ okLoc regs slots x.2) ∧ ¬ (isSlot x.1 ∧ isSlot x.2)) := by
  have hS := (Cod.place h1 hnz regs slots).seq (fun _ _ => Cod.place h1 hnz regs slots) (fun _ p h => sPlace_st h)
  refine hS.chk _ (fun x => ¬ (isSlot x.1 ∧ isSlot x.2)) ?_ ?_ ?_
  · intro p hp
    unfold sMove
    dsimp only at hp ⊢
    split
    · rw [sFail_erI hp]
    · rfl
  · intro p hp hg
    unfold sMove
    dsimp only at hp hg ⊢
    rw [if_neg hg]
  · intro p hp hg
    unfold sMove
    dsimp only at hp hg ⊢
    rw [if_pos (Classical.byContradiction hg)]
    exact sFail_ne (by decide)
/-- An instruction of a machine that may be written. -/
def okMac (regs slots : Int) (i : Mac) : Prop := (known i.op ∧ i.op ≠ 2) ∧
  (if i.op = 18 then (i.d = 0 ∧ i.a = 0 ∧ i.b = 0 ∧ i.imm = 0) ∧ (okLoc regs slots i.dst ∧ okLoc regs slots i.src) ∧ ¬ (isSlot i.dst ∧ isSlot i.src)
   else (i.dst = 0 ∧ i.src = 0) ∧ (if uD i.op then 0 ≤ i.d ∧ i.d < regs else i.d = 0) ∧ (if uA i.op then 0 ≤ i.a ∧ i.a < regs else i.a = 0) ∧ (if uB i.op then 0 ≤ i.b ∧ i.b < regs else i.b = 0) ∧ (if i.op = 1 then in64 i.imm else i.imm = 0))
/-- What follows the opcode. -/
def sTail (op regs slots : Int) (p : Ps) : ((Int × Int × Int × Int) × Int × Int) × Ps :=
  if op = 18 then (((0, 0, 0, 0), (sMove regs slots p).1), (sMove regs slots p).2) else (((sFlds op regs p).1, 0, 0), (sFlds op regs p).2)
theorem Cod.tail (h1 : sh 1) (hnz : ∀ e, sh e → e ≠ 0) (op regs slots : Int) (hb : regs ≤ 9223372036854775808) :
    Cod sh (sTail op regs slots) (fun x => fieldsB (decide (uD op)) (decide (uA op)) (decide (uB op)) (decide (op = 1)) x.1.1 x.1.2.1 x.1.2.2.1 x.1.2.2.2 ++ (if op = 18 then pU x.2.1 ++ pU x.2.2 else []))
      (fun x => if op = 18 then x.1 = (0, 0, 0, 0) ∧ (okLoc regs slots x.2.1 ∧ okLoc regs slots x.2.2) ∧ ¬ (isSlot x.2.1 ∧ isSlot x.2.2)
        else x.2 = (0, 0) ∧ (if uD op then 0 ≤ x.1.1 ∧ x.1.1 < regs else x.1.1 = 0) ∧ (if uA op then 0 ≤ x.1.2.1 ∧ x.1.2.1 < regs else x.1.2.1 = 0) ∧ (if uB op then 0 ≤ x.1.2.2.1 ∧ x.1.2.2.1 < regs else x.1.2.2.1 = 0) ∧ (if op = 1 then in64 x.1.2.2.2 else x.1.2.2.2 = 0)) := by
  rcases Decidable.em (op = 18) with h | h
  · refine (Cod.move h1 hnz regs slots).map _ _ _ (fun x => ((0, 0, 0, 0), x)) (fun x => x.2) ?_ ?_ ?_
    · intro p
      unfold sTail
      rw [if_pos h]
      exact ⟨rfl, fun _ => rfl⟩
    · intro y hy
      rw [if_pos h] at hy
      refine ⟨hy.2, Prod.ext hy.1.symm rfl, ?_⟩
      rw [if_pos h, h]
      rfl
    · intro x hx
      rw [if_pos h]
      refine ⟨⟨rfl, hx⟩, ?_⟩
      rw [if_pos h, h]
      rfl
  · refine (Cod.flds h1 hnz op regs hb).map _ _ _ (fun x => (x, (0, 0))) (fun x => x.1) ?_ ?_ ?_
    · intro p
      unfold sTail
      rw [if_neg h]
      exact ⟨rfl, fun _ => rfl⟩
    · intro y hy
      rw [if_neg h] at hy
      refine ⟨by simpa only [decide_eq_true_eq] using hy.2, Prod.ext rfl hy.1.symm, ?_⟩
      rw [if_neg h, List.append_nil]
    · intro x hx
      rw [if_neg h]
      refine ⟨⟨rfl, by simpa only [decide_eq_true_eq] using hx⟩, ?_⟩
      rw [if_neg h, List.append_nil]
theorem Cod.mac (h1 : sh 1) (hnz : ∀ e, sh e → e ≠ 0) (regs slots : Int) (hb : regs ≤ 9223372036854775808) : Cod sh (sMac regs slots) putMacB (okMac regs slots) := by
  have hst : ∀ op p, p.2 ≠ 0 → (sTail op regs slots p).2.2 = p.2 := fun op p hp => (Cod.tail (sh := fun e => e ≠ 0) (by decide) (fun _ h => h) op regs slots hb).st p hp
  have hF := (Cod.first h1 hnz machOp 8 (by decide)).seq (fun op _ => Cod.tail h1 hnz op regs slots hb) (fun op p h => hst op p h)
  refine hF.map _ _ _ (fun x => ⟨x.1, x.2.1.1, x.2.1.2.1, x.2.1.2.2.1, x.2.1.2.2.2, x.2.2.1, x.2.2.2⟩) (fun i => (i.op, (i.d, i.a, i.b, i.imm), (i.dst, i.src))) ?_ ?_ ?_
  · intro p
    unfold sMac sTail
    dsimp only
    split
    · refine ⟨rfl, fun h => ?_⟩
      rw [if_pos h]
    · refine ⟨rfl, fun h => ?_⟩
      rw [if_pos h]
  · intro y h
    obtain ⟨h0, h⟩ := h
    have hk := h0.1
    unfold known at hk
    refine ⟨⟨⟨by omega, decide_eq_true h0⟩, ?_⟩, rfl, ?_⟩
    · dsimp only
      split at h
      · rw [if_pos (by assumption)]
        refine ⟨?_, h.2⟩
        rw [h.1.1, h.1.2.1, h.1.2.2.1, h.1.2.2.2]
      · rw [if_neg (by assumption)]
        refine ⟨?_, h.2⟩
        rw [h.1.1, h.1.2]
    · unfold putMacB
      rw [IntKind.wrap_u8, Int.emod_eq_of_lt (by omega) (by omega)]
      rfl
  · intro x h
    obtain ⟨⟨h0, h00⟩, h⟩ := h
    refine ⟨⟨of_decide_eq_true h00, ?_⟩, ?_⟩
    · dsimp only at h ⊢
      split at h
      · rw [if_pos (by assumption)]
        refine ⟨?_, h.2⟩
        rw [h.1]
        exact ⟨rfl, rfl, rfl, rfl⟩
      · rw [if_neg (by assumption)]
        refine ⟨?_, h.2⟩
        rw [h.1]
        exact ⟨rfl, rfl⟩
    · have hw : IntKind.u8.wrap x.1 = x.1 := by rw [IntKind.wrap_u8]; omega
      unfold putMacB
      dsimp only
      rw [hw]
      rfl
end Go.Proofs.YtchebkpcgglllaaGreat.Cu

namespace Go.Proofs.YtchebkpcgglllaaGreat.Cu
open Go Go.SX Go.Proofs.YtchebkpcgglllaaGreat.VT
set_option maxRecDepth 100000
set_option linter.unusedVariables false
set_option linter.unusedSimpArgs false

end Go.Proofs.YtchebkpcgglllaaGreat.Cu

namespace Go.Proofs.YtchebkpcgglllaaGreat.Cu
open Go Go.SX Go.Proofs.YtchebkpcgglllaaGreat.VT
set_option maxRecDepth 100000
set_option linter.unusedVariables false
set_option linter.unusedSimpArgs false

theorem okIns_ok {regs : Int} {i : Ins} (h : okIns regs i) (hr : regs ≤ 9223372036854775807) : i.ok := by
  obtain ⟨⟨h1, h2⟩, h3, h4, h5, h6⟩ := h
  unfold known at h1
  refine ⟨by unfold in64; omega, ?_, ?_, ?_, ?_⟩
  · unfold in64; split at h3 <;> omega
  · unfold in64; split at h4 <;> omega
  · unfold in64; split at h5 <;> omega
  · split at h6
    · exact h6
    · unfold in64; omega
theorem okMac_ok {regs slots : Int} {i : Mac} (h : okMac regs slots i) (hr : regs ≤ 9223372036854775807) : i.ok := by
  obtain ⟨⟨h1, h2⟩, h⟩ := h
  unfold known at h1
  split at h
  · obtain ⟨⟨h3, h4, h5, h6⟩, ⟨h7, h8⟩, _⟩ := h
    have h9 := h7.1.1
    have h10 := h7.2
    have h11 := h8.1.1
    have h12 := h8.2
    refine ⟨?_, ?_, ?_, ?_, ?_, ?_, ?_⟩ <;> unfold in64 <;> omega
  · obtain ⟨⟨h7, h8⟩, h3, h4, h5, h6⟩ := h
    refine ⟨by unfold in64; omega, ?_, ?_, ?_, ?_, by unfold in64; omega, by unfold in64; omega⟩
    · unfold in64; split at h3 <;> omega
    · unfold in64; split at h4 <;> omega
    · unfold in64; split at h5 <;> omega
    · split at h6
      · exact h6
      · unfold in64; omega
end Go.Proofs.YtchebkpcgglllaaGreat.Cu

namespace Go.Proofs.YtchebkpcgglllaaGreat.Cu
open Go Go.SX Go.Proofs.YtchebkpcgglllaaGreat.VT
set_option maxRecDepth 100000
set_option linter.unusedVariables false
set_option linter.unusedSimpArgs false

theorem isB_app2 {l m : List Int} (h : isB l) (h2 : isB m) : isB (l ++ m) := fun x hx => by
  rcases List.mem_append.1 hx with hx | hx
  · exact h x hx
  · exact h2 x hx
theorem isB_nil : isB [] := fun x hx => by simp at hx
theorem isB_if {p : Prop} [Decidable p] {l : List Int} (h : isB l) : isB (if p then l else []) := by
  split
  · exact h
  · exact isB_nil
theorem isB_cons {x : Int} {l : List Int} (hx : 0 ≤ x ∧ x ≤ 255) (h : isB l) : isB (x :: l) := fun y hy => by
  rcases List.mem_cons.1 hy with rfl | hy
  · exact hx
  · exact h y hy
theorem putB_isb (n : Nat) (h : n < 18446744073709551616) : isB (putB n) := vput_byte 9 n (by simpa using h)
theorem pU_isb (n : Int) : isB (pU n) := putB_isb _ (by have := pU_nat n; omega)
theorem u8_isb (n : Int) : 0 ≤ IntKind.u8.wrap n ∧ IntKind.u8.wrap n ≤ 255 := by rw [IntKind.wrap_u8]; omega
theorem fieldsB_isb (sD sA sB sI : Bool) (d a b imm : Int) (h : in64 imm) : isB (fieldsB sD sA sB sI d a b imm) := by
  have hz := zig_range imm h.1 h.2
  exact isB_app2 (isB_app2 (isB_app2 (isB_if (pU_isb _)) (isB_if (pU_isb _))) (isB_if (pU_isb _))) (isB_if (putB_isb _ (by omega)))
theorem putInsB_isb (i : Ins) (h : in64 i.imm) : isB (putInsB i) := isB_cons (u8_isb _) (fieldsB_isb _ _ _ _ _ _ _ _ h)
theorem putMacB_isb (i : Mac) (h : in64 i.imm) : isB (putMacB i) := isB_cons (u8_isb _) (isB_app2 (fieldsB_isb _ _ _ _ _ _ _ _ h) (isB_if (isB_app2 (pU_isb _) (pU_isb _))))
theorem putTrmB_isb (t : Trm) : isB (putTrmB t) := isB_cons (u8_isb _) (isB_app2 (isB_app2 (isB_if (pU_isb _)) (isB_if (pU_isb _))) (isB_if (pU_isb _)))
end Go.Proofs.YtchebkpcgglllaaGreat.Cu
