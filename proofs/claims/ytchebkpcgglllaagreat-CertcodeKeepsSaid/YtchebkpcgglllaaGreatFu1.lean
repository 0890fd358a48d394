/- Functions: the plain side. -/
import Derived.Test.YtchebkpcgglllaaGreatNux
import Derived.Test.YtchebkpcgglllaaGreatInz
namespace Go.Proofs.YtchebkpcgglllaaGreat.Cu
open Go Go.SX Go.Proofs.YtchebkpcgglllaaGreat.VT
set_option maxRecDepth 100000
set_option linter.unusedVariables false
set_option linter.unusedSimpArgs false

def fn0 : Fn := ⟨0, 0, []⟩
def mfn0 : MFn := ⟨0, 0, 0, []⟩
/-! ### the code of a block -/
def nxU {α : Type} (_ : Unit) (_ : α) : Unit := ()
def sCode (regs k : Int) (p : Ps) : List Ins × Ps := rep (fun _ => sIns regs) nxU k.toNat () p
def encCode (l : List Ins) : List Int := encL (fun _ => putInsB) nxU () l
def okCode (regs : Int) (l : List Ins) : Prop := okL (fun _ => okIns regs) nxU () l
def sMacR (regs slots run : Int) (p : Ps) : Mac × Ps := ((sMac regs slots p).1, if nxR run (sMac regs slots p).1 > 64 then sFail 15 (sMac regs slots p).2 else (sMac regs slots p).2)
def okMacR (regs slots run : Int) (i : Mac) : Prop := okMac regs slots i ∧ nxR run i ≤ 64
def sMCode (regs slots k : Int) (p : Ps) : List Mac × Ps := rep (sMacR regs slots) nxR k.toNat 0 p
def encMCode (l : List Mac) : List Int := encL (fun _ => putMacB) nxR 0 l
def okMCode (regs slots : Int) (l : List Mac) : Prop := okL (okMacR regs slots) nxR 0 l
theorem sIns_st {regs : Int} {p : Ps} (h : p.2 ≠ 0) (hb : regs ≤ 9223372036854775808) : (sIns regs p).2.2 = p.2 := (Cod.ins (sh := fun e => e ≠ 0) (by decide) (fun _ h => h) regs hb).st p h
theorem sTrm_st {regs blocks : Int} {p : Ps} (h : p.2 ≠ 0) (hr : regs ≤ 9223372036854775808) (hb : blocks ≤ 9223372036854775808) : (sTrm regs blocks p).2.2 = p.2 := (Cod.trm (sh := fun e => e ≠ 0) (by decide) (fun _ h => h) regs blocks hr hb).st p h
theorem putIns_len2 {regs : Int} {i : Ins} (h : okIns regs i) : 2 ≤ (putInsB i).length := by
  obtain ⟨⟨h1, h2⟩, _⟩ := h
  unfold known at h1
  have hd : ∀ n : Int, 1 ≤ (pU n).length := fun n => vput_len_pos 9 _
  have h3 := hd i.d
  have h4 := hd i.a
  unfold putInsB fieldsB
  simp only [List.length_cons, List.length_append]
  by_cases hu : uD i.op
  · rw [if_pos (by simpa using hu)]; omega
  · have ha : uA i.op := by unfold uD at hu; unfold uA; omega
    rw [if_pos (show decide (uA i.op) = true by simpa using ha)]; omega
theorem putMac_len2 {regs slots : Int} {i : Mac} (h : okMac regs slots i) : 2 ≤ (putMacB i).length := by
  obtain ⟨⟨h1, h2⟩, _⟩ := h
  unfold known at h1
  have hd : ∀ n : Int, 1 ≤ (pU n).length := fun n => vput_len_pos 9 _
  have h3 := hd i.d
  have h4 := hd i.a
  have h5 := hd i.dst
  unfold putMacB fieldsB
  simp only [List.length_cons, List.length_append]
  by_cases h18 : i.op = 18
  · rw [if_pos h18]; simp only [List.length_append]; omega
  · by_cases hu : uD i.op
    · rw [if_pos (show decide (uD i.op) = true by simpa using hu)]; omega
    · have ha : uA i.op := by unfold uD at hu; unfold uA; omega
      rw [if_pos (show decide (uA i.op) = true by simpa using ha)]; omega
theorem putTrm_len2 {regs blocks : Int} {t : Trm} (h : okTrm regs blocks t) : 2 ≤ (putTrmB t).length := by
  obtain ⟨h1, _⟩ := h
  have hd : ∀ n : Int, 1 ≤ (pU n).length := fun n => vput_len_pos 9 _
  have h3 := hd t.a
  have h4 := hd t.to_
  unfold putTrmB
  simp only [List.length_cons, List.length_append]
  by_cases hk : t.kind = 1
  · rw [if_pos (show t.kind ≠ 3 by omega)]; omega
  · rw [if_pos hk]; omega
theorem encL_lenok {σ α : Type} {enc : σ → α → List Int} {ok : σ → α → Prop} {nx : σ → α → σ} (k : Nat) (h : ∀ s x, ok s x → k ≤ (enc s x).length) : ∀ s l, okL ok nx s l → k * l.length ≤ (encL enc nx s l).length
  | s, [], _ => by simp
  | s, x :: xs, ho => by
    have h1 := encL_lenok (nx := nx) k h (nx s x) xs ho.2
    have h2 := h s x ho.1
    simp only [encL, List.length_append, List.length_cons, Nat.mul_add]
    omega
section
variable {sh : Int → Prop}
theorem Cod.code (h1 : sh 1) (hnz : ∀ e, sh e → e ≠ 0) (regs : Int) (hb : regs ≤ 9223372036854775808) (n : Nat) :
    Cod sh (Cu.rep (fun (_ : Unit) => sIns regs) nxU n ()) encCode (fun l => l.length = n ∧ okCode regs l) :=
  Cod.rep hnz (fun _ => True) (fun _ _ => Cod.ins h1 hnz regs hb) (fun _ p h => sIns_st h hb) (fun _ _ _ _ => trivial) n () trivial
theorem Cod.macR (h1 : sh 1) (hnz : ∀ e, sh e → e ≠ 0) (regs slots run : Int) (hb : regs ≤ 9223372036854775808) : Cod sh (sMacR regs slots run) putMacB (okMacR regs slots run) := by
  refine ((Cod.mac h1 hnz regs slots hb).chk _ (fun i => nxR run i ≤ 64) ?_ ?_ ?_)
  · intro p hp
    unfold sMacR
    dsimp only
    split
    · rw [sFail_err hp]
    · rfl
  · intro p hp hg
    unfold sMacR
    rw [if_neg (by omega)]
  · intro p hp hg
    unfold sMacR
    rw [if_pos (by omega)]
    exact sFail_ne (by decide)
theorem sMacR_st {regs slots run : Int} {p : Ps} (h : p.2 ≠ 0) (hb : regs ≤ 9223372036854775808) : (sMacR regs slots run p).2.2 = p.2 := (Cod.macR (sh := fun e => e ≠ 0) (by decide) (fun _ h => h) regs slots run hb).st p h
theorem Cod.mcode (h1 : sh 1) (hnz : ∀ e, sh e → e ≠ 0) (regs slots : Int) (hb : regs ≤ 9223372036854775808) (n : Nat) :
    Cod sh (Cu.rep (sMacR regs slots) nxR n 0) encMCode (fun l => l.length = n ∧ okMCode regs slots l) :=
  Cod.rep hnz (fun _ => True) (fun run _ => Cod.macR h1 hnz regs slots run hb) (fun _ p h => sMacR_st h hb) (fun _ _ _ _ => trivial) n 0 trivial
end
/-! ### blocks -/
/-- The number of instructions of a block; t are ahead of it. -/
def cntI (t : Int) (p : Ps) : Int × Ps := cntC 1048576 2 6 (fun k => decide (t + k ≤ 1048576)) p
def sBlkF (regs n t : Int) (p : Ps) : Blk × Ps :=
  let k := cntI t p
  let cs := sCode regs k.1 k.2
  let tm := sTrm regs n cs.2
  (⟨cs.1, tm.1⟩, tm.2)
def sMBlkF (regs slots n t : Int) (p : Ps) : MBlk × Ps :=
  let k := cntI t p
  let cs := sMCode regs slots k.1 k.2
  let tm := sTrm regs n cs.2
  (⟨cs.1, tm.1⟩, tm.2)
def nxB (t : Int) (b : Blk) : Int := t + b.code.length
def nxMB (t : Int) (b : MBlk) : Int := t + b.code.length
def encB (b : Blk) : List Int := putB b.code.length ++ encCode b.code ++ putTrmB b.term
def encMB (b : MBlk) : List Int := putB b.code.length ++ encMCode b.code ++ putTrmB b.term
def okB (regs n t : Int) (b : Blk) : Prop := t + b.code.length ≤ 1048576 ∧ okCode regs b.code ∧ okTrm regs n b.term
def okMB (regs slots n t : Int) (b : MBlk) : Prop := t + b.code.length ≤ 1048576 ∧ okMCode regs slots b.code ∧ okTrm regs n b.term
section
variable {sh : Int → Prop}
theorem sCode_st {regs k : Int} {p : Ps} (h : p.2 ≠ 0) : (sCode regs k p).2.2 = p.2 := by unfold sCode; rw [rep_err h]
theorem sMCode_st {regs slots k : Int} {p : Ps} (h : p.2 ≠ 0) : (sMCode regs slots k p).2.2 = p.2 := by unfold sMCode; rw [rep_err h]
theorem Cod.blkF (h1 : sh 1) (hnz : ∀ e, sh e → e ≠ 0) (regs n t : Int) (hr : regs ≤ 9223372036854775808) (hn : n ≤ 9223372036854775808) (ht : 0 ≤ t) : Cod sh (sBlkF regs n t) encB (okB regs n t) := by
  have hC := Cod.cnt (β := List Ins) h1 hnz (most := 1048576) (size := 2) (why := 6) (by decide) (by decide) (by decide) (fun k => decide (t + k ≤ 1048576))
    (g := sCode regs) (enc' := fun _ => encCode) (ok' := fun k l => l.length = k.toNat ∧ 0 ≤ k ∧ okCode regs l)
    (fun k hk _ _ => (Cod.code h1 hnz regs hr k.toNat).congr (fun p => rfl) (fun _ _ => rfl) (fun x => ⟨fun h => ⟨h.1, h.2.2⟩, fun h => ⟨h.1, hk, h.2⟩⟩)) (fun n p h => sCode_st h)
    (fun k x h => by have := encL_lenok (enc := fun _ => putInsB) (ok := fun _ => okIns regs) (nx := nxU) 2 (fun _ _ h => putIns_len2 h) () x h.2.2; unfold encCode; omega)
  have hS := hC.seq (fun _ _ => Cod.trm h1 hnz regs n hr hn) (fun _ p h => sTrm_st h hr hn)
  refine hS.map _ _ _ (fun x => ⟨x.1.2, x.2⟩) (fun b => (((b.code.length : Int), b.code), b.term)) (fun p => ⟨rfl, fun _ => rfl⟩) ?_ ?_
  · intro y hy
    obtain ⟨y1, y2, y3⟩ := hy
    refine ⟨⟨⟨⟨by dsimp only; omega, by dsimp only; omega, decide_eq_true y1⟩, by simp, by dsimp only; omega, y2⟩, y3⟩, rfl, ?_⟩
    unfold encB; simp
  · rintro ⟨⟨k, l⟩, tm⟩ ⟨⟨⟨x1, x2, x3⟩, x4, _, x5⟩, x6⟩
    dsimp only at *
    have hk : k = (l.length : Int) := by omega
    subst hk
    refine ⟨⟨of_decide_eq_true x3, x5, x6⟩, ?_⟩
    unfold encB; simp
theorem Cod.mblkF (h1 : sh 1) (hnz : ∀ e, sh e → e ≠ 0) (regs slots n t : Int) (hr : regs ≤ 9223372036854775808) (hn : n ≤ 9223372036854775808) (ht : 0 ≤ t) : Cod sh (sMBlkF regs slots n t) encMB (okMB regs slots n t) := by
  have hC := Cod.cnt (β := List Mac) h1 hnz (most := 1048576) (size := 2) (why := 6) (by decide) (by decide) (by decide) (fun k => decide (t + k ≤ 1048576))
    (g := sMCode regs slots) (enc' := fun _ => encMCode) (ok' := fun k l => l.length = k.toNat ∧ 0 ≤ k ∧ okMCode regs slots l)
    (fun k hk _ _ => (Cod.mcode h1 hnz regs slots hr k.toNat).congr (fun p => rfl) (fun _ _ => rfl) (fun x => ⟨fun h => ⟨h.1, h.2.2⟩, fun h => ⟨h.1, hk, h.2⟩⟩)) (fun n p h => sMCode_st h)
    (fun k x h => by have := encL_lenok (enc := fun _ => putMacB) (ok := okMacR regs slots) (nx := nxR) 2 (fun _ _ h => putMac_len2 h.1) 0 x h.2.2; unfold encMCode; omega)
  have hS := hC.seq (fun _ _ => Cod.trm h1 hnz regs n hr hn) (fun _ p h => sTrm_st h hr hn)
  refine hS.map _ _ _ (fun x => ⟨x.1.2, x.2⟩) (fun b => (((b.code.length : Int), b.code), b.term)) (fun p => ⟨rfl, fun _ => rfl⟩) ?_ ?_
  · intro y hy
    obtain ⟨y1, y2, y3⟩ := hy
    refine ⟨⟨⟨⟨by dsimp only; omega, by dsimp only; omega, decide_eq_true y1⟩, by simp, by dsimp only; omega, y2⟩, y3⟩, rfl, ?_⟩
    unfold encMB; simp
  · rintro ⟨⟨k, l⟩, tm⟩ ⟨⟨⟨x1, x2, x3⟩, x4, _, x5⟩, x6⟩
    dsimp only at *
    have hk : k = (l.length : Int) := by omega
    subst hk
    refine ⟨⟨of_decide_eq_true x3, x5, x6⟩, ?_⟩
    unfold encMB; simp
end
/-! ### functions -/
def cntB (p : Ps) : Int × Ps := cntC 1048576 3 14 (fun n => decide (n ≠ 0)) p
def sBlks (regs n : Int) (p : Ps) : List Blk × Ps := rep (sBlkF regs n) nxB n.toNat 0 p
def sMBlks (regs slots n : Int) (p : Ps) : List MBlk × Ps := rep (sMBlkF regs slots n) nxMB n.toNat 0 p
/-- The numbers ahead of the blocks. -/
def sHead (p : Ps) : (Int × Int) × Ps :=
  let a := sUint 1048576 p
  let r := sUint 1048576 a.2
  ((a.1, r.1), if a.1 > r.1 then sFail 9 r.2 else r.2)
def sMHead (p : Ps) : (Int × Int × Int) × Ps :=
  let a := sUint 1048576 p
  let r := sUint 1048576 a.2
  let s := sUint 1048576 r.2
  ((a.1, r.1, s.1), if a.1 > s.1 then sFail 10 s.2 else s.2)
def sFnR (p : Ps) : Fn × Ps :=
  let h := sHead p
  let n := cntB h.2
  let b := sBlks h.1.2 n.1 n.2
  (if b.2.2 = 0 then ⟨h.1.1, h.1.2, b.1⟩ else fn0, b.2)
def sMFnR (p : Ps) : MFn × Ps :=
  let h := sMHead p
  let n := cntB h.2
  let b := sMBlks h.1.2.1 h.1.2.2 n.1 n.2
  (if b.2.2 = 0 then ⟨h.1.1, h.1.2.1, h.1.2.2, b.1⟩ else mfn0, b.2)
def encBs (l : List Blk) : List Int := encL (fun _ => encB) nxB 0 l
def encMBs (l : List MBlk) : List Int := encL (fun _ => encMB) nxMB 0 l
def encFn (f : Fn) : List Int := putB f.args.toNat ++ putB f.regs.toNat ++ putB f.blocks.length ++ encBs f.blocks
def encMFn (f : MFn) : List Int := putB f.args.toNat ++ putB f.regs.toNat ++ putB f.slots.toNat ++ putB f.blocks.length ++ encMBs f.blocks
def okFn (f : Fn) : Prop := ((0 ≤ f.args ∧ f.args ≤ f.regs) ∧ f.regs ≤ 1048576) ∧ (f.blocks.length ≠ 0 ∧ f.blocks.length ≤ 1048576) ∧ okL (okB f.regs f.blocks.length) nxB 0 f.blocks
def okMFn (f : MFn) : Prop := ((0 ≤ f.args ∧ f.args ≤ f.slots) ∧ (0 ≤ f.regs ∧ f.regs ≤ 1048576) ∧ f.slots ≤ 1048576) ∧ (f.blocks.length ≠ 0 ∧ f.blocks.length ≤ 1048576) ∧ okL (okMB f.regs f.slots f.blocks.length) nxMB 0 f.blocks
section
variable {sh : Int → Prop}
theorem sBlks_st {regs n : Int} {p : Ps} (h : p.2 ≠ 0) : (sBlks regs n p).2.2 = p.2 := by unfold sBlks; rw [rep_err h]
theorem sMBlks_st {regs slots n : Int} {p : Ps} (h : p.2 ≠ 0) : (sMBlks regs slots n p).2.2 = p.2 := by unfold sMBlks; rw [rep_err h]
theorem sBlkF_st {regs n t : Int} {p : Ps} (h : p.2 ≠ 0) (hr : regs ≤ 9223372036854775808) (hn : n ≤ 9223372036854775808) : (sBlkF regs n t p).2.2 = p.2 := by
  unfold sBlkF cntI
  dsimp only
  have h1 : (sCount 1048576 2 p).2.2 = p.2 := by rw [sCount_err h]
  have h2 := cntC_of (why := 6) (good := fun k => decide (t + k ≤ 1048576)) (by rw [h1]; exact h)
  have h3 := sCode_st (regs := regs) (k := (cntC 1048576 2 6 (fun k => decide (t + k ≤ 1048576)) p).1) (by rw [h2, h1]; exact h)
  rw [sTrm_st (by rw [h3, h2, h1]; exact h) hr hn, h3, h2, h1]
theorem sMBlkF_st {regs slots n t : Int} {p : Ps} (h : p.2 ≠ 0) (hr : regs ≤ 9223372036854775808) (hn : n ≤ 9223372036854775808) : (sMBlkF regs slots n t p).2.2 = p.2 := by
  unfold sMBlkF cntI
  dsimp only
  have h1 : (sCount 1048576 2 p).2.2 = p.2 := by rw [sCount_err h]
  have h2 := cntC_of (why := 6) (good := fun k => decide (t + k ≤ 1048576)) (by rw [h1]; exact h)
  have h3 := sMCode_st (regs := regs) (slots := slots) (k := (cntC 1048576 2 6 (fun k => decide (t + k ≤ 1048576)) p).1) (by rw [h2, h1]; exact h)
  rw [sTrm_st (by rw [h3, h2, h1]; exact h) hr hn, h3, h2, h1]
theorem Cod.head (h1 : sh 1) (hnz : ∀ e, sh e → e ≠ 0) : Cod sh sHead (fun x => putB x.1.toNat ++ putB x.2.toNat) (fun x => ((0 ≤ x.1 ∧ x.1 < 18446744073709551616 ∧ x.1 ≤ 1048576) ∧ (0 ≤ x.2 ∧ x.2 < 18446744073709551616 ∧ x.2 ≤ 1048576)) ∧ x.1 ≤ x.2) := by
  have hS := (Cod.uint h1 hnz 1048576).seq (fun _ _ => Cod.uint h1 hnz 1048576) (fun _ p h => by rw [sUint_err h])
  refine hS.chk _ (fun x => x.1 ≤ x.2) ?_ ?_ ?_
  · intro p hp
    unfold sHead
    dsimp only at hp ⊢
    split
    · rw [sFail_err hp]
    · rfl
  · intro p hp hg
    unfold sHead
    dsimp only at hp hg ⊢
    rw [if_neg (by omega)]
  · intro p hp hg
    unfold sHead
    dsimp only at hp hg ⊢
    rw [if_pos (by omega)]
    exact sFail_ne (by decide)
theorem Cod.mhead (h1 : sh 1) (hnz : ∀ e, sh e → e ≠ 0) : Cod sh sMHead (fun x => putB x.1.toNat ++ (putB x.2.1.toNat ++ putB x.2.2.toNat)) (fun x => ((0 ≤ x.1 ∧ x.1 < 18446744073709551616 ∧ x.1 ≤ 1048576) ∧ (0 ≤ x.2.1 ∧ x.2.1 < 18446744073709551616 ∧ x.2.1 ≤ 1048576) ∧ (0 ≤ x.2.2 ∧ x.2.2 < 18446744073709551616 ∧ x.2.2 ≤ 1048576)) ∧ x.1 ≤ x.2.2) := by
  have hS := (Cod.uint h1 hnz 1048576).seq (fun _ _ => (Cod.uint h1 hnz 1048576).seq (fun _ _ => Cod.uint h1 hnz 1048576) (fun _ p h => by rw [sUint_err h])) (fun _ p h => by
    have e1 : (sUint 1048576 p).2.2 = p.2 := by rw [sUint_err h]
    dsimp only
    rw [sUint_err (p := (sUint 1048576 p).2) (by rw [e1]; exact h), e1])
  refine hS.chk _ (fun x => x.1 ≤ x.2.2) ?_ ?_ ?_
  · intro p hp
    unfold sMHead
    dsimp only at hp ⊢
    split
    · rw [sFail_err hp]
    · rfl
  · intro p hp hg
    unfold sMHead
    dsimp only at hp hg ⊢
    rw [if_neg (by omega)]
  · intro p hp hg
    unfold sMHead
    dsimp only at hp hg ⊢
    rw [if_pos (by omega)]
    exact sFail_ne (by decide)
theorem encB_len3 {regs n t : Int} {b : Blk} (h : okB regs n t b) : 3 ≤ (encB b).length := by
  have h1 := putTrm_len2 h.2.2
  have h2 : 0 < (putB b.code.length).length := vput_len_pos 9 _
  unfold encB
  simp only [List.length_append]; omega
theorem encMB_len3 {regs slots n t : Int} {b : MBlk} (h : okMB regs slots n t b) : 3 ≤ (encMB b).length := by
  have h1 := putTrm_len2 h.2.2
  have h2 : 0 < (putB b.code.length).length := vput_len_pos 9 _
  unfold encMB
  simp only [List.length_append]; omega
theorem Cod.blks (h1 : sh 1) (hnz : ∀ e, sh e → e ≠ 0) (regs n : Int) (hr : regs ≤ 9223372036854775808) (hn : n ≤ 9223372036854775808) (k : Nat) :
    Cod sh (Cu.rep (sBlkF regs n) nxB k 0) encBs (fun l => l.length = k ∧ okL (okB regs n) nxB 0 l) :=
  Cod.rep (nx := nxB) hnz (fun t : Int => 0 ≤ t) (fun t ht => Cod.blkF h1 hnz regs n t hr hn ht) (fun t p h => sBlkF_st h hr hn) (fun t x ht _ => by unfold nxB; omega) k 0 (Int.le_refl _)
theorem Cod.mblks (h1 : sh 1) (hnz : ∀ e, sh e → e ≠ 0) (regs slots n : Int) (hr : regs ≤ 9223372036854775808) (hn : n ≤ 9223372036854775808) (k : Nat) :
    Cod sh (Cu.rep (sMBlkF regs slots n) nxMB k 0) encMBs (fun l => l.length = k ∧ okL (okMB regs slots n) nxMB 0 l) :=
  Cod.rep (nx := nxMB) hnz (fun t : Int => 0 ≤ t) (fun t ht => Cod.mblkF h1 hnz regs slots n t hr hn ht) (fun t p h => sMBlkF_st h hr hn) (fun t x ht _ => by unfold nxMB; omega) k 0 (Int.le_refl _)
/-- The blocks, with their number. -/
def sBody (regs : Int) (p : Ps) : (Int × List Blk) × Ps := (((cntB p).1, (sBlks regs (cntB p).1 (cntB p).2).1), (sBlks regs (cntB p).1 (cntB p).2).2)
def sMBody (regs slots : Int) (p : Ps) : (Int × List MBlk) × Ps := (((cntB p).1, (sMBlks regs slots (cntB p).1 (cntB p).2).1), (sMBlks regs slots (cntB p).1 (cntB p).2).2)
theorem cntB_st {p : Ps} (h : p.2 ≠ 0) : (cntB p).2.2 = p.2 := by
  have h1 : (sCount 1048576 3 p).2.2 = p.2 := by rw [sCount_err h]
  unfold cntB
  rw [cntC_of (by rw [h1]; exact h), h1]
theorem Cod.body (h1 : sh 1) (hnz : ∀ e, sh e → e ≠ 0) (regs : Int) (hr : regs ≤ 9223372036854775808) : Cod sh (sBody regs) (fun x => putB x.1.toNat ++ encBs x.2) (fun x => (0 ≤ x.1 ∧ x.1 ≤ 1048576 ∧ decide (x.1 ≠ 0) = true) ∧ x.2.length = x.1.toNat ∧ 0 ≤ x.1 ∧ okL (okB regs x.1) nxB 0 x.2) :=
  Cod.cnt (β := List Blk) h1 hnz (most := 1048576) (size := 3) (why := 14) (by decide) (by decide) (by decide) (fun n => decide (n ≠ 0))
    (g := sBlks regs) (enc' := fun _ => encBs) (ok' := fun n l => l.length = n.toNat ∧ 0 ≤ n ∧ okL (okB regs n) nxB 0 l)
    (fun n hn hn2 _ => (Cod.blks h1 hnz regs n hr (by omega) n.toNat).congr (fun p => rfl) (fun _ _ => rfl) (fun x => ⟨fun h => ⟨h.1, h.2.2⟩, fun h => ⟨h.1, hn, h.2⟩⟩)) (fun n p h => sBlks_st h)
    (fun n x h => by have := encL_lenok (enc := fun _ => encB) (ok := okB regs n) (nx := nxB) 3 (fun _ _ h => encB_len3 h) 0 x h.2.2; unfold encBs; omega)
theorem Cod.mbody (h1 : sh 1) (hnz : ∀ e, sh e → e ≠ 0) (regs slots : Int) (hr : regs ≤ 9223372036854775808) : Cod sh (sMBody regs slots) (fun x => putB x.1.toNat ++ encMBs x.2) (fun x => (0 ≤ x.1 ∧ x.1 ≤ 1048576 ∧ decide (x.1 ≠ 0) = true) ∧ x.2.length = x.1.toNat ∧ 0 ≤ x.1 ∧ okL (okMB regs slots x.1) nxMB 0 x.2) :=
  Cod.cnt (β := List MBlk) h1 hnz (most := 1048576) (size := 3) (why := 14) (by decide) (by decide) (by decide) (fun n => decide (n ≠ 0))
    (g := sMBlks regs slots) (enc' := fun _ => encMBs) (ok' := fun n l => l.length = n.toNat ∧ 0 ≤ n ∧ okL (okMB regs slots n) nxMB 0 l)
    (fun n hn hn2 _ => (Cod.mblks h1 hnz regs slots n hr (by omega) n.toNat).congr (fun p => rfl) (fun _ _ => rfl) (fun x => ⟨fun h => ⟨h.1, h.2.2⟩, fun h => ⟨h.1, hn, h.2⟩⟩)) (fun n p h => sMBlks_st h)
    (fun n x h => by have := encL_lenok (enc := fun _ => encMB) (ok := okMB regs slots n) (nx := nxMB) 3 (fun _ _ h => encMB_len3 h) 0 x h.2.2; unfold encMBs; omega)
theorem Cod.fn (h1 : sh 1) (hnz : ∀ e, sh e → e ≠ 0) : Cod sh sFnR encFn okFn := by
  have hS := (Cod.head h1 hnz).seq (g := fun x => sBody x.2) (fun x hx => Cod.body h1 hnz x.2 (by omega)) (fun x p h => by
    show (sBlks x.2 (cntB p).1 (cntB p).2).2.2 = p.2
    rw [sBlks_st (by rw [cntB_st h]; exact h), cntB_st h])
  refine hS.map _ _ _ (fun x => ⟨x.1.1, x.1.2, x.2.2⟩) (fun f => ((f.args, f.regs), ((f.blocks.length : Int), f.blocks))) ?_ ?_ ?_
  · intro p
    refine ⟨rfl, fun h => ?_⟩
    show (if _ then _ else _) = _
    exact if_pos h
  · intro f hf
    obtain ⟨⟨⟨a1, a2⟩, a3⟩, ⟨b1, b2⟩, b3⟩ := hf
    refine ⟨⟨⟨⟨⟨a1, by dsimp only; omega, by dsimp only; omega⟩, by dsimp only; omega, by dsimp only; omega, a3⟩, a2⟩, ⟨by dsimp only; omega, by dsimp only; omega, decide_eq_true (by dsimp only; omega)⟩, by simp, by dsimp only; omega, b3⟩, rfl, ?_⟩
    unfold encFn; simp
  · rintro ⟨⟨a, r⟩, n, l⟩ ⟨⟨⟨⟨a1, a2, a3⟩, r1, r2, r3⟩, ar⟩, ⟨n1, n2, n3⟩, l1, _, l2⟩
    dsimp only at *
    have hn : n = (l.length : Int) := by omega
    subst hn
    have n4 := of_decide_eq_true n3
    refine ⟨⟨⟨⟨a1, ar⟩, r3⟩, ⟨by dsimp only; omega, by dsimp only; omega⟩, l2⟩, ?_⟩
    unfold encFn; simp
theorem Cod.mfn (h1 : sh 1) (hnz : ∀ e, sh e → e ≠ 0) : Cod sh sMFnR encMFn okMFn := by
  have hS := (Cod.mhead h1 hnz).seq (g := fun x => sMBody x.2.1 x.2.2) (fun x hx => Cod.mbody h1 hnz x.2.1 x.2.2 (by omega)) (fun x p h => by
    show (sMBlks x.2.1 x.2.2 (cntB p).1 (cntB p).2).2.2 = p.2
    rw [sMBlks_st (by rw [cntB_st h]; exact h), cntB_st h])
  refine hS.map _ _ _ (fun x => ⟨x.1.1, x.1.2.1, x.1.2.2, x.2.2⟩) (fun f => ((f.args, f.regs, f.slots), ((f.blocks.length : Int), f.blocks))) ?_ ?_ ?_
  · intro p
    refine ⟨rfl, fun h => ?_⟩
    show (if _ then _ else _) = _
    exact if_pos h
  · intro f hf
    obtain ⟨⟨⟨a1, a2⟩, ⟨a3, a4⟩, a5⟩, ⟨b1, b2⟩, b3⟩ := hf
    refine ⟨⟨⟨⟨⟨a1, by dsimp only; omega, by dsimp only; omega⟩, ⟨a3, by dsimp only; omega, a4⟩, by dsimp only; omega, by dsimp only; omega, a5⟩, a2⟩, ⟨by dsimp only; omega, by dsimp only; omega, decide_eq_true (by dsimp only; omega)⟩, by simp, by dsimp only; omega, b3⟩, rfl, ?_⟩
    unfold encMFn; simp
  · rintro ⟨⟨a, r, s⟩, n, l⟩ ⟨⟨⟨⟨a1, a2, a3⟩, ⟨r1, r2, r3⟩, s1, s2, s3⟩, ar⟩, ⟨n1, n2, n3⟩, l1, _, l2⟩
    dsimp only at *
    have hn : n = (l.length : Int) := by omega
    subst hn
    have n4 := of_decide_eq_true n3
    refine ⟨⟨⟨⟨a1, ar⟩, ⟨r1, r3⟩, s3⟩, ⟨by dsimp only; omega, by dsimp only; omega⟩, l2⟩, ?_⟩
    unfold encMFn; simp
end
end Go.Proofs.YtchebkpcgglllaaGreat.Cu
