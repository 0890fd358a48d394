/- For every function, instruction and terminator, all functions return what the reference implementation returns. No condition. -/
import Derived.Test.YtndbpljldmnkcaaZSourceMatchesReference33
import Derived.Test.YtndbpljldmnkcaaZSourceMatchesReference32
namespace Go.Proofs.Ytndbpljldmnkcaa.LSourceMatchesReference
open Go.RowKit Go.Proofs.Ytndbpljldmnkcaa.PSourceMatchesReference Go.Proofs.YtndbpljldmnkcaaW.PrintWords Go.Proofs.YtndbpljldmnkcaaW.PrintLast Go.Proofs.Ytndbpljldmnkcaa.LT
def uD (op : Int) : Bool := decide (1 ≤ op ∧ op ≤ 16)
def uA (op : Int) : Bool := decide (2 ≤ op ∧ op ≤ 17)
def uB (op : Int) : Bool := decide (5 ≤ op ∧ op ≤ 16)
def inR (x n : Int) : Bool := decide (0 ≤ x ∧ x < n)
def spInstr (op d a b imm regs : Int) : Int :=
  if 1 ≤ op ∧ op ≤ 17 then
    if (uD op = true → inR d regs = true) ∧ (uA op = true → inR a regs = true) ∧ (uB op = true → inR b regs = true) then
      if (uD op = false → d = 0) ∧ (uA op = false → a = 0) ∧ (uB op = false → b = 0) then
        if op = 1 then 0 else if imm = 0 then 0 else 12
      else 12
    else 9
  else 8
def spTerm (kind a tgt els regs blocks : Int) : Int :=
  if 1 ≤ kind ∧ kind ≤ 3 then
    if kind ≠ 1 → inR a regs = true then
      if (kind ≠ 3 → inR tgt blocks = true) ∧ (kind = 2 → inR els blocks = true) then
        if (kind = 1 → a = 0) ∧ (kind = 3 → tgt = 0) ∧ (kind ≠ 2 → els = 0) then 0 else 12
      else 11
    else 9
  else 16
theorem of_is (op : Int) : opcode_Of.f op = some (uD op, uA op, uB op, decide (op = 1), decide (1 ≤ op ∧ op ≤ 18)) := by
  unfold opcode_Of.f opcode_known.f uD uA uB
  by_cases h0 : op ≥ 1
  · rw [if_pos h0]
    simp only [Option.bind_some, decide_eq_true_eq]
    by_cases h1 : op ≤ 18
    · rw [if_pos h1]
      by_cases h2 : op = 1
      · subst h2; rfl
      · rw [if_neg h2]
        by_cases h3 : op ≤ 4
        · rw [if_pos h3]
          simp only [Option.some.injEq, Prod.mk.injEq, true_eq_decide_iff, false_eq_decide_iff]; omega
        · rw [if_neg h3]
          by_cases h4 : op ≤ 16
          · rw [if_pos h4]
            simp only [Option.some.injEq, Prod.mk.injEq, true_eq_decide_iff, false_eq_decide_iff]; omega
          · rw [if_neg h4]
            rcases (show op = 17 ∨ op = 18 by omega) with rfl | rfl <;> rfl
    · rw [if_neg h1]
      simp only [Option.some.injEq, Prod.mk.injEq, false_eq_decide_iff]; omega
  · rw [if_neg h0]
    simp only [Option.bind_some, Bool.false_eq_true, if_false, Option.some.injEq, Prod.mk.injEq, false_eq_decide_iff]; omega
theorem source_is (op : Int) : opcode_Source.f op = some (decide (1 ≤ op ∧ op ≤ 17)) := by
  unfold opcode_Source.f opcode_known.f
  by_cases h0 : op ≥ 1
  · rw [if_pos h0]
    simp only [Option.bind_some, decide_eq_true_eq]
    by_cases h1 : op ≤ 18
    · rw [if_pos h1]
      by_cases h2 : op = 18
      · subst h2; rfl
      · rw [bne_iff_ne.2 h2]
        simp only [Option.some.injEq, true_eq_decide_iff]; omega
    · rw [if_neg h1]
      simp only [Option.some.injEq, false_eq_decide_iff]; omega
  · rw [if_neg h0]
    simp only [Option.bind_some, Bool.false_eq_true, if_false, Option.some.injEq, false_eq_decide_iff]; omega
def goodIn (f : S90) : Bool := !f.f1 || inR f.f0 f.f2
def goodBl (f : S90) : Bool := f.f1 || decide (f.f0 = 0)
theorem rdF (xs : List S90) (i : Nat) : rd_T90 xs (i : Int) = xs.getD i z90 := by unfold rd_T90; rw [Int.toNat_natCast]
theorem within_is (xs : List S90) (hl : xs.length ≤ 100) (k : Nat) (hk : xs.length + 1 ≤ k) : source_within.f k xs = some (xs.all goodIn) := by
  unfold source_within.f
  refine loop_every xs z90 (fun k i => source_within.l0 k xs (xs.length : Int) i) goodIn 0 ?_ ?_ k (by omega)
  · intro k i _ hi
    simp only [source_within.l0]
    rw [if_pos (by omega), if_pos (by omega), if_pos (by omega), w64 _ (by omega) (by omega), rdF]
    generalize xs.getD i z90 = f
    unfold goodIn inR
    by_cases h1 : f.f1 = true
    · rw [if_pos h1, h1]
      by_cases h2 : f.f0 < 0
      · rw [if_pos h2, if_neg (by simp; omega)]
      · rw [if_neg h2]
        by_cases h3 : f.f0 ≥ f.f2
        · rw [if_pos h3, if_neg (by simp; omega)]
        · rw [if_neg h3, if_pos (by simp; omega)]; rfl
    · rw [if_neg h1, if_pos (by simp [h1])]; rfl
  · intro k _
    simp only [source_within.l0]
    rw [if_neg (by omega)]
theorem blank_is (xs : List S90) (hl : xs.length ≤ 100) (k : Nat) (hk : xs.length + 1 ≤ k) : source_blank.f k xs = some (xs.all goodBl) := by
  unfold source_blank.f
  refine loop_every xs z90 (fun k i => source_blank.l0 k xs (xs.length : Int) i) goodBl 0 ?_ ?_ k (by omega)
  · intro k i _ hi
    simp only [source_blank.l0]
    rw [if_pos (by omega), if_pos (by omega), if_pos (by omega), w64 _ (by omega) (by omega), rdF]
    generalize xs.getD i z90 = f
    unfold goodBl
    by_cases h1 : f.f1 = true
    · rw [if_pos h1, if_pos (by simp [h1])]; rfl
    · rw [if_neg h1]
      by_cases h2 : f.f0 = 0
      · rw [if_pos h2, if_pos (by simp [h2])]; rfl
      · rw [if_neg h2, if_neg (by simp [h1, h2])]
  · intro k _
    simp only [source_blank.l0]
    rw [if_neg (by omega)]
theorem srcInstr_is (op d a b imm regs : Int) (k : Nat) (hk : 5 ≤ k) : source_Instr.f k op d a b imm regs = some (spInstr op d a b imm regs) := by
  unfold source_Instr.f spInstr
  rw [of_is, source_is]
  simp only [Option.bind_some, decide_eq_true_eq]
  rw [within_is _ (by simp) k (by simp; omega), blank_is _ (by simp) k (by simp; omega)]
  simp only [Option.bind_some]
  have hW : ([⟨d, uD op, regs⟩, ⟨a, uA op, regs⟩, ⟨b, uB op, regs⟩].all goodIn = true) ↔ ((uD op = true → inR d regs = true) ∧ (uA op = true → inR a regs = true) ∧ (uB op = true → inR b regs = true)) := by
    simp only [List.all_cons, List.all_nil, goodIn, Bool.and_true, Bool.and_eq_true, Bool.or_eq_true, Bool.not_eq_true']
    cases uD op <;> cases uA op <;> cases uB op <;> simp
  have hB : ([⟨d, uD op, regs⟩, ⟨a, uA op, regs⟩, ⟨b, uB op, regs⟩].all goodBl = true) ↔ ((uD op = false → d = 0) ∧ (uA op = false → a = 0) ∧ (uB op = false → b = 0)) := by
    simp only [List.all_cons, List.all_nil, goodBl, Bool.and_true, Bool.and_eq_true, Bool.or_eq_true, decide_eq_true_eq]
    cases uD op <;> cases uA op <;> cases uB op <;> simp
  by_cases h0 : 1 ≤ op ∧ op ≤ 17
  · rw [if_pos h0, if_pos h0]
    by_cases h1 : (uD op = true → inR d regs = true) ∧ (uA op = true → inR a regs = true) ∧ (uB op = true → inR b regs = true)
    · rw [if_pos (hW.2 h1), if_pos h1]
      by_cases h2 : (uD op = false → d = 0) ∧ (uA op = false → a = 0) ∧ (uB op = false → b = 0)
      · rw [if_pos (hB.2 h2), if_pos h2]
        by_cases h3 : op = 1
        · rw [if_pos h3, if_pos h3]
        · rw [if_neg h3, if_neg h3]
          by_cases h4 : imm = 0
          · rw [if_pos h4, if_pos h4]
          · rw [if_neg h4, if_neg h4]
      · rw [if_neg (fun h => h2 (hB.1 h)), if_neg h2]
    · rw [if_neg (fun h => h1 (hW.1 h)), if_neg h1]
  · rw [if_neg h0, if_neg h0]
theorem srcTerm_is (kind a tgt els regs blocks : Int) (k : Nat) (hk : 6 ≤ k) : source_Term.f k kind a tgt els regs blocks = some (spTerm kind a tgt els regs blocks) := by
  obtain ⟨k, rfl⟩ : ∃ m, k = m + 1 := ⟨k - 1, by omega⟩
  have key : ∀ c : Bool, source_Term.j0 (k + 1) c a (kind != 1) regs tgt (kind != 3) blocks els (kind == 2) blocks = some (if c = true then 16
      else if kind ≠ 1 → inR a regs = true then
        if (kind ≠ 3 → inR tgt blocks = true) ∧ (kind = 2 → inR els blocks = true) then
          if (kind = 1 → a = 0) ∧ (kind = 3 → tgt = 0) ∧ (kind ≠ 2 → els = 0) then 0 else 12
        else 11
      else 9) := by
    intro c
    simp only [source_Term.j0]
    rw [within_is _ (by simp) k (by simp; omega), within_is _ (by simp) k (by simp; omega), blank_is _ (by simp) k (by simp; omega)]
    simp only [Option.bind_some]
    cases c
    · simp only [Bool.false_eq_true, if_false]
      have hA : (([⟨a, kind != 1, regs⟩] : List S90).all goodIn = true) ↔ (kind ≠ 1 → inR a regs = true) := by
        by_cases h : kind = 1 <;> simp [goodIn, h]
      have hT : (([⟨tgt, kind != 3, blocks⟩, ⟨els, kind == 2, blocks⟩] : List S90).all goodIn = true) ↔ ((kind ≠ 3 → inR tgt blocks = true) ∧ (kind = 2 → inR els blocks = true)) := by
        by_cases h : kind = 3 <;> by_cases h' : kind = 2 <;> simp [goodIn, h, h']
      have hB : (([⟨a, kind != 1, regs⟩, ⟨tgt, kind != 3, blocks⟩, ⟨els, kind == 2, blocks⟩] : List S90).all goodBl = true) ↔ ((kind = 1 → a = 0) ∧ (kind = 3 → tgt = 0) ∧ (kind ≠ 2 → els = 0)) := by
        by_cases h : kind = 1 <;> by_cases h' : kind = 2 <;> by_cases h'' : kind = 3 <;> simp [goodBl, h, h', h'']
      by_cases h1 : kind ≠ 1 → inR a regs = true
      · rw [if_pos (hA.2 h1), if_pos h1]
        by_cases h2 : (kind ≠ 3 → inR tgt blocks = true) ∧ (kind = 2 → inR els blocks = true)
        · rw [if_pos (hT.2 h2), if_pos h2]
          by_cases h3 : (kind = 1 → a = 0) ∧ (kind = 3 → tgt = 0) ∧ (kind ≠ 2 → els = 0)
          · rw [if_pos (hB.2 h3), if_pos h3]
          · rw [if_neg (fun h => h3 (hB.1 h)), if_neg h3]
        · rw [if_neg (fun h => h2 (hT.1 h)), if_neg h2]
      · rw [if_neg (fun h => h1 (hA.1 h)), if_neg h1]
    · simp only [if_true]
  unfold source_Term.f spTerm
  by_cases h0 : kind < 1
  · rw [if_pos h0, key, if_pos rfl, if_neg (by omega)]
  · rw [if_neg h0, key]
    by_cases h3 : kind > 3
    · rw [if_pos (by simpa using h3), if_neg (by omega)]
    · rw [if_neg (by simpa using h3), if_pos (c := 1 ≤ kind ∧ kind ≤ 3) (by omega)]
def insErr (regs : Int) (i : S52) : Option Int := if spInstr i.f0 i.f1 i.f2 i.f3 i.f4 regs = 0 then none else some (spInstr i.f0 i.f1 i.f2 i.f3 i.f4 regs)
def spBlock (regs n : Int) (b : S68) : Int := (b.f0.findSome? (insErr regs)).getD (spTerm b.f1.f0 b.f1.f1 b.f1.f2 b.f1.f3 regs n)
def blkErr (regs n : Int) (b : S68) : Option Int := if spBlock regs n b = 0 then none else some (spBlock regs n b)
def codeLen : List S68 → Nat
  | [] => 0
  | b :: r => b.f0.length + codeLen r
def spCheck (args regs : Int) (bs : List S68) : Int :=
  if args < 0 ∨ args > regs then 9
  else if regs > 1048576 then 6
  else if bs.length = 0 then 14
  else if bs.length > 1048576 ∨ codeLen bs > 1048576 then 6
  else (bs.findSome? (blkErr regs bs.length)).getD 0
def Fine (bs : List S68) : Prop := bs.length ≤ 1000 ∧ ∀ b ∈ bs, b.f0.length ≤ 1000
theorem rdI (xs : List S52) (i : Nat) : rd_T52 xs (i : Int) = xs.getD i z52 := by unfold rd_T52; rw [Int.toNat_natCast]
theorem rdB (xs : List S68) (i : Nat) : rd_T68 xs (i : Int) = xs.getD i z68 := by unfold rd_T68; rw [Int.toNat_natCast]
theorem srcBlock_is (b : S68) (hb : b.f0.length ≤ 1000) (regs n : Int) (k : Nat) (hk : b.f0.length + 10 ≤ k) :
    source_block.f k b.f0 b.f1.f0 b.f1.f1 b.f1.f2 b.f1.f3 regs n = some (spBlock regs n b) := by
  unfold source_block.f spBlock
  refine loop_find b.f0 z52 (fun k i => source_block.l0 k regs n b.f0 (b.f0.length : Int) i b.f0 b.f1.f0 b.f1.f1 b.f1.f2 b.f1.f3) (insErr regs) _ 6 ?_ ?_ k (by omega)
  · intro k i hk hi
    have e := srcInstr_is (b.f0.getD i z52).f0 (b.f0.getD i z52).f1 (b.f0.getD i z52).f2 (b.f0.getD i z52).f3 (b.f0.getD i z52).f4 regs k (by omega)
    simp only [source_block.l0]
    rw [if_pos (by omega), if_pos (by omega), if_pos (by omega), w64 _ (by omega) (by omega), rdI, e]
    simp only [Option.bind_some]
    unfold insErr
    by_cases h : spInstr (b.f0.getD i z52).f0 (b.f0.getD i z52).f1 (b.f0.getD i z52).f2 (b.f0.getD i z52).f3 (b.f0.getD i z52).f4 regs = 0
    · exact .inr ⟨by rw [if_pos h], by rw [if_pos h]; rfl⟩
    · exact .inl ⟨_, by rw [if_neg h], by rw [if_neg h]⟩
  · intro k hk
    simp only [source_block.l0]
    rw [if_neg (by omega), srcTerm_is _ _ _ _ _ _ k hk]
    rfl
theorem srcCode_is (args regs : Int) (bs : List S68) (hf : Fine bs) (k : Nat) (hk : bs.length + 1 ≤ k) : source_Code.f k args regs bs = some (codeLen bs : Int) := by
  unfold source_Code.f
  have h := loop_all bs z68 (fun k (s : Nat) i => source_Code.l0 k (s : Int) bs (bs.length : Int) i) (fun s b => .inr (s + b.f0.length)) (fun s => (s : Int)) (fun i s => s ≤ 1000 * i) 0
    (fun k s i _ hi hI => by
      have hb := hf.2 _ (getD_in z68 hi)
      have := hf.1
      refine .inr ⟨_, rfl, by omega, ?_⟩
      simp only [source_Code.l0]
      rw [if_pos (by omega), if_pos (by omega), if_pos (by omega), rdB, w64 _ (by omega) (by omega), w64 _ (by omega) (by omega)]
      rfl)
    (fun k s _ _ => by
      simp only [source_Code.l0]
      rw [if_neg (by omega)]) k 0 (by omega) (by omega)
  rw [show ((0 : Nat) : Int) = 0 from rfl] at h
  rw [h]
  congr 1
  have : ∀ (l : List S68) (s : Nat), runL (α := S68) (σ := Nat) (ρ := Int) (fun s b => .inr (s + b.f0.length)) (fun s => (s : Int)) s l = ((s + codeLen l : Nat) : Int) := by
    intro l
    induction l with
    | nil => intro s; simp [runL_nil, codeLen]
    | cons b r ih =>
      intro s
      rw [runL_inr (s' := s + b.f0.length) rfl, ih]
      simp only [codeLen]
      congr 1
      omega
  rw [this, Nat.zero_add]
theorem srcCheck_is (args regs : Int) (bs : List S68) (hf : Fine bs) (k : Nat) (hk : bs.length + 1020 ≤ k) : source_Check.f k args regs bs = some (spCheck args regs bs) := by
  obtain ⟨k, rfl⟩ : ∃ m, k = m + 1 := ⟨k - 1, by omega⟩
  have hl := hf.1
  have key : ∀ c : Bool, source_Check.j0 (k + 1) c args regs bs = some (if c = true then 9 else if regs > 1048576 then 6 else if bs.length = 0 then 14 else if bs.length > 1048576 ∨ codeLen bs > 1048576 then 6 else (bs.findSome? (blkErr regs bs.length)).getD 0) := by
    intro c
    simp only [source_Check.j0]
    rw [srcCode_is args regs bs hf k (by omega)]
    simp only [Option.bind_some]
    cases c
    · simp only [Bool.false_eq_true, if_false]
      by_cases h1 : regs > 1048576
      · rw [if_pos h1, if_pos h1]
      · rw [if_neg h1, if_neg h1]
        by_cases h2 : bs.length = 0
        · rw [if_pos (by omega), if_pos h2]
        · rw [if_neg (by omega), if_neg h2, if_neg (by omega)]
          by_cases h3 : codeLen bs > 1048576
          · rw [if_pos (by omega), if_pos (.inr h3)]
          · rw [if_neg (by omega), if_neg (by omega)]
            refine loop_find bs z68 (fun k i => source_Check.l0 k bs (bs.length : Int) i args regs bs) (blkErr regs bs.length) 0 1010 ?_ ?_ k (by omega)
            · intro k i hk hi
              have hb := hf.2 _ (getD_in z68 hi)
              simp only [source_Check.l0]
              rw [if_pos (by omega), if_pos (by omega), if_pos (by omega), w64 _ (by omega) (by omega), rdB, srcBlock_is _ hb regs _ k (by omega)]
              simp only [Option.bind_some]
              unfold blkErr
              by_cases h : spBlock regs (bs.length : Int) (bs.getD i z68) = 0
              · exact .inr ⟨by rw [if_pos h], by rw [if_pos h]; rfl⟩
              · exact .inl ⟨_, by rw [if_neg h], by rw [if_neg h]⟩
            · intro k hk
              simp only [source_Check.l0]
              rw [if_neg (by omega)]
    · simp only [if_true]
  unfold source_Check.f spCheck
  by_cases h0 : args < 0
  · rw [if_pos h0, key, if_pos rfl, if_pos (.inl h0)]
  · rw [if_neg h0, key]
    by_cases h1 : args > regs
    · rw [if_pos (by simpa using h1), if_pos (.inr h1)]
    · rw [if_neg (by simpa using h1), if_neg (c := args < 0 ∨ args > regs) (by omega)]
def spFew (regs : Int) (bs : List S68) : Bool := decide (bs.length ≤ 40 ∧ regs ≤ 60 ∧ (∀ b ∈ bs, b.f0.length ≤ 100) ∧ codeLen bs ≤ 300)
theorem few_fine {regs : Int} {bs : List S68} (h : spFew regs bs = true) : Fine bs ∧ bs.length ≤ 40 ∧ regs ≤ 60 ∧ codeLen bs ≤ 300 ∧ ∀ b ∈ bs, b.f0.length ≤ 100 := by
  unfold spFew at h
  rw [decide_eq_true_eq] at h
  exact ⟨⟨by omega, fun b hb => by have := h.2.2.1 b hb; omega⟩, h.1, h.2.1, h.2.2.2, h.2.2.1⟩
theorem refCode_is (args regs : Int) (bs : List S68) (hf : Fine bs) (k : Nat) (hk : bs.length + 1 ≤ k) : regcertref07_Code.f k args regs bs = some (codeLen bs : Int) := by
  unfold regcertref07_Code.f
  have h := loop_all bs z68 (fun k (s : Nat) i => regcertref07_Code.l0 k (s : Int) i args regs bs) (fun s b => .inr (s + b.f0.length)) (fun s => (s : Int)) (fun i s => s ≤ 1000 * i) 0
    (fun k s i _ hi hI => by
      have hb := hf.2 _ (getD_in z68 hi)
      have := hf.1
      refine .inr ⟨_, rfl, by omega, ?_⟩
      simp only [regcertref07_Code.l0]
      rw [if_pos (by omega), if_pos (by omega), rdB, w64 _ (by omega) (by omega), w64 _ (by omega) (by omega)]
      rfl)
    (fun k s _ _ => by
      simp only [regcertref07_Code.l0]
      rw [if_neg (by omega)]) k 0 (by omega) (by omega)
  rw [show ((0 : Nat) : Int) = 0 from rfl] at h
  rw [h]
  congr 1
  have : ∀ (l : List S68) (s : Nat), runL (α := S68) (σ := Nat) (ρ := Int) (fun s b => .inr (s + b.f0.length)) (fun s => (s : Int)) s l = ((s + codeLen l : Nat) : Int) := by
    intro l
    induction l with
    | nil => intro s; simp [runL_nil, codeLen]
    | cons b r ih =>
      intro s
      rw [runL_inr (s' := s + b.f0.length) rfl, ih]
      simp only [codeLen]
      congr 1
      omega
  rw [this, Nat.zero_add]
theorem few_is (args regs : Int) (bs : List S68) (k : Nat) (hk : bs.length + 50 ≤ k) : regcertref07_Few.f k args regs bs = some (spFew regs bs) := by
  obtain ⟨k, rfl⟩ : ∃ m, k = m + 1 := ⟨k - 1, by omega⟩
  unfold regcertref07_Few.f
  have hno : ¬ (bs.length ≤ 40 ∧ regs ≤ 60) → spFew regs bs = false := by
    intro h
    unfold spFew
    exact decide_eq_false (fun h' => h ⟨h'.1, h'.2.1⟩)
  by_cases h1 : bs.length > 40
  · rw [if_pos (by omega), hno (by omega)]
    simp only [regcertref07_Few.j0, if_true]
  · rw [if_neg (by omega)]
    by_cases h2 : regs > 60
    · rw [decide_eq_true h2, hno (by omega)]
      simp only [regcertref07_Few.j0, if_true]
    · rw [decide_eq_false h2]
      simp only [regcertref07_Few.j0, Bool.false_eq_true, if_false]
      have key : ∀ (d i k : Nat), i + d = bs.length → d + bs.length + 2 ≤ k → (∀ j, j < i → (bs.getD j z68).f0.length ≤ 100) → regcertref07_Few.l0 k (i : Int) args regs bs = some (spFew regs bs) := by
        intro d
        induction d with
        | zero =>
          intro i k hi hk hall
          obtain ⟨k, rfl⟩ : ∃ m, k = m + 1 := ⟨k - 1, by omega⟩
          have hb : ∀ b ∈ bs, b.f0.length ≤ 100 := by
            intro b hb
            obtain ⟨j, hj, rfl⟩ := List.getElem_of_mem hb
            have := hall j (by omega)
            rwa [List.getD_eq_getElem?_getD, List.getElem?_eq_getElem hj] at this
          simp only [regcertref07_Few.l0]
          rw [if_neg (by omega), refCode_is args regs bs ⟨by omega, fun b h => by have := hb b h; omega⟩ k (by omega)]
          simp only [Option.bind_some]
          congr 1
          unfold spFew
          rw [decide_eq_decide]
          exact ⟨fun h => ⟨by omega, by omega, hb, by omega⟩, fun h => by have := h.2.2.2; omega⟩
        | succ d ih =>
          intro i k hi hk hall
          obtain ⟨k, rfl⟩ : ∃ m, k = m + 1 := ⟨k - 1, by omega⟩
          simp only [regcertref07_Few.l0]
          rw [if_pos (by omega), if_pos (by omega), rdB]
          by_cases h : (bs.getD i z68).f0.length > 100
          · rw [if_pos (by omega)]
            congr 1
            unfold spFew
            exact (decide_eq_false (fun h' => by have := h'.2.2.1 _ (getD_in z68 (show i < bs.length by omega)); omega)).symm
          · rw [if_neg (by omega), w64 _ (by omega) (by omega), show (i : Int) + 1 = ((i + 1 : Nat) : Int) from by omega]
            refine ih (i + 1) k (by omega) (by omega) (fun j hj => ?_)
            rcases Nat.lt_or_ge j i with hlt | hge
            · exact hall j hlt
            · obtain rfl : j = i := by omega
              omega
      exact key bs.length 0 k (by omega) (by omega) (fun j hj => by omega)
theorem nums_loop (xs ys : List Int) (hl : xs.length = ys.length) (hm : xs.length ≤ 1000) (k : Nat) (hk : xs.length + 1 ≤ k) : regcertref07_Numbers.f k xs ys = some ((List.zip xs ys).all fun p => decide (p.1 = p.2)) := by
  unfold regcertref07_Numbers.f
  rw [if_pos (by omega)]
  have hz : (List.zip xs ys).length = xs.length := by rw [List.length_zip]; omega
  refine loop_every (List.zip xs ys) (0, 0) (fun k i => regcertref07_Numbers.l0 k xs ys i) (fun p => decide (p.1 = p.2)) 0 ?_ ?_ k (by omega)
  · intro k i _ hi
    have e : (List.zip xs ys).getD i (0, 0) = (xs.getD i 0, ys.getD i 0) := by
      rw [List.getD_eq_getElem?_getD, List.getElem?_eq_getElem hi, List.getElem_zip]
      simp [List.getD_eq_getElem?_getD, List.getElem?_eq_getElem (show i < xs.length by omega), List.getElem?_eq_getElem (show i < ys.length by omega)]
    simp only [regcertref07_Numbers.l0]
    rw [if_pos (by omega), if_pos (by omega), if_pos (by omega), w64 _ (by omega) (by omega), e]
    unfold rd
    rw [Int.toNat_natCast]
    by_cases h : xs.getD i 0 = ys.getD i 0
    · rw [if_pos h, if_pos (by simpa using h)]; rfl
    · rw [if_neg h, if_neg (by simpa using h)]
  · intro k _
    simp only [regcertref07_Numbers.l0]
    rw [if_neg (by omega)]
theorem awake_is (k : Nat) (hk : 3000 ≤ k) : regcertlaw07_awake.f k = some true := by
  unfold regcertlaw07_awake.f
  have hf : Fine [(⟨[], ⟨3, 0, 0, 0⟩⟩ : S68)] := ⟨by decide, by simp⟩
  simp only [Option.bind_some]
  rw [srcCheck_is 0 1 _ hf k (by simp; omega), srcCheck_is 0 0 _ hf k (by simp; omega), srcCheck_is 0 0 [] ⟨by decide, by simp⟩ k (by simp; omega), srcInstr_is _ _ _ _ _ _ k (by omega), srcTerm_is _ _ _ _ _ _ k (by omega), srcCode_is 0 1 _ hf k (by simp; omega)]
  simp only [Option.bind_some]
  rw [if_pos (by decide), if_pos (by decide), if_pos (by decide), if_pos (by decide), if_pos (by decide)]
  have hs : source_Successors.f 2 0 3 3 = some [3, 3] := rfl
  rw [hs]
  simp only [Option.bind_some]
  rw [nums_loop _ _ rfl (by decide) k (by simp; omega)]
  rfl
theorem usesD_is (op : Int) : regcertref05_UsesD.f op = some (uD op) := by
  unfold regcertref05_UsesD.f uD
  by_cases h : op ≥ 1
  · rw [if_pos h]; congr 1; rw [decide_eq_decide]; omega
  · rw [if_neg h]; congr 1; exact (decide_eq_false (by omega)).symm
theorem usesA_is (op : Int) : regcertref05_UsesA.f op = some (uA op) := by
  unfold regcertref05_UsesA.f uA
  by_cases h : op ≥ 2
  · rw [if_pos h]; congr 1; rw [decide_eq_decide]; omega
  · rw [if_neg h]; congr 1; exact (decide_eq_false (by omega)).symm
theorem usesB_is (op : Int) : regcertref05_UsesB.f op = some (uB op) := by
  unfold regcertref05_UsesB.f uB
  by_cases h : op ≥ 5
  · rw [if_pos h]; congr 1; rw [decide_eq_decide]; omega
  · rw [if_neg h]; congr 1; exact (decide_eq_false (by omega)).symm
theorem in_is (x n : Int) : regcertref07_in.f x n = some (inR x n) := by
  unfold regcertref07_in.f inR
  by_cases h : x ≥ 0
  · rw [if_pos h]; congr 1; rw [decide_eq_decide]; omega
  · rw [if_neg h]; congr 1; exact (decide_eq_false (by omega)).symm
def spTail (op d a b imm : Int) : Int := if (uD op = false → d = 0) ∧ (uA op = false → a = 0) ∧ (uB op = false → b = 0) then (if op = 1 then 0 else if imm = 0 then 0 else 12) else 12
theorem refInstr_j1 (k : Nat) (c : Bool) (op d a b imm : Int) : regcertref07_Instr.j1 (k + 1) c op d a b imm = some (if c = true then 9 else spTail op d a b imm) := by
  simp only [regcertref07_Instr.j1]
  cases c
  · simp only [Bool.false_eq_true, if_false]
    rw [usesD_is, usesA_is, usesB_is]
    unfold spTail
    cases uD op <;> cases uA op <;> cases uB op <;> by_cases hd : d = 0 <;> by_cases ha : a = 0 <;> by_cases hb : b = 0 <;> simp [hd, ha, hb] <;> (repeat' split) <;> rfl
  · simp only [if_true]
theorem refInstr_is (op d a b imm regs : Int) (k : Nat) (hk : 5 ≤ k) : regcertref07_Instr.f k op d a b imm regs = some (spInstr op d a b imm regs) := by
  obtain ⟨k, rfl⟩ : ∃ m, k = m + 2 := ⟨k - 2, by omega⟩
  have key : ∀ c : Bool, regcertref07_Instr.j0 (k + 2) regs c op d a b imm = some (if c = true then 8 else if (uD op = true → inR d regs = true) ∧ (uA op = true → inR a regs = true) ∧ (uB op = true → inR b regs = true) then spTail op d a b imm else 9) := by
    intro c
    simp only [regcertref07_Instr.j0]
    cases c
    · simp only [Bool.false_eq_true, if_false]
      rw [usesD_is, usesA_is, usesB_is, in_is, in_is, in_is]
      simp only [Option.bind_some, refInstr_j1]
      cases uD op <;> cases uA op <;> cases uB op <;> cases inR d regs <;> cases inR a regs <;> cases inR b regs <;> simp
    · simp only [if_true]
  unfold regcertref07_Instr.f spInstr
  by_cases h0 : op < 1
  · rw [if_pos h0, key, if_pos rfl, if_neg (by omega)]
  · rw [if_neg h0, key]
    by_cases h1 : op > 17
    · rw [if_pos (by simpa using h1), if_neg (by omega)]
    · rw [if_neg (by simpa using h1), if_pos (c := 1 ≤ op ∧ op ≤ 17) (by omega)]
      rfl
theorem refTerm_is (kind a tgt els regs blocks : Int) : regcertref07_Term.f kind a tgt els regs blocks = some (spTerm kind a tgt els regs blocks) := by
  unfold regcertref07_Term.f spTerm
  rw [in_is, in_is, in_is]
  simp only [Option.bind_some]
  by_cases h1 : kind = 1
  · subst h1
    cases inR tgt blocks <;> by_cases ha : a = 0 <;> by_cases he : els = 0 <;> simp [ha, he]
  · by_cases h2 : kind = 2
    · subst h2
      cases inR tgt blocks <;> cases inR els blocks <;> cases inR a regs <;> simp
    · by_cases h3 : kind = 3
      · subst h3
        cases inR a regs <;> by_cases ht : tgt = 0 <;> by_cases he : els = 0 <;> simp [ht, he]
      · rw [if_neg h1, if_neg h2, if_neg h3, if_neg (by omega)]
theorem blk_then (regs n : Int) (b : S68) (R : Int) :
    ((b.f0.findSome? (insErr regs)).getD (if spTerm b.f1.f0 b.f1.f1 b.f1.f2 b.f1.f3 regs n = 0 then R else spTerm b.f1.f0 b.f1.f1 b.f1.f2 b.f1.f3 regs n)) = (blkErr regs n b).getD R := by
  unfold blkErr spBlock
  cases h : b.f0.findSome? (insErr regs) with
  | none =>
    simp only [Option.getD_none]
    by_cases ht : spTerm b.f1.f0 b.f1.f1 b.f1.f2 b.f1.f3 regs n = 0
    · rw [if_pos ht, if_pos ht]; rfl
    · rw [if_neg ht, if_neg ht]; rfl
  | some e =>
    have he : e ≠ 0 := by
      obtain ⟨x, _, hx⟩ := List.exists_of_findSome?_eq_some h
      unfold insErr at hx
      split at hx
      · cases hx
      · rename_i hne
        injection hx with hx
        rw [← hx]; exact hne
    simp only [Option.getD_some]
    rw [if_neg he]; rfl
theorem refCheck_l0 (args regs : Int) (bs : List S68) (hf : Fine bs) (d : Nat) : ∀ (i k : Nat), i + d = bs.length → 10 + d * 1020 ≤ k →
    regcertref07_Check.l0 k (i : Int) args regs bs = some (((bs.drop i).findSome? (blkErr regs bs.length)).getD 0) := by
  have hl := hf.1
  induction d with
  | zero =>
    intro i k hi hk
    obtain ⟨k, rfl⟩ : ∃ m, k = m + 1 := ⟨k - 1, by omega⟩
    simp only [regcertref07_Check.l0]
    rw [if_neg (by omega), List.drop_eq_nil_of_le (by omega)]; rfl
  | succ d ih =>
    intro i k hi hk
    obtain ⟨k, rfl⟩ : ∃ m, k = m + 1 := ⟨k - 1, by omega⟩
    have hb := hf.2 _ (getD_in z68 (show i < bs.length by omega))
    simp only [regcertref07_Check.l0]
    rw [if_pos (by omega), if_pos (by omega), rdB]
    generalize hB : bs.getD i z68 = b at hb
    have h := loop_find b.f0 z52 (fun k j => regcertref07_Check.l1 k (i : Int) j args regs bs b.f0 b.f1.f0 b.f1.f1 b.f1.f2 b.f1.f3) (insErr regs)
      (if spTerm b.f1.f0 b.f1.f1 b.f1.f2 b.f1.f3 regs bs.length = 0 then ((bs.drop (i + 1)).findSome? (blkErr regs bs.length)).getD 0 else spTerm b.f1.f0 b.f1.f1 b.f1.f2 b.f1.f3 regs bs.length) (10 + d * 1020)
      (fun k j hk hj => by
        simp only [regcertref07_Check.l1]
        rw [if_pos (by omega), if_pos (by omega), rdI, refInstr_is _ _ _ _ _ _ k (by omega), w64 _ (by omega) (by omega)]
        simp only [Option.bind_some]
        unfold insErr
        by_cases h : spInstr (b.f0.getD j z52).f0 (b.f0.getD j z52).f1 (b.f0.getD j z52).f2 (b.f0.getD j z52).f3 (b.f0.getD j z52).f4 regs = 0
        · exact .inr ⟨by rw [if_pos h], by rw [if_pos h]; rfl⟩
        · exact .inl ⟨_, by rw [if_neg h], by rw [if_neg h]⟩)
      (fun k hk => by
        simp only [regcertref07_Check.l1]
        rw [if_neg (by omega), refTerm_is, w64 _ (by omega) (by omega)]
        simp only [Option.bind_some]
        by_cases ht : spTerm b.f1.f0 b.f1.f1 b.f1.f2 b.f1.f3 regs bs.length = 0
        · rw [if_pos ht, if_pos ht]
          exact ih (i + 1) k (by omega) (by omega)
        · rw [if_neg ht, if_neg ht]) k (by omega)
    rw [h, blk_then, drop_getD z68 (show i < bs.length by omega), List.findSome?_cons, hB]
    cases blkErr regs (bs.length : Int) b <;> rfl
theorem refCheck_is (args regs : Int) (bs : List S68) (hf : Fine bs) (h40 : bs.length ≤ 40) (k : Nat) (hk : 45000 ≤ k) : regcertref07_Check.f k args regs bs = some (spCheck args regs bs) := by
  obtain ⟨k, rfl⟩ : ∃ m, k = m + 2 := ⟨k - 2, by omega⟩
  have h1 : ∀ c : Bool, regcertref07_Check.j1 (k + 1) c args regs bs = some (if c = true then 6 else (bs.findSome? (blkErr regs bs.length)).getD 0) := by
    intro c
    simp only [regcertref07_Check.j1]
    cases c
    · simp only [Bool.false_eq_true, if_false]
      have := refCheck_l0 args regs bs hf bs.length 0 k (by omega) (by omega)
      simpa using this
    · simp only [if_true]
  have key : ∀ c : Bool, regcertref07_Check.j0 (k + 2) c args regs bs = some (if c = true then 9 else if regs > 1048576 then 6 else if bs.length = 0 then 14 else if bs.length > 1048576 ∨ codeLen bs > 1048576 then 6 else (bs.findSome? (blkErr regs bs.length)).getD 0) := by
    intro c
    simp only [regcertref07_Check.j0]
    rw [refCode_is args regs bs hf (k + 1) (by omega)]
    simp only [Option.bind_some, h1]
    cases c
    · simp only [Bool.false_eq_true, if_false, if_true, decide_eq_true_eq]
      by_cases h2 : regs > 1048576
      · rw [if_pos h2, if_pos h2]
      · rw [if_neg h2, if_neg h2]
        by_cases h3 : bs.length = 0
        · rw [if_pos (by omega), if_pos h3]
        · rw [if_neg (by omega), if_neg h3, if_neg (by omega)]
          by_cases h4 : codeLen bs > 1048576
          · rw [if_pos (by omega), if_pos (.inr h4)]
          · rw [if_neg (by omega), if_neg (by omega)]
    · simp only [if_true]
  unfold regcertref07_Check.f spCheck
  by_cases h0 : args < 0
  · rw [if_pos h0, key, if_pos rfl, if_pos (.inl h0)]
  · rw [if_neg h0, key]
    by_cases h1 : args > regs
    · rw [if_pos (by simpa using h1), if_pos (.inr h1)]
    · rw [if_neg (by simpa using h1), if_neg (c := args < 0 ∨ args > regs) (by omega)]
end Go.Proofs.Ytndbpljldmnkcaa.LSourceMatchesReference
namespace Go.Proofs.Ytndbpljldmnkcaa.Pure
open Go.RowKit Go.Proofs.Ytndbpljldmnkcaa.PSourceMatchesReference Go.Proofs.YtndbpljldmnkcaaW.PrintWords Go.Proofs.YtndbpljldmnkcaaW.PrintLast Go.Proofs.Ytndbpljldmnkcaa.LT Go.Proofs.Ytndbpljldmnkcaa.LSourceMatchesReference
theorem succ_same (kind a tgt els : Int) : source_Successors.f kind a tgt els = regcertref07_Successors.f kind a tgt els := rfl
theorem nums_self (xs : List Int) (hm : xs.length ≤ 1000) (k : Nat) (hk : xs.length + 1 ≤ k) : regcertref07_Numbers.f k xs xs = some true := by
  rw [nums_loop xs xs rfl hm k hk]
  congr 1
  rw [List.all_eq_true]
  intro p hp
  rw [decide_eq_true_eq]
  clear hm hk
  induction xs with
  | nil => simp at hp
  | cons x r ih =>
    rw [List.zip_cons_cons, List.mem_cons] at hp
    rcases hp with rfl | hp
    · rfl
    · exact ih hp
theorem SourceMatchesReference : regcertlaw07_SourceMatchesReference.Pure := by
  intro x i t regs blocks hx hi ht hr hb
  obtain ⟨args, nregs, bs⟩ := x
  simp only
  refine ⟨bs.length + 50000, ?_⟩
  generalize hn : bs.length + 50000 = n
  unfold regcertlaw07_SourceMatchesReference.f
  rw [awake_is n (by omega), few_is args nregs bs n (by omega)]
  simp only [Option.bind_some, if_true]
  obtain ⟨m, rfl⟩ : ∃ m, n = m + 1 := ⟨n - 1, by omega⟩
  by_cases hfew : spFew nregs bs = true
  · obtain ⟨hf, h1, h2, h3, h4⟩ := few_fine hfew
    simp only [regcertlaw07_SourceMatchesReference.j0]
    rw [hfew, if_neg (by decide), srcCheck_is args nregs bs hf m (by omega), refCheck_is args nregs bs hf h1 m (by omega), srcInstr_is _ _ _ _ _ _ m (by omega), refInstr_is _ _ _ _ _ _ m (by omega), srcTerm_is _ _ _ _ _ _ m (by omega), refTerm_is, srcCode_is args nregs bs hf m (by omega), refCode_is args nregs bs hf m (by omega)]
    simp only [Option.bind_some, if_true]
    rw [succ_same]
    have hs : ∃ l : List Int, regcertref07_Successors.f t.f0 t.f1 t.f2 t.f3 = some l ∧ l.length ≤ 2 := by
      unfold regcertref07_Successors.f
      split
      · exact ⟨_, rfl, by simp⟩
      · split
        · exact ⟨_, rfl, by simp⟩
        · exact ⟨_, rfl, by simp⟩
    obtain ⟨l, hl, hl2⟩ := hs
    rw [hl]
    simp only [Option.bind_some]
    rw [nums_self l (by omega) m (by omega)]
    rfl
  · rw [Bool.eq_false_iff.2 hfew]
    simp only [regcertlaw07_SourceMatchesReference.j0, Bool.not_false, if_true]
    rw [awake_is m (by omega)]
    rfl
end Go.Proofs.Ytndbpljldmnkcaa.Pure
