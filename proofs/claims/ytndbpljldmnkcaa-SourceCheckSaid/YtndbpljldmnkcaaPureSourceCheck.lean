/- A function is accepted exactly if its counts are valid and all its instructions and terminators are. No condition. -/
import Derived.Test.YtndbpljldmnkcaaLT
import Derived.Test.YtndbpljldmnkcaaSaySourceCheck
namespace Go.Proofs.Ytndbpljldmnkcaa.LSourceCheck
open Go.RowKit Go.Proofs.Ytndbpljldmnkcaa.PSourceCheck Go.Proofs.YtndbpljldmnkcaaW.PrintWords Go.Proofs.YtndbpljldmnkcaaW.PrintLast Go.Proofs.Ytndbpljldmnkcaa.LT

def uD (op : Int) : Bool := decide (1 ≤ op ∧ op ≤ 16)
def uA (op : Int) : Bool := decide (2 ≤ op ∧ op ≤ 17)
def uB (op : Int) : Bool := decide (5 ≤ op ∧ op ≤ 16)
def inR (x n : Int) : Bool := decide (0 ≤ x ∧ x < n)
def spInstr (op d a b imm regs : Int) : Int :=
  if 1 ≤ op ∧ op ≤ 17 then
    if (uD op = true → inR d regs = true) ∧ (uA op = true → inR a regs = true) ∧ (uB op = true → inR b regs = true) then
      if (uD op = false → d = 0) ∧ (uA op = false → a = 0) ∧ (uB op = false → b = 0) then
        if op = 1 then 0 else if imm = 0 then 0 else 12
      else 12
    else 9
  else 8
def spTerm (kind a tgt els regs blocks : Int) : Int :=
  if 1 ≤ kind ∧ kind ≤ 3 then
    if kind ≠ 1 → inR a regs = true then
      if (kind ≠ 3 → inR tgt blocks = true) ∧ (kind = 2 → inR els blocks = true) then
        if (kind = 1 → a = 0) ∧ (kind = 3 → tgt = 0) ∧ (kind ≠ 2 → els = 0) then 0 else 12
      else 11
    else 9
  else 16
theorem of_is (op : Int) : opcode_Of.f op = some (uD op, uA op, uB op, decide (op = 1), decide (1 ≤ op ∧ op ≤ 18)) := by
  unfold opcode_Of.f opcode_known.f uD uA uB
  by_cases h0 : op ≥ 1
  · rw [if_pos h0]
    simp only [Option.bind_some, decide_eq_true_eq]
    by_cases h1 : op ≤ 18
    · rw [if_pos h1]
      by_cases h2 : op = 1
      · subst h2; rfl
      · rw [if_neg h2]
        by_cases h3 : op ≤ 4
        · rw [if_pos h3]
          simp only [Option.some.injEq, Prod.mk.injEq, true_eq_decide_iff, false_eq_decide_iff]; omega
        · rw [if_neg h3]
          by_cases h4 : op ≤ 16
          · rw [if_pos h4]
            simp only [Option.some.injEq, Prod.mk.injEq, true_eq_decide_iff, false_eq_decide_iff]; omega
          · rw [if_neg h4]
            rcases (show op = 17 ∨ op = 18 by omega) with rfl | rfl <;> rfl
    · rw [if_neg h1]
      simp only [Option.some.injEq, Prod.mk.injEq, false_eq_decide_iff]; omega
  · rw [if_neg h0]
    simp only [Option.bind_some, Bool.false_eq_true, if_false, Option.some.injEq, Prod.mk.injEq, false_eq_decide_iff]; omega
theorem source_is (op : Int) : opcode_Source.f op = some (decide (1 ≤ op ∧ op ≤ 17)) := by
  unfold opcode_Source.f opcode_known.f
  by_cases h0 : op ≥ 1
  · rw [if_pos h0]
    simp only [Option.bind_some, decide_eq_true_eq]
    by_cases h1 : op ≤ 18
    · rw [if_pos h1]
      by_cases h2 : op = 18
      · subst h2; rfl
      · rw [bne_iff_ne.2 h2]
        simp only [Option.some.injEq, true_eq_decide_iff]; omega
    · rw [if_neg h1]
      simp only [Option.some.injEq, false_eq_decide_iff]; omega
  · rw [if_neg h0]
    simp only [Option.bind_some, Bool.false_eq_true, if_false, Option.some.injEq, false_eq_decide_iff]; omega
def goodIn (f : S90) : Bool := !f.f1 || inR f.f0 f.f2
def goodBl (f : S90) : Bool := f.f1 || decide (f.f0 = 0)
theorem rdF (xs : List S90) (i : Nat) : rd_T90 xs (i : Int) = xs.getD i z90 := by unfold rd_T90; rw [Int.toNat_natCast]
theorem within_is (xs : List S90) (hl : xs.length ≤ 100) (k : Nat) (hk : xs.length + 1 ≤ k) : source_within.f k xs = some (xs.all goodIn) := by
  unfold source_within.f
  refine loop_every xs z90 (fun k i => source_within.l0 k xs (xs.length : Int) i) goodIn 0 ?_ ?_ k (by omega)
  · intro k i _ hi
    simp only [source_within.l0]
    rw [if_pos (by omega), if_pos (by omega), if_pos (by omega), w64 _ (by omega) (by omega), rdF]
    generalize xs.getD i z90 = f
    unfold goodIn inR
    by_cases h1 : f.f1 = true
    · rw [if_pos h1, h1]
      by_cases h2 : f.f0 < 0
      · rw [if_pos h2, if_neg (by simp; omega)]
      · rw [if_neg h2]
        by_cases h3 : f.f0 ≥ f.f2
        · rw [if_pos h3, if_neg (by simp; omega)]
        · rw [if_neg h3, if_pos (by simp; omega)]; rfl
    · rw [if_neg h1, if_pos (by simp [h1])]; rfl
  · intro k _
    simp only [source_within.l0]
    rw [if_neg (by omega)]
theorem blank_is (xs : List S90) (hl : xs.length ≤ 100) (k : Nat) (hk : xs.length + 1 ≤ k) : source_blank.f k xs = some (xs.all goodBl) := by
  unfold source_blank.f
  refine loop_every xs z90 (fun k i => source_blank.l0 k xs (xs.length : Int) i) goodBl 0 ?_ ?_ k (by omega)
  · intro k i _ hi
    simp only [source_blank.l0]
    rw [if_pos (by omega), if_pos (by omega), if_pos (by omega), w64 _ (by omega) (by omega), rdF]
    generalize xs.getD i z90 = f
    unfold goodBl
    by_cases h1 : f.f1 = true
    · rw [if_pos h1, if_pos (by simp [h1])]; rfl
    · rw [if_neg h1]
      by_cases h2 : f.f0 = 0
      · rw [if_pos h2, if_pos (by simp [h2])]; rfl
      · rw [if_neg h2, if_neg (by simp [h1, h2])]
  · intro k _
    simp only [source_blank.l0]
    rw [if_neg (by omega)]
theorem srcInstr_is (op d a b imm regs : Int) (k : Nat) (hk : 5 ≤ k) : source_Instr.f k op d a b imm regs = some (spInstr op d a b imm regs) := by
  unfold source_Instr.f spInstr
  rw [of_is, source_is]
  simp only [Option.bind_some, decide_eq_true_eq]
  rw [within_is _ (by simp) k (by simp; omega), blank_is _ (by simp) k (by simp; omega)]
  simp only [Option.bind_some]
  have hW : ([⟨d, uD op, regs⟩, ⟨a, uA op, regs⟩, ⟨b, uB op, regs⟩].all goodIn = true) ↔ ((uD op = true → inR d regs = true) ∧ (uA op = true → inR a regs = true) ∧ (uB op = true → inR b regs = true)) := by
    simp only [List.all_cons, List.all_nil, goodIn, Bool.and_true, Bool.and_eq_true, Bool.or_eq_true, Bool.not_eq_true']
    cases uD op <;> cases uA op <;> cases uB op <;> simp
  have hB : ([⟨d, uD op, regs⟩, ⟨a, uA op, regs⟩, ⟨b, uB op, regs⟩].all goodBl = true) ↔ ((uD op = false → d = 0) ∧ (uA op = false → a = 0) ∧ (uB op = false → b = 0)) := by
    simp only [List.all_cons, List.all_nil, goodBl, Bool.and_true, Bool.and_eq_true, Bool.or_eq_true, decide_eq_true_eq]
    cases uD op <;> cases uA op <;> cases uB op <;> simp
  by_cases h0 : 1 ≤ op ∧ op ≤ 17
  · rw [if_pos h0, if_pos h0]
    by_cases h1 : (uD op = true → inR d regs = true) ∧ (uA op = true → inR a regs = true) ∧ (uB op = true → inR b regs = true)
    · rw [if_pos (hW.2 h1), if_pos h1]
      by_cases h2 : (uD op = false → d = 0) ∧ (uA op = false → a = 0) ∧ (uB op = false → b = 0)
      · rw [if_pos (hB.2 h2), if_pos h2]
        by_cases h3 : op = 1
        · rw [if_pos h3, if_pos h3]
        · rw [if_neg h3, if_neg h3]
          by_cases h4 : imm = 0
          · rw [if_pos h4, if_pos h4]
          · rw [if_neg h4, if_neg h4]
      · rw [if_neg (fun h => h2 (hB.1 h)), if_neg h2]
    · rw [if_neg (fun h => h1 (hW.1 h)), if_neg h1]
  · rw [if_neg h0, if_neg h0]
theorem srcTerm_is (kind a tgt els regs blocks : Int) (k : Nat) (hk : 6 ≤ k) : source_Term.f k kind a tgt els regs blocks = some (spTerm kind a tgt els regs blocks) := by
  obtain ⟨k, rfl⟩ : ∃ m, k = m + 1 := ⟨k - 1, by omega⟩
  have key : ∀ c : Bool, source_Term.j0 (k + 1) c a (kind != 1) regs tgt (kind != 3) blocks els (kind == 2) blocks = some (if c = true then 16
      else if kind ≠ 1 → inR a regs = true then
        if (kind ≠ 3 → inR tgt blocks = true) ∧ (kind = 2 → inR els blocks = true) then
          if (kind = 1 → a = 0) ∧ (kind = 3 → tgt = 0) ∧ (kind ≠ 2 → els = 0) then 0 else 12
        else 11
      else 9) := by
    intro c
    simp only [source_Term.j0]
    rw [within_is _ (by simp) k (by simp; omega), within_is _ (by simp) k (by simp; omega), blank_is _ (by simp) k (by simp; omega)]
    simp only [Option.bind_some]
    cases c
    · simp only [Bool.false_eq_true, if_false]
      have hA : (([⟨a, kind != 1, regs⟩] : List S90).all goodIn = true) ↔ (kind ≠ 1 → inR a regs = true) := by
        by_cases h : kind = 1 <;> simp [goodIn, h]
      have hT : (([⟨tgt, kind != 3, blocks⟩, ⟨els, kind == 2, blocks⟩] : List S90).all goodIn = true) ↔ ((kind ≠ 3 → inR tgt blocks = true) ∧ (kind = 2 → inR els blocks = true)) := by
        by_cases h : kind = 3 <;> by_cases h' : kind = 2 <;> simp [goodIn, h, h']
      have hB : (([⟨a, kind != 1, regs⟩, ⟨tgt, kind != 3, blocks⟩, ⟨els, kind == 2, blocks⟩] : List S90).all goodBl = true) ↔ ((kind = 1 → a = 0) ∧ (kind = 3 → tgt = 0) ∧ (kind ≠ 2 → els = 0)) := by
        by_cases h : kind = 1 <;> by_cases h' : kind = 2 <;> by_cases h'' : kind = 3 <;> simp [goodBl, h, h', h'']
      by_cases h1 : kind ≠ 1 → inR a regs = true
      · rw [if_pos (hA.2 h1), if_pos h1]
        by_cases h2 : (kind ≠ 3 → inR tgt blocks = true) ∧ (kind = 2 → inR els blocks = true)
        · rw [if_pos (hT.2 h2), if_pos h2]
          by_cases h3 : (kind = 1 → a = 0) ∧ (kind = 3 → tgt = 0) ∧ (kind ≠ 2 → els = 0)
          · rw [if_pos (hB.2 h3), if_pos h3]
          · rw [if_neg (fun h => h3 (hB.1 h)), if_neg h3]
        · rw [if_neg (fun h => h2 (hT.1 h)), if_neg h2]
      · rw [if_neg (fun h => h1 (hA.1 h)), if_neg h1]
    · simp only [if_true]
  unfold source_Term.f spTerm
  by_cases h0 : kind < 1
  · rw [if_pos h0, key, if_pos rfl, if_neg (by omega)]
  · rw [if_neg h0, key]
    by_cases h3 : kind > 3
    · rw [if_pos (by simpa using h3), if_neg (by omega)]
    · rw [if_neg (by simpa using h3), if_pos (c := 1 ≤ kind ∧ kind ≤ 3) (by omega)]

/-! ### a block, a function -/
def insErr (regs : Int) (i : S52) : Option Int := if spInstr i.f0 i.f1 i.f2 i.f3 i.f4 regs = 0 then none else some (spInstr i.f0 i.f1 i.f2 i.f3 i.f4 regs)
def spBlock (regs n : Int) (b : S68) : Int := (b.f0.findSome? (insErr regs)).getD (spTerm b.f1.f0 b.f1.f1 b.f1.f2 b.f1.f3 regs n)
def blkErr (regs n : Int) (b : S68) : Option Int := if spBlock regs n b = 0 then none else some (spBlock regs n b)
def codeLen : List S68 → Nat
  | [] => 0
  | b :: r => b.f0.length + codeLen r
def spCheck (args regs : Int) (bs : List S68) : Int :=
  if args < 0 ∨ args > regs then 9
  else if regs > 1048576 then 6
  else if bs.length = 0 then 14
  else if bs.length > 1048576 ∨ codeLen bs > 1048576 then 6
  else (bs.findSome? (blkErr regs bs.length)).getD 0
/-- Few blocks, none of them long. -/
def Fine (bs : List S68) : Prop := bs.length ≤ 100000 ∧ ∀ b ∈ bs, b.f0.length ≤ 100000
theorem codeLen_le (bs : List S68) (h : ∀ b ∈ bs, b.f0.length ≤ 100000) : codeLen bs ≤ 100000 * bs.length := by
  induction bs with
  | nil => simp [codeLen]
  | cons b r ih =>
    have h1 := h b (by simp)
    have h2 := ih (fun c hc => h c (by simp [hc]))
    simp only [codeLen, List.length_cons]
    omega
theorem rdI (xs : List S52) (i : Nat) : rd_T52 xs (i : Int) = xs.getD i z52 := by unfold rd_T52; rw [Int.toNat_natCast]
theorem rdB (xs : List S68) (i : Nat) : rd_T68 xs (i : Int) = xs.getD i z68 := by unfold rd_T68; rw [Int.toNat_natCast]
theorem srcBlock_is (b : S68) (hb : b.f0.length ≤ 100000) (regs n : Int) (k : Nat) (hk : b.f0.length + 10 ≤ k) :
    source_block.f k b.f0 b.f1.f0 b.f1.f1 b.f1.f2 b.f1.f3 regs n = some (spBlock regs n b) := by
  unfold source_block.f spBlock
  refine loop_find b.f0 z52 (fun k i => source_block.l0 k regs n b.f0 (b.f0.length : Int) i b.f0 b.f1.f0 b.f1.f1 b.f1.f2 b.f1.f3) (insErr regs) _ 6 ?_ ?_ k (by omega)
  · intro k i hk hi
    have e := srcInstr_is (b.f0.getD i z52).f0 (b.f0.getD i z52).f1 (b.f0.getD i z52).f2 (b.f0.getD i z52).f3 (b.f0.getD i z52).f4 regs k (by omega)
    simp only [source_block.l0]
    rw [if_pos (by omega), if_pos (by omega), if_pos (by omega), w64 _ (by omega) (by omega), rdI, e]
    simp only [Option.bind_some]
    unfold insErr
    by_cases h : spInstr (b.f0.getD i z52).f0 (b.f0.getD i z52).f1 (b.f0.getD i z52).f2 (b.f0.getD i z52).f3 (b.f0.getD i z52).f4 regs = 0
    · exact .inr ⟨by rw [if_pos h], by rw [if_pos h]; rfl⟩
    · exact .inl ⟨_, by rw [if_neg h], by rw [if_neg h]⟩
  · intro k hk
    simp only [source_block.l0]
    rw [if_neg (by omega), srcTerm_is _ _ _ _ _ _ k hk]
    rfl
theorem srcCode_is (args regs : Int) (bs : List S68) (hf : Fine bs) (k : Nat) (hk : bs.length + 1 ≤ k) : source_Code.f k args regs bs = some (codeLen bs : Int) := by
  unfold source_Code.f
  have h := loop_all bs z68 (fun k (s : Nat) i => source_Code.l0 k (s : Int) bs (bs.length : Int) i) (fun s b => .inr (s + b.f0.length)) (fun s => (s : Int)) (fun i s => s ≤ 100000 * i) 0
    (fun k s i _ hi hI => by
      have hb := hf.2 _ (getD_in z68 hi)
      have := hf.1
      refine .inr ⟨_, rfl, by omega, ?_⟩
      simp only [source_Code.l0]
      rw [if_pos (by omega), if_pos (by omega), if_pos (by omega), rdB, w64 _ (by omega) (by omega), w64 _ (by omega) (by omega)]
      rfl)
    (fun k s _ _ => by
      simp only [source_Code.l0]
      rw [if_neg (by omega)]) k 0 (by omega) (by omega)
  rw [show ((0 : Nat) : Int) = 0 from rfl] at h
  rw [h]
  congr 1
  have : ∀ (l : List S68) (s : Nat), runL (α := S68) (σ := Nat) (ρ := Int) (fun s b => .inr (s + b.f0.length)) (fun s => (s : Int)) s l = ((s + codeLen l : Nat) : Int) := by
    intro l
    induction l with
    | nil => intro s; simp [runL_nil, codeLen]
    | cons b r ih =>
      intro s
      rw [runL_inr (s' := s + b.f0.length) rfl, ih]
      simp only [codeLen]
      congr 1
      omega
  rw [this, Nat.zero_add]
theorem srcCheck_is (args regs : Int) (bs : List S68) (hf : Fine bs) (k : Nat) (hk : bs.length + 100020 ≤ k) : source_Check.f k args regs bs = some (spCheck args regs bs) := by
  obtain ⟨k, rfl⟩ : ∃ m, k = m + 1 := ⟨k - 1, by omega⟩
  have hl := hf.1
  have key : ∀ c : Bool, source_Check.j0 (k + 1) c args regs bs = some (if c = true then 9 else if regs > 1048576 then 6 else if bs.length = 0 then 14 else if bs.length > 1048576 ∨ codeLen bs > 1048576 then 6 else (bs.findSome? (blkErr regs bs.length)).getD 0) := by
    intro c
    simp only [source_Check.j0]
    rw [srcCode_is args regs bs hf k (by omega)]
    simp only [Option.bind_some]
    cases c
    · simp only [Bool.false_eq_true, if_false]
      by_cases h1 : regs > 1048576
      · rw [if_pos h1, if_pos h1]
      · rw [if_neg h1, if_neg h1]
        by_cases h2 : bs.length = 0
        · rw [if_pos (by omega), if_pos h2]
        · rw [if_neg (by omega), if_neg h2, if_neg (by omega)]
          by_cases h3 : codeLen bs > 1048576
          · rw [if_pos (by omega), if_pos (.inr h3)]
          · rw [if_neg (by omega), if_neg (by omega)]
            refine loop_find bs z68 (fun k i => source_Check.l0 k bs (bs.length : Int) i args regs bs) (blkErr regs bs.length) 0 100010 ?_ ?_ k (by omega)
            · intro k i hk hi
              have hb := hf.2 _ (getD_in z68 hi)
              simp only [source_Check.l0]
              rw [if_pos (by omega), if_pos (by omega), if_pos (by omega), w64 _ (by omega) (by omega), rdB, srcBlock_is _ hb regs _ k (by omega)]
              simp only [Option.bind_some]
              unfold blkErr
              by_cases h : spBlock regs (bs.length : Int) (bs.getD i z68) = 0
              · exact .inr ⟨by rw [if_pos h], by rw [if_pos h]; rfl⟩
              · exact .inl ⟨_, by rw [if_neg h], by rw [if_neg h]⟩
            · intro k hk
              simp only [source_Check.l0]
              rw [if_neg (by omega)]
    · simp only [if_true]
  unfold source_Check.f spCheck
  by_cases h0 : args < 0
  · rw [if_pos h0, key, if_pos rfl, if_pos (.inl h0)]
  · rw [if_neg h0, key]
    by_cases h1 : args > regs
    · rw [if_pos (by simpa using h1), if_pos (.inr h1)]
    · rw [if_neg (by simpa using h1), if_neg (c := args < 0 ∨ args > regs) (by omega)]

/-! ### the reference's word for a small function -/
def spFew (regs : Int) (bs : List S68) : Bool := decide (bs.length ≤ 40 ∧ regs ≤ 60 ∧ (∀ b ∈ bs, b.f0.length ≤ 100) ∧ codeLen bs ≤ 300)
theorem few_fine {regs : Int} {bs : List S68} (h : spFew regs bs = true) : Fine bs ∧ bs.length ≤ 40 ∧ regs ≤ 60 ∧ codeLen bs ≤ 300 ∧ ∀ b ∈ bs, b.f0.length ≤ 100 := by
  unfold spFew at h
  rw [decide_eq_true_eq] at h
  exact ⟨⟨by omega, fun b hb => by have := h.2.2.1 b hb; omega⟩, h.1, h.2.1, h.2.2.2, h.2.2.1⟩
theorem refCode_is (args regs : Int) (bs : List S68) (hf : Fine bs) (k : Nat) (hk : bs.length + 1 ≤ k) : regcertref07_Code.f k args regs bs = some (codeLen bs : Int) := by
  unfold regcertref07_Code.f
  have h := loop_all bs z68 (fun k (s : Nat) i => regcertref07_Code.l0 k (s : Int) i args regs bs) (fun s b => .inr (s + b.f0.length)) (fun s => (s : Int)) (fun i s => s ≤ 100000 * i) 0
    (fun k s i _ hi hI => by
      have hb := hf.2 _ (getD_in z68 hi)
      have := hf.1
      refine .inr ⟨_, rfl, by omega, ?_⟩
      simp only [regcertref07_Code.l0]
      rw [if_pos (by omega), if_pos (by omega), rdB, w64 _ (by omega) (by omega), w64 _ (by omega) (by omega)]
      rfl)
    (fun k s _ _ => by
      simp only [regcertref07_Code.l0]
      rw [if_neg (by omega)]) k 0 (by omega) (by omega)
  rw [show ((0 : Nat) : Int) = 0 from rfl] at h
  rw [h]
  congr 1
  have : ∀ (l : List S68) (s : Nat), runL (α := S68) (σ := Nat) (ρ := Int) (fun s b => .inr (s + b.f0.length)) (fun s => (s : Int)) s l = ((s + codeLen l : Nat) : Int) := by
    intro l
    induction l with
    | nil => intro s; simp [runL_nil, codeLen]
    | cons b r ih =>
      intro s
      rw [runL_inr (s' := s + b.f0.length) rfl, ih]
      simp only [codeLen]
      congr 1
      omega
  rw [this, Nat.zero_add]
theorem few_is (args regs : Int) (bs : List S68) (k : Nat) (hk : bs.length + 50 ≤ k) : regcertref07_Few.f k args regs bs = some (spFew regs bs) := by
  obtain ⟨k, rfl⟩ : ∃ m, k = m + 1 := ⟨k - 1, by omega⟩
  unfold regcertref07_Few.f
  have hno : ¬ (bs.length ≤ 40 ∧ regs ≤ 60) → spFew regs bs = false := by
    intro h
    unfold spFew
    exact decide_eq_false (fun h' => h ⟨h'.1, h'.2.1⟩)
  by_cases h1 : bs.length > 40
  · rw [if_pos (by omega), hno (by omega)]
    simp only [regcertref07_Few.j0, if_true]
  · rw [if_neg (by omega)]
    by_cases h2 : regs > 60
    · rw [decide_eq_true h2, hno (by omega)]
      simp only [regcertref07_Few.j0, if_true]
    · rw [decide_eq_false h2]
      simp only [regcertref07_Few.j0, Bool.false_eq_true, if_false]
      have key : ∀ (d i k : Nat), i + d = bs.length → d + bs.length + 2 ≤ k → (∀ j, j < i → (bs.getD j z68).f0.length ≤ 100) → regcertref07_Few.l0 k (i : Int) args regs bs = some (spFew regs bs) := by
        intro d
        induction d with
        | zero =>
          intro i k hi hk hall
          obtain ⟨k, rfl⟩ : ∃ m, k = m + 1 := ⟨k - 1, by omega⟩
          have hb : ∀ b ∈ bs, b.f0.length ≤ 100 := by
            intro b hb
            obtain ⟨j, hj, rfl⟩ := List.getElem_of_mem hb
            have := hall j (by omega)
            rwa [List.getD_eq_getElem?_getD, List.getElem?_eq_getElem hj] at this
          simp only [regcertref07_Few.l0]
          rw [if_neg (by omega), refCode_is args regs bs ⟨by omega, fun b h => by have := hb b h; omega⟩ k (by omega)]
          simp only [Option.bind_some]
          congr 1
          unfold spFew
          rw [decide_eq_decide]
          exact ⟨fun h => ⟨by omega, by omega, hb, by omega⟩, fun h => by have := h.2.2.2; omega⟩
        | succ d ih =>
          intro i k hi hk hall
          obtain ⟨k, rfl⟩ : ∃ m, k = m + 1 := ⟨k - 1, by omega⟩
          simp only [regcertref07_Few.l0]
          rw [if_pos (by omega), if_pos (by omega), rdB]
          by_cases h : (bs.getD i z68).f0.length > 100
          · rw [if_pos (by omega)]
            congr 1
            unfold spFew
            exact (decide_eq_false (fun h' => by have := h'.2.2.1 _ (getD_in z68 (show i < bs.length by omega)); omega)).symm
          · rw [if_neg (by omega), w64 _ (by omega) (by omega), show (i : Int) + 1 = ((i + 1 : Nat) : Int) from by omega]
            refine ih (i + 1) k (by omega) (by omega) (fun j hj => ?_)
            rcases Nat.lt_or_ge j i with hlt | hge
            · exact hall j hlt
            · obtain rfl : j = i := by omega
              omega
      exact key bs.length 0 k (by omega) (by omega) (fun j hj => by omega)
def okBlock (regs n : Int) (b : S68) : Bool := b.f0.all (fun i => decide (spInstr i.f0 i.f1 i.f2 i.f3 i.f4 regs = 0)) && decide (spTerm b.f1.f0 b.f1.f1 b.f1.f2 b.f1.f3 regs n = 0)
theorem find_all {α : Type} (xs : List α) (f : α → Int) : (xs.findSome? (fun x => if f x = 0 then none else some (f x))) = none ↔ xs.all (fun x => decide (f x = 0)) = true := by
  induction xs with
  | nil => simp
  | cons x r ih =>
    rw [List.findSome?_cons, List.all_cons]
    by_cases h : f x = 0
    · rw [if_pos h]; simp [h, ih]
    · rw [if_neg h]; simp [h]
theorem find_zero {α : Type} (xs : List α) (f : α → Int) (e : Int) : (xs.findSome? (fun x => if f x = 0 then none else some (f x))).getD e = 0 ↔ (xs.all (fun x => decide (f x = 0)) = true ∧ e = 0) := by
  induction xs with
  | nil => simp
  | cons x r ih =>
    rw [List.findSome?_cons, List.all_cons]
    by_cases h : f x = 0
    · rw [if_pos h]; simp only [h, decide_true, Bool.true_and]; exact ih
    · rw [if_neg h]; simp [h]
theorem spBlock_zero (regs n : Int) (b : S68) : spBlock regs n b = 0 ↔ okBlock regs n b = true := by
  unfold spBlock okBlock insErr
  rw [find_zero b.f0 (fun i => spInstr i.f0 i.f1 i.f2 i.f3 i.f4 regs), Bool.and_eq_true, decide_eq_true_eq]
theorem spCheck_zero (args regs : Int) (bs : List S68) (h : spFew regs bs = true) : spCheck args regs bs = 0 ↔ (args ≥ 0 ∧ args ≤ regs ∧ 0 < bs.length ∧ bs.all (okBlock regs bs.length) = true) := by
  obtain ⟨_, h1, h2, h3, _⟩ := few_fine h
  unfold spCheck
  by_cases c0 : args < 0 ∨ args > regs
  · rw [if_pos c0]; constructor
    · intro h; cases h
    · omega
  · rw [if_neg c0, if_neg (by omega)]
    by_cases c1 : bs.length = 0
    · rw [if_pos c1]; constructor
      · intro h; cases h
      · omega
    · rw [if_neg c1, if_neg (by omega)]
      unfold blkErr
      rw [find_zero bs (fun b => spBlock regs bs.length b)]
      have e : bs.all (fun x => decide (spBlock regs bs.length x = 0)) = bs.all (okBlock regs bs.length) := by
        congr 1
        funext x
        rw [Bool.eq_iff_iff, decide_eq_true_eq, spBlock_zero]
      rw [e]
      constructor
      · intro h; exact ⟨by omega, by omega, by omega, h.1⟩
      · intro h; exact ⟨h.2.2.2, rfl⟩

/-! ### the fixed examples -/
theorem nums_loop (xs ys : List Int) (hl : xs.length = ys.length) (hm : xs.length ≤ 1000) (k : Nat) (hk : xs.length + 1 ≤ k) : regcertref07_Numbers.f k xs ys = some ((List.zip xs ys).all fun p => decide (p.1 = p.2)) := by
  unfold regcertref07_Numbers.f
  rw [if_pos (by omega)]
  have hz : (List.zip xs ys).length = xs.length := by rw [List.length_zip]; omega
  refine loop_every (List.zip xs ys) (0, 0) (fun k i => regcertref07_Numbers.l0 k xs ys i) (fun p => decide (p.1 = p.2)) 0 ?_ ?_ k (by omega)
  · intro k i _ hi
    have e : (List.zip xs ys).getD i (0, 0) = (xs.getD i 0, ys.getD i 0) := by
      rw [List.getD_eq_getElem?_getD, List.getElem?_eq_getElem hi, List.getElem_zip]
      simp [List.getD_eq_getElem?_getD, List.getElem?_eq_getElem (show i < xs.length by omega), List.getElem?_eq_getElem (show i < ys.length by omega)]
    simp only [regcertref07_Numbers.l0]
    rw [if_pos (by omega), if_pos (by omega), if_pos (by omega), w64 _ (by omega) (by omega), e]
    unfold rd
    rw [Int.toNat_natCast]
    by_cases h : xs.getD i 0 = ys.getD i 0
    · rw [if_pos h, if_pos (by simpa using h)]; rfl
    · rw [if_neg h, if_neg (by simpa using h)]
  · intro k _
    simp only [regcertref07_Numbers.l0]
    rw [if_neg (by omega)]
theorem awake_is (k : Nat) (hk : 200000 ≤ k) : regcertlaw07_awake.f k = some true := by
  unfold regcertlaw07_awake.f
  have hf : Fine [(⟨[], ⟨3, 0, 0, 0⟩⟩ : S68)] := ⟨by decide, by simp⟩
  simp only [Option.bind_some]
  rw [srcCheck_is 0 1 _ hf k (by simp; omega), srcCheck_is 0 0 _ hf k (by simp; omega), srcCheck_is 0 0 [] ⟨by decide, by simp⟩ k (by simp; omega), srcInstr_is _ _ _ _ _ _ k (by omega), srcTerm_is _ _ _ _ _ _ k (by omega), srcCode_is 0 1 _ hf k (by simp; omega)]
  simp only [Option.bind_some]
  rw [if_pos (by decide), if_pos (by decide), if_pos (by decide), if_pos (by decide), if_pos (by decide)]
  have hs : source_Successors.f 2 0 3 3 = some [3, 3] := rfl
  rw [hs]
  simp only [Option.bind_some]
  rw [nums_loop _ _ rfl (by decide) k (by simp; omega)]
  rfl

end Go.Proofs.Ytndbpljldmnkcaa.LSourceCheck
namespace Go.Proofs.Ytndbpljldmnkcaa.Pure
open Go.RowKit Go.Proofs.Ytndbpljldmnkcaa.PSourceCheck Go.Proofs.YtndbpljldmnkcaaW.PrintWords Go.Proofs.YtndbpljldmnkcaaW.PrintLast Go.Proofs.Ytndbpljldmnkcaa.LT Go.Proofs.Ytndbpljldmnkcaa.LSourceCheck

theorem run_and {α : Type} (good : α → Bool) (fin : Bool → Bool) (l : List α) : ∀ s : Bool, runL (α := α) (σ := Bool) (ρ := Bool) (fun ok x => .inr (ok && good x)) fin s l = fin (s && l.all good) := by
  induction l with
  | nil => intro s; simp [runL_nil]
  | cons x r ih => intro s; rw [runL_inr (s' := s && good x) rfl, ih, List.all_cons, Bool.and_assoc]
theorem law_l1 (args regs : Int) (bs : List S68) (hl : bs.length ≤ 40) (i : Nat) (hi : i < bs.length) (hb : (bs.getD i z68).f0.length ≤ 100) (R : Bool → Bool) (K : Nat)
    (h0 : ∀ ok k, K ≤ k → regcertlaw07_SourceCheck.l0 k ok ((i + 1 : Nat) : Int) args regs bs = some (R ok)) (k : Nat) (ok : Bool) (hk : K + 130 ≤ k) :
    regcertlaw07_SourceCheck.l1 k ok (i : Int) 0 args regs bs = some (R (ok && okBlock regs bs.length (bs.getD i z68))) := by
  have h := loop_all (bs.getD i z68).f0 z52 (fun k ok j => regcertlaw07_SourceCheck.l1 k ok (i : Int) j args regs bs) (fun ok x => .inr (ok && decide (spInstr x.f0 x.f1 x.f2 x.f3 x.f4 regs = 0)))
    (fun ok => R (ok && decide (spTerm (bs.getD i z68).f1.f0 (bs.getD i z68).f1.f1 (bs.getD i z68).f1.f2 (bs.getD i z68).f1.f3 regs bs.length = 0))) (fun _ _ => True) (K + 20)
    (fun k ok j hk hj _ => by
      refine .inr ⟨_, rfl, trivial, ?_⟩
      simp only [regcertlaw07_SourceCheck.l1]
      rw [if_pos (by omega), if_pos (by omega), rdB, if_pos (by omega)]
      cases ok
      · simp only [Bool.false_eq_true, if_false, Bool.false_and]
        rw [w64 _ (by omega) (by omega)]
        rfl
      · simp only [if_true, Bool.true_and]
        rw [if_pos (by omega), rdI, srcInstr_is _ _ _ _ _ _ k (by omega), w64 _ (by omega) (by omega)]
        simp only [Option.bind_some]
        congr 1)
    (fun k ok hk _ => by
      simp only [regcertlaw07_SourceCheck.l1]
      rw [if_pos (by omega), if_pos (by omega), rdB, if_neg (by omega), w64 ((i : Int) + 1) (by omega) (by omega)]
      cases ok
      · simp only [Bool.false_eq_true, if_false, Bool.false_and]
        exact h0 false k (by omega)
      · simp only [if_true, Bool.true_and]
        rw [srcTerm_is _ _ _ _ _ _ k (by omega)]
        simp only [Option.bind_some]
        exact h0 _ k (by omega)) k ok (by omega) trivial
  rw [h]
  congr 1
  rw [run_and]
  unfold okBlock
  rw [Bool.and_assoc]
theorem law_l0 (args regs : Int) (bs : List S68) (h : spFew regs bs = true) (d : Nat) : ∀ (i k : Nat) (ok : Bool), i + d = bs.length → 200000 + d * 140 ≤ k →
    regcertlaw07_SourceCheck.l0 k ok (i : Int) args regs bs = some ((ok && (bs.drop i).all (okBlock regs bs.length)) == (decide (spCheck args regs bs = 0))) := by
  obtain ⟨hf, h1, h2, h3, h4⟩ := few_fine h
  induction d with
  | zero =>
    intro i k ok hi hk
    obtain ⟨k, rfl⟩ : ∃ m, k = m + 1 := ⟨k - 1, by omega⟩
    simp only [regcertlaw07_SourceCheck.l0]
    rw [if_neg (by omega), srcCheck_is args regs bs hf k (by omega), List.drop_eq_nil_of_le (by omega)]
    simp only [Option.bind_some, List.all_nil, Bool.and_true]
    rfl
  | succ d ih =>
    intro i k ok hi hk
    obtain ⟨k, rfl⟩ : ∃ m, k = m + 1 := ⟨k - 1, by omega⟩
    simp only [regcertlaw07_SourceCheck.l0]
    rw [if_pos (by omega), drop_getD z68 (show i < bs.length by omega), List.all_cons, ← Bool.and_assoc]
    exact law_l1 args regs bs h1 i (by omega) (h4 _ (getD_in z68 (by omega))) (fun ok => (ok && (bs.drop (i + 1)).all (okBlock regs bs.length)) == (decide (spCheck args regs bs = 0))) (200000 + d * 140) (fun ok k hk => ih (i + 1) k ok (by omega) hk) k ok (by omega)
theorem SourceCheck : regcertlaw07_SourceCheck.Pure := by
  intro x hx
  obtain ⟨args, regs, bs⟩ := x
  simp only
  refine ⟨bs.length + 300000, ?_⟩
  generalize hn : bs.length + 300000 = n
  unfold regcertlaw07_SourceCheck.f
  rw [awake_is n (by omega), few_is args regs bs n (by omega)]
  simp only [Option.bind_some, if_true]
  obtain ⟨m, rfl⟩ : ∃ m, n = m + 3 := ⟨n - 3, by omega⟩
  by_cases hfew : spFew regs bs = true
  · obtain ⟨hf, h1, h2, h3, h4⟩ := few_fine hfew
    have hend : ∀ c : Bool, regcertlaw07_SourceCheck.j1 (m + 2) c args regs bs = some ((c && bs.all (okBlock regs bs.length)) == (decide (spCheck args regs bs = 0))) := by
      intro c
      simp only [regcertlaw07_SourceCheck.j1]
      have := law_l0 args regs bs hfew bs.length 0 (m + 1) c (by omega) (by omega)
      simpa using this
    have hz := spCheck_zero args regs bs hfew
    simp only [regcertlaw07_SourceCheck.j0]
    rw [hfew, if_neg (by decide)]
    by_cases c0 : args ≥ 0
    · rw [if_pos c0]
      by_cases c1 : args ≤ regs
      · rw [if_pos c1, hend]
        congr 1
        rw [beq_iff_eq, Bool.eq_iff_iff, Bool.and_eq_true, decide_eq_true_eq, decide_eq_true_eq, hz]
        constructor
        · intro h; exact ⟨c0, c1, by omega, h.2⟩
        · intro h; exact ⟨by omega, h.2.2.2⟩
      · rw [if_neg c1, hend]
        congr 1
        rw [beq_iff_eq, Bool.false_and]
        exact (decide_eq_false (fun h => c1 (hz.1 h).2.1)).symm
    · rw [if_neg c0, hend]
      congr 1
      rw [beq_iff_eq, Bool.false_and]
      exact (decide_eq_false (fun h => c0 (hz.1 h).1)).symm
  · rw [Bool.eq_false_iff.2 hfew]
    simp only [regcertlaw07_SourceCheck.j0, Bool.not_false, if_true]
    rw [awake_is (m + 2) (by omega)]
    rfl

end Go.Proofs.Ytndbpljldmnkcaa.Pure
