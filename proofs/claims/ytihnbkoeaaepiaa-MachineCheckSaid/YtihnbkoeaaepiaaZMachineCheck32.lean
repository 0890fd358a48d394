/- A function is accepted exactly if its counts are valid, all its instructions and terminators are, and no run of moves is longer than MaxMoves. No condition. -/
import Derived.Test.YtihnbkoeaaepiaaZMachineCheck31
import Derived.Test.YtihnbkoeaaepiaaZMachineCheck30
namespace Go.Proofs.Ytihnbkoeaaepiaa.LMachineCheck
open Go.RowKit Go.Proofs.Ytihnbkoeaaepiaa.PMachineCheck Go.Proofs.YtihnbkoeaaepiaaW.PrintWords Go.Proofs.YtihnbkoeaaepiaaW.PrintLast Go.Proofs.Ytihnbkoeaaepiaa.LT
def uD (op : Int) : Bool := decide (1 ≤ op ∧ op ≤ 16)
def uA (op : Int) : Bool := decide (2 ≤ op ∧ op ≤ 17)
def uB (op : Int) : Bool := decide (5 ≤ op ∧ op ≤ 16)
def inR (x n : Int) : Bool := decide (0 ≤ x ∧ x < n)
def spInstr (op d a b imm regs : Int) : Int :=
  if 1 ≤ op ∧ op ≤ 17 then
    if (uD op = true → inR d regs = true) ∧ (uA op = true → inR a regs = true) ∧ (uB op = true → inR b regs = true) then
      if (uD op = false → d = 0) ∧ (uA op = false → a = 0) ∧ (uB op = false → b = 0) then
        if op = 1 then 0 else if imm = 0 then 0 else 12
      else 12
    else 9
  else 8
def spTerm (kind a tgt els regs blocks : Int) : Int :=
  if 1 ≤ kind ∧ kind ≤ 3 then
    if kind ≠ 1 → inR a regs = true then
      if (kind ≠ 3 → inR tgt blocks = true) ∧ (kind = 2 → inR els blocks = true) then
        if (kind = 1 → a = 0) ∧ (kind = 3 → tgt = 0) ∧ (kind ≠ 2 → els = 0) then 0 else 12
      else 11
    else 9
  else 16
theorem of_is (op : Int) : opcode_Of.f op = some (uD op, uA op, uB op, decide (op = 1), decide (1 ≤ op ∧ op ≤ 18)) := by
  unfold opcode_Of.f opcode_known.f uD uA uB
  by_cases h0 : op ≥ 1
  · rw [if_pos h0]
    simp only [Option.bind_some, decide_eq_true_eq]
    by_cases h1 : op ≤ 18
    · rw [if_pos h1]
      by_cases h2 : op = 1
      · subst h2; rfl
      · rw [if_neg h2]
        by_cases h3 : op ≤ 4
        · rw [if_pos h3]
          simp only [Option.some.injEq, Prod.mk.injEq, true_eq_decide_iff, false_eq_decide_iff]; omega
        · rw [if_neg h3]
          by_cases h4 : op ≤ 16
          · rw [if_pos h4]
            simp only [Option.some.injEq, Prod.mk.injEq, true_eq_decide_iff, false_eq_decide_iff]; omega
          · rw [if_neg h4]
            rcases (show op = 17 ∨ op = 18 by omega) with rfl | rfl <;> rfl
    · rw [if_neg h1]
      simp only [Option.some.injEq, Prod.mk.injEq, false_eq_decide_iff]; omega
  · rw [if_neg h0]
    simp only [Option.bind_some, Bool.false_eq_true, if_false, Option.some.injEq, Prod.mk.injEq, false_eq_decide_iff]; omega
theorem source_is (op : Int) : opcode_Source.f op = some (decide (1 ≤ op ∧ op ≤ 17)) := by
  unfold opcode_Source.f opcode_known.f
  by_cases h0 : op ≥ 1
  · rw [if_pos h0]
    simp only [Option.bind_some, decide_eq_true_eq]
    by_cases h1 : op ≤ 18
    · rw [if_pos h1]
      by_cases h2 : op = 18
      · subst h2; rfl
      · rw [bne_iff_ne.2 h2]
        simp only [Option.some.injEq, true_eq_decide_iff]; omega
    · rw [if_neg h1]
      simp only [Option.some.injEq, false_eq_decide_iff]; omega
  · rw [if_neg h0]
    simp only [Option.bind_some, Bool.false_eq_true, if_false, Option.some.injEq, false_eq_decide_iff]; omega
def goodIn (f : S114) : Bool := !f.f1 || inR f.f0 f.f2
def goodBl (f : S114) : Bool := f.f1 || decide (f.f0 = 0)
theorem rdF (xs : List S114) (i : Nat) : rd_T114 xs (i : Int) = xs.getD i z114 := by unfold rd_T114; rw [Int.toNat_natCast]
theorem within_is (xs : List S114) (hl : xs.length ≤ 100) (k : Nat) (hk : xs.length + 1 ≤ k) : source_within.f k xs = some (xs.all goodIn) := by
  unfold source_within.f
  refine loop_every xs z114 (fun k i => source_within.l0 k xs (xs.length : Int) i) goodIn 0 ?_ ?_ k (by omega)
  · intro k i _ hi
    simp only [source_within.l0]
    rw [if_pos (by omega), if_pos (by omega), if_pos (by omega), w64 _ (by omega) (by omega), rdF]
    generalize xs.getD i z114 = f
    unfold goodIn inR
    by_cases h1 : f.f1 = true
    · rw [if_pos h1, h1]
      by_cases h2 : f.f0 < 0
      · rw [if_pos h2, if_neg (by simp; omega)]
      · rw [if_neg h2]
        by_cases h3 : f.f0 ≥ f.f2
        · rw [if_pos h3, if_neg (by simp; omega)]
        · rw [if_neg h3, if_pos (by simp; omega)]; rfl
    · rw [if_neg h1, if_pos (by simp [h1])]; rfl
  · intro k _
    simp only [source_within.l0]
    rw [if_neg (by omega)]
theorem blank_is (xs : List S114) (hl : xs.length ≤ 100) (k : Nat) (hk : xs.length + 1 ≤ k) : source_blank.f k xs = some (xs.all goodBl) := by
  unfold source_blank.f
  refine loop_every xs z114 (fun k i => source_blank.l0 k xs (xs.length : Int) i) goodBl 0 ?_ ?_ k (by omega)
  · intro k i _ hi
    simp only [source_blank.l0]
    rw [if_pos (by omega), if_pos (by omega), if_pos (by omega), w64 _ (by omega) (by omega), rdF]
    generalize xs.getD i z114 = f
    unfold goodBl
    by_cases h1 : f.f1 = true
    · rw [if_pos h1, if_pos (by simp [h1])]; rfl
    · rw [if_neg h1]
      by_cases h2 : f.f0 = 0
      · rw [if_pos h2, if_pos (by simp [h2])]; rfl
      · rw [if_neg h2, if_neg (by simp [h1, h2])]
  · intro k _
    simp only [source_blank.l0]
    rw [if_neg (by omega)]
theorem srcInstr_is (op d a b imm regs : Int) (k : Nat) (hk : 5 ≤ k) : source_Instr.f k op d a b imm regs = some (spInstr op d a b imm regs) := by
  unfold source_Instr.f spInstr
  rw [of_is, source_is]
  simp only [Option.bind_some, decide_eq_true_eq]
  rw [within_is _ (by simp) k (by simp; omega), blank_is _ (by simp) k (by simp; omega)]
  simp only [Option.bind_some]
  have hW : ([⟨d, uD op, regs⟩, ⟨a, uA op, regs⟩, ⟨b, uB op, regs⟩].all goodIn = true) ↔ ((uD op = true → inR d regs = true) ∧ (uA op = true → inR a regs = true) ∧ (uB op = true → inR b regs = true)) := by
    simp only [List.all_cons, List.all_nil, goodIn, Bool.and_true, Bool.and_eq_true, Bool.or_eq_true, Bool.not_eq_true']
    cases uD op <;> cases uA op <;> cases uB op <;> simp
  have hB : ([⟨d, uD op, regs⟩, ⟨a, uA op, regs⟩, ⟨b, uB op, regs⟩].all goodBl = true) ↔ ((uD op = false → d = 0) ∧ (uA op = false → a = 0) ∧ (uB op = false → b = 0)) := by
    simp only [List.all_cons, List.all_nil, goodBl, Bool.and_true, Bool.and_eq_true, Bool.or_eq_true, decide_eq_true_eq]
    cases uD op <;> cases uA op <;> cases uB op <;> simp
  by_cases h0 : 1 ≤ op ∧ op ≤ 17
  · rw [if_pos h0, if_pos h0]
    by_cases h1 : (uD op = true → inR d regs = true) ∧ (uA op = true → inR a regs = true) ∧ (uB op = true → inR b regs = true)
    · rw [if_pos (hW.2 h1), if_pos h1]
      by_cases h2 : (uD op = false → d = 0) ∧ (uA op = false → a = 0) ∧ (uB op = false → b = 0)
      · rw [if_pos (hB.2 h2), if_pos h2]
        by_cases h3 : op = 1
        · rw [if_pos h3, if_pos h3]
        · rw [if_neg h3, if_neg h3]
          by_cases h4 : imm = 0
          · rw [if_pos h4, if_pos h4]
          · rw [if_neg h4, if_neg h4]
      · rw [if_neg (fun h => h2 (hB.1 h)), if_neg h2]
    · rw [if_neg (fun h => h1 (hW.1 h)), if_neg h1]
  · rw [if_neg h0, if_neg h0]
theorem srcTerm_is (kind a tgt els regs blocks : Int) (k : Nat) (hk : 6 ≤ k) : source_Term.f k kind a tgt els regs blocks = some (spTerm kind a tgt els regs blocks) := by
  obtain ⟨k, rfl⟩ : ∃ m, k = m + 1 := ⟨k - 1, by omega⟩
  have key : ∀ c : Bool, source_Term.j0 (k + 1) c a (kind != 1) regs tgt (kind != 3) blocks els (kind == 2) blocks = some (if c = true then 16
      else if kind ≠ 1 → inR a regs = true then
        if (kind ≠ 3 → inR tgt blocks = true) ∧ (kind = 2 → inR els blocks = true) then
          if (kind = 1 → a = 0) ∧ (kind = 3 → tgt = 0) ∧ (kind ≠ 2 → els = 0) then 0 else 12
        else 11
      else 9) := by
    intro c
    simp only [source_Term.j0]
    rw [within_is _ (by simp) k (by simp; omega), within_is _ (by simp) k (by simp; omega), blank_is _ (by simp) k (by simp; omega)]
    simp only [Option.bind_some]
    cases c
    · simp only [Bool.false_eq_true, if_false]
      have hA : (([⟨a, kind != 1, regs⟩] : List S114).all goodIn = true) ↔ (kind ≠ 1 → inR a regs = true) := by
        by_cases h : kind = 1 <;> simp [goodIn, h]
      have hT : (([⟨tgt, kind != 3, blocks⟩, ⟨els, kind == 2, blocks⟩] : List S114).all goodIn = true) ↔ ((kind ≠ 3 → inR tgt blocks = true) ∧ (kind = 2 → inR els blocks = true)) := by
        by_cases h : kind = 3 <;> by_cases h' : kind = 2 <;> simp [goodIn, h, h']
      have hB : (([⟨a, kind != 1, regs⟩, ⟨tgt, kind != 3, blocks⟩, ⟨els, kind == 2, blocks⟩] : List S114).all goodBl = true) ↔ ((kind = 1 → a = 0) ∧ (kind = 3 → tgt = 0) ∧ (kind ≠ 2 → els = 0)) := by
        by_cases h : kind = 1 <;> by_cases h' : kind = 2 <;> by_cases h'' : kind = 3 <;> simp [goodBl, h, h', h'']
      by_cases h1 : kind ≠ 1 → inR a regs = true
      · rw [if_pos (hA.2 h1), if_pos h1]
        by_cases h2 : (kind ≠ 3 → inR tgt blocks = true) ∧ (kind = 2 → inR els blocks = true)
        · rw [if_pos (hT.2 h2), if_pos h2]
          by_cases h3 : (kind = 1 → a = 0) ∧ (kind = 3 → tgt = 0) ∧ (kind ≠ 2 → els = 0)
          · rw [if_pos (hB.2 h3), if_pos h3]
          · rw [if_neg (fun h => h3 (hB.1 h)), if_neg h3]
        · rw [if_neg (fun h => h2 (hT.1 h)), if_neg h2]
      · rw [if_neg (fun h => h1 (hA.1 h)), if_neg h1]
    · simp only [if_true]
  unfold source_Term.f spTerm
  by_cases h0 : kind < 1
  · rw [if_pos h0, key, if_pos rfl, if_neg (by omega)]
  · rw [if_neg h0, key]
    by_cases h3 : kind > 3
    · rw [if_pos (by simpa using h3), if_neg (by omega)]
    · rw [if_neg (by simpa using h3), if_pos (c := 1 ≤ kind ∧ kind ≤ 3) (by omega)]
theorem awake_is (k : Nat) (hk : 400 ≤ k) : regcertlaw08_awake.f k = some true := at_rounds regcertlaw08_awake.mono hk (show regcertlaw08_awake.f 400 = some true from by decide +kernel)
def good (a r s : Int) : Bool := decide (0 ≤ a ∧ (a % 2 = 0 ∧ a / 2 < r ∨ a % 2 = 1 ∧ a / 2 < s))
theorem slot_is (a : Int) : location_IsSlot.f a = some (decide (Int.tmod a 2 = 1)) := rfl
theorem opm_ex (op : Int) : ∃ b, opcode_Machine.f op = some b := by
  unfold opcode_Machine.f opcode_known.f
  by_cases h : op ≥ 1
  · rw [if_pos h]
    simp only [Option.bind_some]
    split <;> exact ⟨_, rfl⟩
  · rw [if_neg h]
    exact ⟨_, rfl⟩
theorem inr_ex (a r s : Int) : ∃ b, location_InRange.f a r s = some b := by
  unfold location_InRange.f
  rw [slot_is]
  unfold location_Index.f
  simp only [Option.bind_some]
  split <;> split <;> exact ⟨_, rfl⟩
theorem m2_ex (op d a b imm dst src : Int) : ∃ t, machine_moves_2.f op d a b imm dst src = some t := by
  unfold machine_moves_2.f
  split
  · split
    · split <;> exact ⟨_, rfl⟩
    · exact ⟨_, rfl⟩
  · exact ⟨_, rfl⟩
theorem o2_ex (op d a b imm dst src : Int) : ∃ t, machine_others_2.f op d a b imm dst src = some t := by
  unfold machine_others_2.f
  split <;> exact ⟨_, rfl⟩
theorem m1_ex (op d a b imm dst src r s : Int) : ∃ t, machine_moves_1.f 10 op d a b imm dst src r s = some t := by
  have hj : ∀ c, ∃ t, machine_moves_1.j0 10 r s c op d a b imm dst src = some t := by
    intro c
    unfold machine_moves_1.j0
    obtain ⟨x, hx⟩ := inr_ex dst r s
    obtain ⟨y, hy⟩ := inr_ex src r s
    simp only
    rw [hx, hy]
    cases c <;> cases x <;> cases y <;> exact ⟨_, rfl⟩
  unfold machine_moves_1.f
  rw [slot_is, slot_is]
  simp only [Option.bind_some]
  split
  · exact hj _
  · exact hj _
theorem instr_ex (op d a b imm dst src r s : Int) : ∃ e, ∀ k, 10 ≤ k → machine_Instr.f k op d a b imm dst src r s = some e := by
  have h : ∃ e, machine_Instr.f 10 op d a b imm dst src r s = some e := by
    obtain ⟨x, hx⟩ := opm_ex op
    obtain ⟨y, hy⟩ := m1_ex op d a b imm dst src r s
    obtain ⟨z, hz⟩ := m2_ex op d a b imm dst src
    obtain ⟨v, hv⟩ := o2_ex op d a b imm dst src
    have hu : machine_others_1.f 10 op d a b imm dst src r s = some (spInstr op d a b imm r) := by
      unfold machine_others_1.f
      rw [srcInstr_is op d a b imm r 10 (by decide)]
      rfl
    unfold machine_Instr.f
    rw [hx, hy, hz, hu, hv]
    simp only [Option.bind_some]
    split
    · split
      · split
        · split <;> exact ⟨_, rfl⟩
        · exact ⟨_, rfl⟩
      · split
        · split <;> exact ⟨_, rfl⟩
        · exact ⟨_, rfl⟩
    · exact ⟨_, rfl⟩
  obtain ⟨e, he⟩ := h
  exact ⟨e, fun k hk => at_rounds (machine_Instr.mono _ _ _ _ _ _ _ _ _) hk he⟩
theorem rdI (xs : List S67) (i : Nat) : rd_T67 xs (i : Int) = xs.getD i z67 := by unfold rd_T67; rw [Int.toNat_natCast]
theorem rdB (xs : List S74) (i : Nat) : rd_T74 xs (i : Int) = xs.getD i z74 := by unfold rd_T74; rw [Int.toNat_natCast]
def ei (r s : Int) (x : S67) : Int := (machine_Instr.f 10 x.f0 x.f1 x.f2 x.f3 x.f4 x.f5 x.f6 r s).getD 0
theorem ei_is (r s : Int) (x : S67) (k : Nat) (hk : 10 ≤ k) : machine_Instr.f k x.f0 x.f1 x.f2 x.f3 x.f4 x.f5 x.f6 r s = some (ei r s x) := by
  obtain ⟨e, he⟩ := instr_ex x.f0 x.f1 x.f2 x.f3 x.f4 x.f5 x.f6 r s
  unfold ei
  rw [he k hk, he 10 (by decide)]
  rfl
def gM (s : Int × Int) (x : S67) : Int × Int := if x.f0 = 18 then (mx s.1 (s.2 + 1), s.2 + 1) else (mx s.1 0, 0)
theorem run_fold {α σ ρ : Type} (g : σ → α → σ) (fin : σ → ρ) (l : List α) : ∀ s : σ, runL (ρ := ρ) (fun s x => .inr (g s x)) fin s l = fin (l.foldl g s) := by
  induction l with
  | nil => intro s; rfl
  | cons x r ih => intro s; rw [runL_inr (s' := g s x) rfl, ih]; rfl
theorem moves_is (xs : List S67) (hl : xs.length ≤ 1000) (k : Nat) (hk : xs.length + 1 ≤ k) : machine_Moves.f k xs = some (xs.foldl gM (0, 0)).1 := by
  unfold machine_Moves.f
  have h := loop_all xs z67 (fun k (s : Int × Int) i => machine_Moves.l0 k s.1 s.2 xs (xs.length : Int) i) (fun s x => .inr (gM s x)) (fun s => s.1) (fun i s => 0 ≤ s.2 ∧ s.2 ≤ i) 0
    (fun k s i _ hi hI => by
      refine .inr ⟨_, rfl, ?_, ?_⟩
      · unfold gM
        by_cases c : (xs.getD i z67).f0 = 18
        · rw [if_pos c]; simp only; omega
        · rw [if_neg c]; simp only; omega
      · obtain ⟨s1, s2⟩ := s
        simp only at hI
        simp only [machine_Moves.l0]
        rw [if_pos (by omega), if_pos (by omega), if_pos (by omega), rdI, w64 ((i : Int) + 1) (by omega) (by omega), w64 (s2 + 1) (by omega) (by omega)]
        unfold gM
        by_cases c : (xs.getD i z67).f0 = 18
        · rw [if_pos c, if_pos c]; rfl
        · rw [if_neg c, if_neg c]; rfl)
    (fun k s _ _ => by
      simp only [machine_Moves.l0]
      rw [if_neg (by omega)]) k (0, 0) (by omega) ⟨Int.le_refl _, Int.le_refl _⟩
  rw [run_fold] at h
  exact h
def stB (r s c : Int) (x : S67) : Int ⊕ Int := if ei r s x = 0 then (if x.f0 = 18 then (if c + 1 > 64 then .inl 15 else .inr (c + 1)) else .inr 0) else .inl (ei r s x)
def spBlk (r s n : Int) (b : S74) : Int := runL (stB r s) (fun _ => spTerm b.f1.f0 b.f1.f1 b.f1.f2 b.f1.f3 r n) 0 b.f0
theorem block_is (a r t : Int) (bs : List S74) (b : S74) (hl : b.f0.length ≤ 1000) (k : Nat) (hk : b.f0.length + 40 ≤ k) :
    machine_block.f k a r t bs b.f0 b.f1.f0 b.f1.f1 b.f1.f2 b.f1.f3 = some (spBlk r t bs.length b) := by
  unfold machine_block.f spBlk
  refine loop_all b.f0 z67 (fun k (c : Int) i => machine_block.l0 k c b.f0 (b.f0.length : Int) i a r t bs b.f0 b.f1.f0 b.f1.f1 b.f1.f2 b.f1.f3) (stB r t) _ (fun i c => 0 ≤ c ∧ c ≤ i) 30 ?_ ?_ k 0 (by omega) ⟨Int.le_refl _, Int.le_refl _⟩
  · intro k c i hk hi hI
    simp only [machine_block.l0]
    rw [if_pos (by omega), if_pos (by omega), if_pos (by omega), rdI, ei_is r t _ k (by omega), w64 ((i : Int) + 1) (by omega) (by omega), w64 (c + 1) (by omega) (by omega)]
    simp only [Option.bind_some]
    unfold stB
    by_cases c0 : ei r t (b.f0.getD i z67) = 0
    · rw [if_pos c0, if_pos c0]
      by_cases c1 : (b.f0.getD i z67).f0 = 18
      · rw [if_pos c1, if_pos c1]
        by_cases c2 : c + 1 > 64
        · exact .inl ⟨15, by rw [if_pos c2], by rw [if_pos c2]⟩
        · exact .inr ⟨c + 1, by rw [if_neg c2], ⟨by omega, by omega⟩, by rw [if_neg c2]; rfl⟩
      · rw [if_neg c1, if_neg c1]
        exact .inr ⟨0, rfl, ⟨Int.le_refl _, by omega⟩, by rw [if_neg (by decide)]; rfl⟩
    · rw [if_neg c0, if_neg c0]
      exact .inl ⟨_, rfl, rfl⟩
  · intro k c hk _
    simp only [machine_block.l0]
    rw [if_neg (by omega), srcTerm_is _ _ _ _ _ _ k (by omega)]
    rfl
theorem fold_ge (xs : List S67) : ∀ m c : Int, m ≤ (xs.foldl gM (m, c)).1 := by
  induction xs with
  | nil => intro m c; exact Int.le_refl _
  | cons x l ih =>
    intro m c
    rw [List.foldl_cons]
    unfold gM
    by_cases h : x.f0 = 18
    · rw [if_pos h]
      have := ih (mx m (c + 1)) (c + 1)
      have h2 : m ≤ mx m (c + 1) := by unfold mx; split <;> omega
      exact Int.le_trans h2 this
    · rw [if_neg h]
      have := ih (mx m 0) 0
      have h2 : m ≤ mx m 0 := by unfold mx; split <;> omega
      exact Int.le_trans h2 this
theorem block_zero (r s term : Int) (xs : List S67) : ∀ m c : Int, m ≤ 64 → 0 ≤ m → (runL (stB r s) (fun _ => term) c xs = 0 ↔ ((xs.all fun x => decide (ei r s x = 0)) = true ∧ (xs.foldl gM (m, c)).1 ≤ 64) ∧ term = 0) := by
  induction xs with
  | nil =>
    intro m c hm _
    rw [runL_nil]
    exact ⟨fun h => ⟨⟨rfl, hm⟩, h⟩, fun h => h.2⟩
  | cons x l ih =>
    intro m c hm hm0
    by_cases c0 : ei r s x = 0
    · rw [List.all_cons, decide_eq_true c0, Bool.true_and, List.foldl_cons]
      by_cases c1 : x.f0 = 18
      · have hg : gM (m, c) x = (mx m (c + 1), c + 1) := by unfold gM; rw [if_pos c1]
        rw [hg]
        by_cases c2 : c + 1 > 64
        · rw [runL_inl (r := 15) (by unfold stB; rw [if_pos c0, if_pos c1, if_pos c2])]
          have h1 := fold_ge l (mx m (c + 1)) (c + 1)
          have h2 : c + 1 ≤ mx m (c + 1) := by unfold mx; split <;> omega
          exact ⟨fun h => absurd h (by decide), fun h => by have := h.1.2; omega⟩
        · rw [runL_inr (s' := c + 1) (by unfold stB; rw [if_pos c0, if_pos c1, if_neg c2])]
          exact ih (mx m (c + 1)) (c + 1) (by unfold mx; split <;> omega) (by unfold mx; split <;> omega)
      · have hg : gM (m, c) x = (mx m 0, 0) := by unfold gM; rw [if_neg c1]
        rw [hg, runL_inr (s' := 0) (by unfold stB; rw [if_pos c0, if_neg c1])]
        exact ih (mx m 0) 0 (by unfold mx; split <;> omega) (by unfold mx; split <;> omega)
    · rw [runL_inl (r := ei r s x) (by unfold stB; rw [if_neg c0])]
      rw [List.all_cons, decide_eq_false c0, Bool.false_and]
      exact ⟨fun h => absurd h c0, fun h => absurd h.1.1 (by decide)⟩
theorem in_is (x n : Int) : regcertref07_in.f x n = some (inR x n) := by
  unfold regcertref07_in.f inR
  by_cases h : x ≥ 0
  · rw [if_pos h]; congr 1; rw [decide_eq_decide]; omega
  · rw [if_neg h]; congr 1; exact (decide_eq_false (by omega)).symm
theorem refTerm_is (kind a tgt els regs blocks : Int) : regcertref07_Term.f kind a tgt els regs blocks = some (spTerm kind a tgt els regs blocks) := by
  unfold regcertref07_Term.f spTerm
  rw [in_is, in_is, in_is]
  simp only [Option.bind_some]
  by_cases h1 : kind = 1
  · subst h1
    cases inR tgt blocks <;> by_cases ha : a = 0 <;> by_cases he : els = 0 <;> simp [ha, he]
  · by_cases h2 : kind = 2
    · subst h2
      cases inR tgt blocks <;> cases inR els blocks <;> cases inR a regs <;> simp
    · by_cases h3 : kind = 3
      · subst h3
        cases inR a regs <;> by_cases ht : tgt = 0 <;> by_cases he : els = 0 <;> simp [ht, he]
      · rw [if_neg h1, if_neg h2, if_neg h3, if_neg (by omega)]
end Go.Proofs.Ytihnbkoeaaepiaa.LMachineCheck
namespace Go.Proofs.Ytihnbkoeaaepiaa.Pure
open Go.RowKit Go.Proofs.Ytihnbkoeaaepiaa.PMachineCheck Go.Proofs.YtihnbkoeaaepiaaW.PrintWords Go.Proofs.YtihnbkoeaaepiaaW.PrintLast Go.Proofs.Ytihnbkoeaaepiaa.LT Go.Proofs.Ytihnbkoeaaepiaa.LMachineCheck
def okB (r s n : Int) (b : S74) : Bool := (b.f0.all fun x => decide (ei r s x = 0)) && (decide ((b.f0.foldl gM (0, 0)).1 ≤ 64) && decide (spTerm b.f1.f0 b.f1.f1 b.f1.f2 b.f1.f3 r n = 0))
theorem spBlk_zero (r s n : Int) (b : S74) : spBlk r s n b = 0 ↔ okB r s n b = true := by
  unfold spBlk okB
  rw [block_zero r s _ b.f0 0 0 (by decide) (by decide), Bool.and_eq_true, Bool.and_eq_true, decide_eq_true_eq, decide_eq_true_eq]
  constructor
  · intro h; exact ⟨h.1.1, h.1.2, h.2⟩
  · intro h; exact ⟨⟨h.1, h.2.1⟩, h.2.2⟩
def total (bs : List S74) : Int := bs.foldl (fun n b => n + (b.f0.length : Int)) 0
theorem total_le (bs : List S74) (h : ∀ b ∈ bs, b.f0.length ≤ 300) : ∀ n : Int, n ≤ bs.foldl (fun n b => n + (b.f0.length : Int)) n ∧ bs.foldl (fun n b => n + (b.f0.length : Int)) n ≤ n + 300 * bs.length := by
  induction bs with
  | nil => intro n; simp
  | cons b l ih =>
    intro n
    have h1 := h b (List.mem_cons_self ..)
    have h2 := ih (fun x hx => h x (List.mem_cons_of_mem _ hx)) (n + (b.f0.length : Int))
    rw [List.foldl_cons, List.length_cons]
    omega
def blkErr (r s n : Int) (b : S74) : Option Int := if spBlk r s n b = 0 then none else some (spBlk r s n b)
def spCheck (a r s : Int) (bs : List S74) : Int :=
  if a < 0 ∨ a > s then 10 else if r < 0 then 9 else if s > 1048576 ∨ r > 1048576 then 6 else if bs.length = 0 then 14 else (bs.findSome? (blkErr r s bs.length)).getD 0
theorem code_is (a r s : Int) (bs : List S74) (h : ∀ b ∈ bs, b.f0.length ≤ 300) (hl : bs.length ≤ 40) (k : Nat) (hk : 50 ≤ k) : machine_Code.f k a r s bs = some (total bs) := by
  unfold machine_Code.f
  have h := loop_all bs z74 (fun k (n : Int) i => machine_Code.l0 k n bs (bs.length : Int) i) (fun n b => .inr (n + (b.f0.length : Int))) (fun n => n) (fun i n => 0 ≤ n ∧ n ≤ 300 * i) 0
    (fun k n i _ hi hI => by
      have hb := h _ (getD_in z74 hi)
      refine .inr ⟨_, rfl, ?_, ?_⟩
      · omega
      · simp only [machine_Code.l0]
        rw [if_pos (by omega), if_pos (by omega), if_pos (by omega), rdB, w64 ((i : Int) + 1) (by omega) (by omega), w64 (n + _) (by omega) (by omega)]
        rfl)
    (fun k n _ _ => by
      simp only [machine_Code.l0]
      rw [if_neg (by omega)]) k 0 (by omega) ⟨Int.le_refl _, by omega⟩
  rw [run_fold] at h
  exact h
theorem check_is (a r s : Int) (bs : List S74) (h : ∀ b ∈ bs, b.f0.length ≤ 300) (hl : bs.length ≤ 40) (k : Nat) (hk : 1000 ≤ k) : machine_Check.f k a r s bs = some (spCheck a r s bs) := by
  have ht := total_le bs h 0
  have hl0 : ∀ k, 500 ≤ k → machine_Check.l0 k bs (bs.length : Int) 0 a r s bs = some ((bs.findSome? (blkErr r s bs.length)).getD 0) := by
    intro k hk
    refine loop_find bs z74 (fun k i => machine_Check.l0 k bs (bs.length : Int) i a r s bs) (blkErr r s bs.length) 0 400 ?_ ?_ k (by omega)
    · intro k i hk hi
      have hb := h _ (getD_in z74 hi)
      simp only [machine_Check.l0]
      rw [if_pos (by omega), if_pos (by omega), if_pos (by omega), rdB, block_is a r s bs (bs.getD i z74) (by omega) k (by omega), w64 ((i : Int) + 1) (by omega) (by omega)]
      simp only [Option.bind_some]
      unfold blkErr
      by_cases c : spBlk r s bs.length (bs.getD i z74) = 0
      · rw [if_pos c, if_pos c]
        exact .inr ⟨rfl, rfl⟩
      · rw [if_neg c, if_neg c]
        exact .inl ⟨_, rfl, rfl⟩
    · intro k _
      simp only [machine_Check.l0]
      rw [if_neg (by omega)]
  have hj1 : ∀ k, 600 ≤ k → ∀ c, machine_Check.j1 k c a r s bs = some (if c = true then 6 else if bs.length = 0 then 14 else (bs.findSome? (blkErr r s bs.length)).getD 0) := by
    intro k hk c
    obtain ⟨k, rfl⟩ : ∃ m, k = m + 1 := ⟨k - 1, by omega⟩
    simp only [machine_Check.j1]
    cases c
    · rw [if_neg (show ¬ false = true by decide), code_is a r s bs h hl k (by omega), if_neg (show ¬ false = true by decide)]
      by_cases c : bs.length = 0
      · rw [if_pos (show (bs.length : Int) = 0 by omega), if_pos c]
      · rw [if_neg (show ¬ (bs.length : Int) = 0 by omega), if_neg c, if_neg (show ¬ (bs.length : Int) > 1048576 by omega)]
        simp only [Option.bind_some]
        rw [if_neg (show ¬ total bs > 1048576 by unfold total; omega)]
        exact hl0 k (by omega)
    · rfl
  have hj0 : ∀ k, 700 ≤ k → ∀ c, machine_Check.j0 k c a r s bs = some (if c = true then 10 else if r < 0 then 9 else if s > 1048576 ∨ r > 1048576 then 6 else if bs.length = 0 then 14 else (bs.findSome? (blkErr r s bs.length)).getD 0) := by
    intro k hk c
    obtain ⟨k, rfl⟩ : ∃ m, k = m + 1 := ⟨k - 1, by omega⟩
    simp only [machine_Check.j0]
    rw [hj1 k (by omega), hj1 k (by omega)]
    cases c
    · rw [if_neg (show ¬ false = true by decide), if_neg (show ¬ false = true by decide)]
      by_cases c1 : r < 0
      · rw [if_pos c1, if_pos c1]
      · rw [if_neg c1, if_neg c1]
        by_cases c2 : s > 1048576
        · rw [if_pos c2, if_pos rfl, if_pos (.inl c2)]
        · rw [if_neg c2]
          by_cases c3 : r > 1048576
          · rw [if_pos (decide_eq_true c3), if_pos (.inr c3)]
          · rw [if_neg (by simp [c3]), if_neg (show ¬ (s > 1048576 ∨ r > 1048576) from fun h => h.elim c2 c3)]
    · rfl
  unfold machine_Check.f spCheck
  rw [hj0 k (by omega), hj0 k (by omega)]
  by_cases c0 : a < 0
  · rw [if_pos c0, if_pos rfl, if_pos (.inl c0)]
  · rw [if_neg c0]
    by_cases c1 : a > s
    · rw [if_pos (decide_eq_true c1), if_pos (.inr c1)]
    · rw [if_neg (by simp [c1]), if_neg (show ¬ (a < 0 ∨ a > s) from fun h => h.elim c0 c1)]
theorem refCode_is (a r s : Int) (bs : List S74) (h : ∀ b ∈ bs, b.f0.length ≤ 300) (hl : bs.length ≤ 40) (k : Nat) (hk : 50 ≤ k) : regcertref08_Code.f k a r s bs = some (total bs) := by
  unfold regcertref08_Code.f
  have h := loop_all bs z74 (fun k (n : Int) i => regcertref08_Code.l0 k n i a r s bs) (fun n b => .inr (n + (b.f0.length : Int))) (fun n => n) (fun i n => 0 ≤ n ∧ n ≤ 300 * i) 0
    (fun k n i _ hi hI => by
      have hb := h _ (getD_in z74 hi)
      refine .inr ⟨_, rfl, ?_, ?_⟩
      · omega
      · simp only [regcertref08_Code.l0]
        rw [if_pos (by omega), if_pos (by omega), rdB, w64 ((i : Int) + 1) (by omega) (by omega), w64 (n + _) (by omega) (by omega)]
        rfl)
    (fun k n _ _ => by
      simp only [regcertref08_Code.l0]
      rw [if_neg (by omega)]) k 0 (by omega) ⟨Int.le_refl _, by omega⟩
  rw [run_fold] at h
  exact h
def stF (_ : Unit) (b : S74) : Bool ⊕ Unit := if (b.f0.length : Int) > 300 then .inl false else .inr ()
theorem few_short (fin : Bool) (l : List S74) : runL stF (fun _ => fin) () l = true → ∀ b ∈ l, b.f0.length ≤ 300 := by
  induction l with
  | nil => intro _ b hb; simp at hb
  | cons x r ih =>
    intro h b hb
    by_cases c : (x.f0.length : Int) > 300
    · rw [runL_inl (r := false) (by unfold stF; rw [if_pos c])] at h
      exact absurd h (by decide)
    · rw [runL_inr (s' := ()) (by unfold stF; rw [if_neg c])] at h
      rcases List.mem_cons.1 hb with rfl | hb
      · omega
      · exact ih h b hb
theorem few_ex (a r s : Int) (bs : List S74) (hl : bs.length ≤ 40) (k : Nat) (hk : 200 ≤ k) : regcertref08_Few.l0 k 0 a r s bs = some (runL stF (fun _ => decide (total bs ≤ 900)) () bs) := by
  refine loop_all bs z74 (fun k (_ : Unit) i => regcertref08_Few.l0 k i a r s bs) stF (fun _ => decide (total bs ≤ 900)) (fun i _ => ∀ j, j < i → (bs.getD j z74).f0.length ≤ 300) 60 ?_ ?_ k () (by omega) (fun j hj => absurd hj (by omega))
  · intro k u i hk hi hI
    simp only [regcertref08_Few.l0]
    rw [if_pos (by omega), if_pos (by omega), rdB, w64 ((i : Int) + 1) (by omega) (by omega)]
    unfold stF
    by_cases c : ((bs.getD i z74).f0.length : Int) > 300
    · rw [if_pos c, if_pos c]
      exact .inl ⟨false, rfl, rfl⟩
    · rw [if_neg c, if_neg c]
      refine .inr ⟨(), rfl, fun j hj => ?_, rfl⟩
      by_cases e : j = i
      · subst e; omega
      · exact hI j (by omega)
  · intro k u hk hI
    have h : ∀ b ∈ bs, b.f0.length ≤ 300 := by
      intro b hb
      obtain ⟨j, hj, rfl⟩ := List.getElem_of_mem hb
      have := hI j hj
      rwa [List.getD_eq_getElem?_getD, List.getElem?_eq_getElem hj] at this
    simp only [regcertref08_Few.l0]
    rw [if_neg (by omega), refCode_is a r s bs h hl k (by omega)]
    rfl
theorem few_is (a r s : Int) (bs : List S74) : ∃ v, (∀ k, 300 ≤ k → regcertref08_Few.f k a r s bs = some v) ∧ (v = true → bs.length ≤ 40 ∧ r ≤ 60 ∧ s ≤ 60 ∧ ∀ b ∈ bs, b.f0.length ≤ 300) := by
  have hj : ∀ k, 250 ≤ k → regcertref08_Few.j0 k true a r s bs = some false := by
    intro k hk
    obtain ⟨k, rfl⟩ : ∃ m, k = m + 1 := ⟨k - 1, by omega⟩
    simp only [regcertref08_Few.j0, if_true]
  by_cases h1 : (bs.length : Int) > 40
  · refine ⟨false, fun k hk => ?_, fun h => absurd h (by decide)⟩
    unfold regcertref08_Few.f
    rw [if_pos h1]; exact hj k (by omega)
  · by_cases h2 : r > 60
    · refine ⟨false, fun k hk => ?_, fun h => absurd h (by decide)⟩
      unfold regcertref08_Few.f
      rw [if_neg h1, if_pos h2]; exact hj k (by omega)
    · by_cases h3 : s > 60
      · refine ⟨false, fun k hk => ?_, fun h => absurd h (by decide)⟩
        unfold regcertref08_Few.f
        rw [if_neg h1, if_neg h2, decide_eq_true h3]; exact hj k (by omega)
      · refine ⟨runL stF (fun _ => decide (total bs ≤ 900)) () bs, fun k hk => ?_, fun h => ⟨by omega, by omega, by omega, few_short _ bs h⟩⟩
        unfold regcertref08_Few.f
        rw [if_neg h1, if_neg h2, decide_eq_false h3]
        obtain ⟨k, rfl⟩ : ∃ m, k = m + 1 := ⟨k - 1, by omega⟩
        simp only [regcertref08_Few.j0]
        rw [if_neg (show ¬ false = true by decide)]
        exact few_ex a r s bs (by omega) k (by omega)
theorem run_and {α : Type} (good : α → Bool) (fin : Bool → Bool) (l : List α) : ∀ s : Bool, runL (α := α) (σ := Bool) (ρ := Bool) (fun ok x => .inr (ok && good x)) fin s l = fin (s && l.all good) := by
  induction l with
  | nil => intro s; simp [runL_nil]
  | cons x r ih => intro s; rw [runL_inr (s' := s && good x) rfl, ih, List.all_cons, Bool.and_assoc]
theorem law_l1 (a r s : Int) (bs : List S74) (hl : bs.length ≤ 40) (i : Nat) (hi : i < bs.length) (hb : (bs.getD i z74).f0.length ≤ 300) (R : Bool → Bool) (K : Nat) (hK : 900 ≤ K)
    (h0 : ∀ ok k, K ≤ k → regcertlaw08_MachineCheck.l0 k ok ((i + 1 : Nat) : Int) a r s bs = some (R ok)) (k : Nat) (ok : Bool) (hk : K + 400 ≤ k) :
    regcertlaw08_MachineCheck.l1 k ok (i : Int) 0 a r s bs = some (R (ok && okB r s bs.length (bs.getD i z74))) := by
  have h := loop_all (bs.getD i z74).f0 z67 (fun k ok j => regcertlaw08_MachineCheck.l1 k ok (i : Int) j a r s bs) (fun ok x => .inr (ok && decide (ei r s x = 0)))
    (fun ok => R (ok && (decide (((bs.getD i z74).f0.foldl gM (0, 0)).1 ≤ 64) && decide (spTerm (bs.getD i z74).f1.f0 (bs.getD i z74).f1.f1 (bs.getD i z74).f1.f2 (bs.getD i z74).f1.f3 r bs.length = 0)))) (fun _ _ => True) (K + 20)
    (fun k ok j hk hj _ => by
      refine .inr ⟨_, rfl, trivial, ?_⟩
      simp only [regcertlaw08_MachineCheck.l1]
      rw [if_pos (by omega), if_pos (by omega), rdB, if_pos (by omega)]
      cases ok
      · simp only [Bool.false_eq_true, if_false, Bool.false_and]
        rw [w64 _ (by omega) (by omega)]
        rfl
      · simp only [if_true, Bool.true_and]
        rw [if_pos (by omega), rdI, ei_is r s _ k (by omega), w64 _ (by omega) (by omega)]
        simp only [Option.bind_some]
        congr 1)
    (fun k ok hk _ => by
      simp only [regcertlaw08_MachineCheck.l1]
      rw [if_pos (by omega), if_pos (by omega), rdB, if_neg (by omega), w64 ((i : Int) + 1) (by omega) (by omega)]
      cases ok
      · simp only [Bool.false_eq_true, if_false, Bool.false_and]
        exact h0 false k (by omega)
      · simp only [if_true, Bool.true_and]
        rw [moves_is _ (by omega) k (by omega), refTerm_is]
        simp only [Option.bind_some]
        by_cases c : ((bs.getD i z74).f0.foldl gM (0, 0)).1 ≤ 64
        · rw [if_pos c, decide_eq_true c, Bool.true_and]
          exact h0 _ k (by omega)
        · rw [if_neg c, decide_eq_false c, Bool.false_and]
          exact h0 _ k (by omega)) k ok (by omega) trivial
  rw [h]
  congr 1
  rw [run_and]
  unfold okB
  rw [Bool.and_assoc]
theorem law_l0 (a r s : Int) (bs : List S74) (hl : bs.length ≤ 40) (h4 : ∀ b ∈ bs, b.f0.length ≤ 300) (d : Nat) : ∀ (i k : Nat) (ok : Bool), i + d = bs.length → 3000 + d * 420 ≤ k →
    regcertlaw08_MachineCheck.l0 k ok (i : Int) a r s bs = some ((ok && (bs.drop i).all (okB r s bs.length)) == (decide (spCheck a r s bs = 0))) := by
  induction d with
  | zero =>
    intro i k ok hi hk
    obtain ⟨k, rfl⟩ : ∃ m, k = m + 1 := ⟨k - 1, by omega⟩
    simp only [regcertlaw08_MachineCheck.l0]
    rw [if_neg (by omega), check_is a r s bs h4 hl k (by omega), List.drop_eq_nil_of_le (by omega)]
    simp only [Option.bind_some, List.all_nil, Bool.and_true]
    rfl
  | succ d ih =>
    intro i k ok hi hk
    obtain ⟨k, rfl⟩ : ∃ m, k = m + 1 := ⟨k - 1, by omega⟩
    simp only [regcertlaw08_MachineCheck.l0]
    rw [if_pos (by omega), drop_getD z74 (show i < bs.length by omega), List.all_cons, ← Bool.and_assoc]
    exact law_l1 a r s bs hl i (by omega) (h4 _ (getD_in z74 (by omega))) (fun ok => (ok && (bs.drop (i + 1)).all (okB r s bs.length)) == (decide (spCheck a r s bs = 0))) (3000 + d * 420) (by omega) (fun ok k hk => ih (i + 1) k ok (by omega) hk) k ok (by omega)
theorem find_zero (r s n : Int) (l : List S74) : (l.findSome? (blkErr r s n)).getD 0 = 0 ↔ l.all (okB r s n) = true := by
  induction l with
  | nil => exact ⟨fun _ => rfl, fun _ => rfl⟩
  | cons b t ih =>
    rw [List.findSome?_cons, List.all_cons, Bool.and_eq_true]
    by_cases c : spBlk r s n b = 0
    · have e : blkErr r s n b = none := by unfold blkErr; rw [if_pos c]
      rw [e]
      exact ⟨fun h => ⟨(spBlk_zero r s n b).1 c, ih.1 h⟩, fun h => ih.2 h.2⟩
    · have e : blkErr r s n b = some (spBlk r s n b) := by unfold blkErr; rw [if_neg c]
      rw [e]
      exact ⟨fun h => absurd h c, fun h => absurd ((spBlk_zero r s n b).2 h.1) c⟩
theorem check_zero (a r s : Int) (bs : List S74) (hr : r ≤ 60) (hs : s ≤ 60) : spCheck a r s bs = 0 ↔ (0 ≤ a ∧ a ≤ s ∧ 0 ≤ r ∧ 0 < bs.length) ∧ bs.all (okB r s bs.length) = true := by
  unfold spCheck
  by_cases c0 : a < 0 ∨ a > s
  · rw [if_pos c0]
    exact ⟨fun h => absurd h (by decide), fun h => by omega⟩
  · rw [if_neg c0]
    by_cases c1 : r < 0
    · rw [if_pos c1]
      exact ⟨fun h => absurd h (by decide), fun h => by omega⟩
    · rw [if_neg c1, if_neg (show ¬ (s > 1048576 ∨ r > 1048576) by omega)]
      by_cases c2 : bs.length = 0
      · rw [if_pos c2]
        exact ⟨fun h => absurd h (by decide), fun h => by omega⟩
      · rw [if_neg c2, find_zero]
        exact ⟨fun h => ⟨by omega, h⟩, fun h => h.2⟩
theorem MachineCheck : regcertlaw08_MachineCheck.Pure := by
  intro x hx
  obtain ⟨a, r, s, bs⟩ := x
  simp only
  refine ⟨bs.length + 21000, ?_⟩
  generalize hn : bs.length + 21000 = n
  obtain ⟨v, hv, hfine⟩ := few_is a r s bs
  unfold regcertlaw08_MachineCheck.f
  rw [awake_is n (by omega), hv n (by omega)]
  simp only [Option.bind_some, if_true]
  obtain ⟨m, rfl⟩ : ∃ m, n = m + 3 := ⟨n - 3, by omega⟩
  cases v with
  | false =>
    simp only [regcertlaw08_MachineCheck.j0, Bool.not_false, if_true]
    rw [awake_is (m + 2) (by omega)]
    rfl
  | true =>
    obtain ⟨h1, h2, h3, h4⟩ := hfine rfl
    have hz := check_zero a r s bs h2 h3
    have hend : ∀ c : Bool, regcertlaw08_MachineCheck.j1 (m + 2) c a r s bs = some ((c && bs.all (okB r s bs.length)) == (decide (spCheck a r s bs = 0))) := by
      intro c
      simp only [regcertlaw08_MachineCheck.j1]
      have := law_l0 a r s bs h1 h4 bs.length 0 (m + 1) c (by omega) (by omega)
      simpa using this
    have hno : ¬ (0 ≤ a ∧ a ≤ s ∧ 0 ≤ r ∧ 0 < bs.length) → ((false && bs.all (okB r s bs.length)) == (decide (spCheck a r s bs = 0))) = true := by
      intro h
      rw [beq_iff_eq, Bool.false_and]
      exact (decide_eq_false (fun h' => h (hz.1 h').1)).symm
    simp only [regcertlaw08_MachineCheck.j0]
    rw [if_neg (show ¬ (!true) = true by decide)]
    by_cases c0 : a ≥ 0
    · rw [if_pos c0]
      by_cases c1 : a ≤ s
      · rw [if_pos c1]
        by_cases c2 : r ≥ 0
        · rw [if_pos c2, hend]
          congr 1
          rw [beq_iff_eq, Bool.eq_iff_iff, Bool.and_eq_true, decide_eq_true_eq, decide_eq_true_eq, hz]
          constructor
          · intro h; exact ⟨⟨c0, c1, c2, by omega⟩, h.2⟩
          · intro h; exact ⟨by omega, h.2⟩
        · rw [if_neg c2, hend, hno (fun h => c2 h.2.2.1)]
      · rw [if_neg c1, hend, hno (fun h => c1 h.2.1)]
    · rw [if_neg c0, hend, hno (fun h => c0 h.1)]
end Go.Proofs.Ytihnbkoeaaepiaa.Pure
