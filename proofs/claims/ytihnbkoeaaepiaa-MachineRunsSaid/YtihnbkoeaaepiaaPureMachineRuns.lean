/- A run of moves is accepted up to MaxMoves, wherever it is in a block. No condition. -/
import Derived.Test.YtihnbkoeaaepiaaLT
import Derived.Test.YtihnbkoeaaepiaaSayMachineRuns
namespace Go.Proofs.Ytihnbkoeaaepiaa.LMachineRuns
open Go.RowKit Go.Proofs.Ytihnbkoeaaepiaa.PMachineRuns Go.Proofs.YtihnbkoeaaepiaaW.PrintWords Go.Proofs.YtihnbkoeaaepiaaW.PrintLast Go.Proofs.Ytihnbkoeaaepiaa.LT

theorem awake_is (k : Nat) (hk : 400 ≤ k) : regcertlaw08_awake.f k = some true := at_rounds regcertlaw08_awake.mono hk (show regcertlaw08_awake.f 400 = some true from by decide +kernel)
/-- Is a location in range? -/
def good (a r s : Int) : Bool := decide (0 ≤ a ∧ (a % 2 = 0 ∧ a / 2 < r ∨ a % 2 = 1 ∧ a / 2 < s))
theorem slot_is (a : Int) : location_IsSlot.f a = some (decide (Int.tmod a 2 = 1)) := rfl
theorem inRange_is (a r s : Int) (ha : a ≤ 9223372036854775807) : location_InRange.f a r s = some (good a r s) := by
  unfold location_InRange.f
  rw [slot_is]
  unfold location_Index.f
  simp only [Option.bind_some, decide_eq_true_eq]
  by_cases h0 : 0 ≤ a
  · rw [Int.tmod_eq_emod_of_nonneg h0, Int.tdiv_eq_ediv_of_nonneg h0, w64 _ (by omega) (by omega)]
    by_cases c : a % 2 = 1
    · rw [if_pos c, if_pos h0]
      congr 1
      unfold good
      rw [decide_eq_decide]
      omega
    · rw [if_neg c, if_pos h0]
      congr 1
      unfold good
      rw [decide_eq_decide]
      omega
  · have hg : good a r s = false := by
      unfold good
      rw [decide_eq_false_iff_not]
      omega
    rw [if_neg h0, if_neg h0, ite_self, hg]

end Go.Proofs.Ytihnbkoeaaepiaa.LMachineRuns
namespace Go.Proofs.Ytihnbkoeaaepiaa.Pure
open Go.RowKit Go.Proofs.Ytihnbkoeaaepiaa.PMachineRuns Go.Proofs.YtihnbkoeaaepiaaW.PrintWords Go.Proofs.YtihnbkoeaaepiaaW.PrintLast Go.Proofs.Ytihnbkoeaaepiaa.LT Go.Proofs.Ytihnbkoeaaepiaa.LMachineRuns

def mv : S67 := ⟨18, 0, 0, 0, 0, 2, 0⟩
def fine (x : S67) : Prop := ∀ k, 20 ≤ k → machine_Instr.f k x.f0 x.f1 x.f2 x.f3 x.f4 x.f5 x.f6 2 0 = some 0
theorem fine_mv : fine mv := fun k hk => at_rounds (machine_Instr.mono _ _ _ _ _ _ _ _ _) hk (show machine_Instr.f 20 18 0 0 0 0 2 0 2 0 = some 0 from by decide +kernel)
theorem fine_em : fine ⟨17, 0, 0, 0, 0, 0, 0⟩ := fun k hk => at_rounds (machine_Instr.mono _ _ _ _ _ _ _ _ _) hk (show machine_Instr.f 20 17 0 0 0 0 0 0 2 0 = some 0 from by decide +kernel)
theorem fine_co (i : Int) : fine ⟨1, 0, 0, 0, i, 0, 0⟩ := fun k hk => at_rounds (machine_Instr.mono _ _ _ _ _ _ _ _ _) hk (show machine_Instr.f 20 1 0 0 0 i 0 0 2 0 = some 0 from by kernel_rfl)
theorem rdI (xs : List S67) (i : Nat) : rd_T67 xs (i : Int) = xs.getD i z67 := by unfold rd_T67; rw [Int.toNat_natCast]
def calm (ys : List S67) : Prop := ∀ y ∈ ys, fine y ∧ y.f0 ≠ 18
theorem calm_nil : calm [] := fun y h => by simp at h
theorem calm_cons {y : S67} {ys : List S67} (h : fine y) (h2 : y.f0 ≠ 18) (hy : calm ys) : calm (y :: ys) := fun z hz => by
  rcases List.mem_cons.1 hz with rfl | hz
  · exact ⟨h, h2⟩
  · exact hy z hz
theorem run_fold {α σ ρ : Type} (g : σ → α → σ) (fin : σ → ρ) (l : List α) : ∀ s : σ, runL (ρ := ρ) (fun s x => .inr (g s x)) fin s l = fin (l.foldl g s) := by
  induction l with
  | nil => intro s; rfl
  | cons x r ih => intro s; rw [runL_inr (s' := g s x) rfl, ih]; rfl
def gM (s : Int × Int) (x : S67) : Int × Int := if x.f0 = 18 then (mx s.1 (s.2 + 1), s.2 + 1) else (mx s.1 0, 0)
theorem moves_is (xs : List S67) (hl : xs.length ≤ 1000) (k : Nat) (hk : xs.length + 1 ≤ k) : machine_Moves.f k xs = some (xs.foldl gM (0, 0)).1 := by
  unfold machine_Moves.f
  have h := loop_all xs z67 (fun k (s : Int × Int) i => machine_Moves.l0 k s.1 s.2 xs (xs.length : Int) i) (fun s x => .inr (gM s x)) (fun s => s.1) (fun i s => 0 ≤ s.2 ∧ s.2 ≤ i) 0
    (fun k s i _ hi hI => by
      refine .inr ⟨_, rfl, ?_, ?_⟩
      · unfold gM
        by_cases c : (xs.getD i z67).f0 = 18
        · rw [if_pos c]; simp only; omega
        · rw [if_neg c]; simp only; omega
      · obtain ⟨s1, s2⟩ := s
        simp only at hI
        simp only [machine_Moves.l0]
        rw [if_pos (by omega), if_pos (by omega), if_pos (by omega), rdI, w64 ((i : Int) + 1) (by omega) (by omega), w64 (s2 + 1) (by omega) (by omega)]
        unfold gM
        by_cases c : (xs.getD i z67).f0 = 18
        · rw [if_pos c, if_pos c]; rfl
        · rw [if_neg c, if_neg c]; rfl)
    (fun k s _ _ => by
      simp only [machine_Moves.l0]
      rw [if_neg (by omega)]) k (0, 0) (by omega) ⟨Int.le_refl _, Int.le_refl _⟩
  rw [run_fold] at h
  exact h
theorem fold_calm (ys : List S67) (hy : calm ys) (m : Int) (hm : 0 ≤ m) : ∀ c : Int, (ys.foldl gM (m, c)).1 = m ∧ (c = 0 → ys.foldl gM (m, c) = (m, 0)) := by
  induction ys with
  | nil => intro c; exact ⟨rfl, fun h => by rw [h]; rfl⟩
  | cons y r ih =>
    intro c
    have e : gM (m, c) y = (m, 0) := by
      unfold gM
      rw [if_neg (hy y (List.mem_cons_self ..)).2]
      have : mx m 0 = m := by unfold mx; split <;> omega
      simp only [this]
    have h := ih (fun z hz => hy z (List.mem_cons_of_mem _ hz)) 0
    rw [List.foldl_cons, e]
    exact ⟨h.1, fun _ => h.2 rfl⟩
theorem fold_mv (n : Nat) : ∀ c : Int, 0 ≤ c → (List.replicate n mv).foldl gM (c, c) = (c + n, c + n) := by
  induction n with
  | zero => intro c _; simp
  | succ n ih =>
    intro c hc
    have e : gM (c, c) mv = (c + 1, c + 1) := by
      unfold gM
      rw [if_pos (show mv.f0 = 18 from rfl)]
      have : mx c (c + 1) = c + 1 := by unfold mx; split <;> omega
      simp only [this]
    rw [List.replicate_succ, List.foldl_cons, e, ih (c + 1) (by omega)]
    congr 1 <;> omega
theorem moves_code (A B : List S67) (n : Nat) (hA : calm A) (hB : calm B) (hl : (A ++ List.replicate n mv ++ B).length ≤ 1000) (k : Nat) (hk : 1001 ≤ k) : machine_Moves.f k (A ++ List.replicate n mv ++ B) = some (n : Int) := by
  rw [moves_is _ hl k (by omega), List.foldl_append, List.foldl_append, (fold_calm A hA 0 (by decide) 0).2 rfl, fold_mv n 0 (by decide)]
  rw [show (0 : Int) + (n : Int) = (n : Int) by omega, (fold_calm B hB n (by omega) n).1]
def stB (s : Int) (x : S67) : Int ⊕ Int := if x.f0 = 18 then (if s + 1 > 64 then .inl 15 else .inr (s + 1)) else .inr 0
theorem block_is (xs : List S67) (bs : List S74) (hb : bs.length = 1) (hx : ∀ x ∈ xs, fine x) (hl : xs.length ≤ 1000) (k : Nat) (hk : xs.length + 40 ≤ k) :
    machine_block.f k 0 2 0 bs xs 3 1 0 0 = some (runL stB (fun _ => 0) 0 xs) := by
  unfold machine_block.f
  refine loop_all xs z67 (fun k (s : Int) i => machine_block.l0 k s xs (xs.length : Int) i 0 2 0 bs xs 3 1 0 0) stB (fun _ => 0) (fun i s => 0 ≤ s ∧ s ≤ i) 30 ?_ ?_ k 0 (by omega) ⟨Int.le_refl _, Int.le_refl _⟩
  · intro k s i hk hi hI
    have hf := hx _ (getD_in z67 hi) k (by omega)
    simp only [machine_block.l0]
    rw [if_pos (by omega), if_pos (by omega), if_pos (by omega), rdI, hf, w64 ((i : Int) + 1) (by omega) (by omega), w64 (s + 1) (by omega) (by omega)]
    simp only [Option.bind_some, if_true]
    unfold stB
    by_cases c : (xs.getD i z67).f0 = 18
    · rw [if_pos c, if_pos c]
      by_cases c2 : s + 1 > 64
      · exact .inl ⟨15, by rw [if_pos c2], by rw [if_pos c2]⟩
      · exact .inr ⟨s + 1, by rw [if_neg c2], ⟨by omega, by omega⟩, by rw [if_neg c2]; rfl⟩
    · rw [if_neg c, if_neg c]
      exact .inr ⟨0, rfl, ⟨Int.le_refl _, by omega⟩, by rw [if_neg (by decide)]; rfl⟩
  · intro k s hk _
    simp only [machine_block.l0]
    rw [if_neg (by omega), hb]
    rw [show source_Term.f k 3 1 0 0 2 ((1 : Nat) : Int) = some 0 from at_rounds (source_Term.mono _ _ _ _ _ _) hk (show source_Term.f 30 3 1 0 0 2 1 = some 0 from by decide +kernel)]
    rfl
theorem run_calm (ys C : List S67) (hy : calm ys) : runL stB (fun _ => 0) 0 (ys ++ C) = runL stB (fun _ => (0 : Int)) 0 C := by
  induction ys with
  | nil => rfl
  | cons y r ih =>
    have e : stB 0 y = .inr 0 := by unfold stB; rw [if_neg (hy y (List.mem_cons_self ..)).2]
    rw [List.cons_append, runL_inr e]
    exact ih (fun z hz => hy z (List.mem_cons_of_mem _ hz))
theorem run_calm' (ys : List S67) (hy : calm ys) : ∀ s : Int, runL stB (fun _ => (0 : Int)) s ys = 0 := by
  induction ys with
  | nil => intro s; rfl
  | cons y r ih =>
    intro s
    have e : stB s y = .inr 0 := by unfold stB; rw [if_neg (hy y (List.mem_cons_self ..)).2]
    rw [runL_inr e]
    exact ih (fun z hz => hy z (List.mem_cons_of_mem _ hz)) 0
theorem run_mv (B : List S67) (hB : calm B) (n : Nat) : ∀ c : Int, 0 ≤ c → c ≤ 64 → runL stB (fun _ => 0) c (List.replicate n mv ++ B) = if c + n ≤ 64 then 0 else 15 := by
  induction n with
  | zero => intro c h0 h1; rw [if_pos (by omega)]; exact run_calm' B hB c
  | succ n ih =>
    intro c h0 h1
    rw [List.replicate_succ, List.cons_append]
    by_cases c2 : c + 1 > 64
    · rw [runL_inl (r := 15) (by unfold stB; rw [if_pos (show mv.f0 = 18 from rfl), if_pos c2]), if_neg (by omega)]
    · rw [runL_inr (s' := c + 1) (by unfold stB; rw [if_pos (show mv.f0 = 18 from rfl), if_neg c2]), ih (c + 1) (by omega) (by omega)]
      by_cases c3 : c + 1 + n ≤ 64
      · rw [if_pos c3, if_pos (by omega)]
      · rw [if_neg c3, if_neg (by omega)]
theorem check_code (A B : List S67) (n : Nat) (hA : calm A) (hB : calm B) (hl : (A ++ List.replicate n mv ++ B).length ≤ 1000) (k : Nat) (hk : 2000 ≤ k) (t : S72) (ht : t = ⟨3, 1, 0, 0⟩) :
    machine_Check.f k 0 2 0 [⟨A ++ List.replicate n mv ++ B, t⟩] = some (if (n : Int) ≤ 64 then 0 else 15) := by
  subst ht
  have hx : ∀ x ∈ A ++ List.replicate n mv ++ B, fine x := by
    intro x hx
    rcases List.mem_append.1 hx with hx | hx
    · rcases List.mem_append.1 hx with hx | hx
      · exact (hA x hx).1
      · rw [(List.mem_replicate.1 hx).2]; exact fine_mv
    · exact (hB x hx).1
  have hr : runL stB (fun _ => (0 : Int)) 0 (A ++ List.replicate n mv ++ B) = if (n : Int) ≤ 64 then 0 else 15 := by
    rw [List.append_assoc, run_calm A _ hA, run_mv B hB n 0 (by decide) (by decide)]
    simp
  generalize hc : A ++ List.replicate n mv ++ B = code at *
  have hcode : ∀ k, 2 ≤ k → machine_Code.f k 0 2 0 [⟨code, ⟨3, 1, 0, 0⟩⟩] = some (code.length : Int) := by
    intro k hk
    obtain ⟨k, rfl⟩ : ∃ m, k = m + 2 := ⟨k - 2, by omega⟩
    unfold machine_Code.f
    simp only [machine_Code.l0, List.length_cons, List.length_nil]
    rw [if_pos (by decide), if_pos (by decide), if_pos (by decide), w64 (0 + 1) (by decide) (by decide), if_neg (by decide)]
    rw [show (rd_T74 [(⟨code, ⟨3, 1, 0, 0⟩⟩ : S74)] 0).f0 = code from rfl, w64 _ (by omega) (by omega), Int.zero_add]
  have hend : ∀ k, 1 ≤ k → machine_Check.l0 k [⟨code, ⟨3, 1, 0, 0⟩⟩] 1 (0 + 1) 0 2 0 [⟨code, ⟨3, 1, 0, 0⟩⟩] = some 0 := by
    intro k hk
    obtain ⟨k, rfl⟩ : ∃ m, k = m + 1 := ⟨k - 1, by omega⟩
    simp only [machine_Check.l0]
    rw [if_neg (by decide)]
  have hl0 : ∀ k, 1990 ≤ k → machine_Check.l0 k [⟨code, ⟨3, 1, 0, 0⟩⟩] 1 0 0 2 0 [⟨code, ⟨3, 1, 0, 0⟩⟩] = some (if (n : Int) ≤ 64 then 0 else 15) := by
    intro k hk
    have hb := block_is code [⟨code, ⟨3, 1, 0, 0⟩⟩] rfl hx hl (k - 1) (by omega)
    rw [hr] at hb
    have he := hend (k - 1) (by omega)
    obtain ⟨k, rfl⟩ : ∃ m, k = m + 1 := ⟨k - 1, by omega⟩
    rw [Nat.add_sub_cancel] at hb he
    simp only [machine_Check.l0]
    rw [if_pos (by decide), if_pos (by decide), if_pos (by simp)]
    rw [show rd_T74 [(⟨code, ⟨3, 1, 0, 0⟩⟩ : S74)] 0 = ⟨code, ⟨3, 1, 0, 0⟩⟩ from rfl]
    dsimp only
    rw [hb, w64 (0 + 1) (by decide) (by decide), he]
    simp only [Option.bind_some]
    by_cases c : (n : Int) ≤ 64
    · rw [if_pos c, if_pos rfl]
    · rw [if_neg c, if_neg (show ¬ (15 : Int) = 0 by decide)]
  have hj1 : ∀ k, 1992 ≤ k → machine_Check.j1 k false 0 2 0 [⟨code, ⟨3, 1, 0, 0⟩⟩] = some (if (n : Int) ≤ 64 then 0 else 15) := by
    intro k hk
    obtain ⟨k, rfl⟩ : ∃ m, k = m + 1 := ⟨k - 1, by omega⟩
    simp only [machine_Check.j1]
    rw [hcode k (by omega), if_neg (by decide), if_neg (by simp), if_neg (by simp)]
    simp only [Option.bind_some]
    rw [if_neg (show ¬ (code.length : Int) > 1048576 by omega)]
    exact hl0 k (by omega)
  unfold machine_Check.f
  rw [if_neg (show ¬ (0 : Int) < 0 by decide)]
  obtain ⟨k, rfl⟩ : ∃ m, k = m + 1 := ⟨k - 1, by omega⟩
  simp only [machine_Check.j0]
  rw [if_neg (show ¬ decide ((0 : Int) > 0) = true by decide), if_neg (show ¬ (2 : Int) < 0 by decide), if_neg (show ¬ (0 : Int) > 1048576 by decide)]
  exact hj1 k (by omega)
theorem l2_is (n : Nat) (hn : n < 70) (a : Int) (A : List S67) (hA : calm A) (hl : A.length ≤ 10) (d : Nat) : ∀ (i k : Nat) (B : List S67), calm B → i + d = (a % 5).toNat → B.length + d ≤ 10 → 3000 + d ≤ k → 0 ≤ a → a ≤ 255 →
    regcertlaw08_MachineRuns.l2 k a (A ++ List.replicate n mv ++ B) n (i : Int) = some true := by
  induction d with
  | zero =>
    intro i k B hB hi hd hk ha0 ha1
    obtain ⟨k, rfl⟩ : ∃ m, k = m + 1 := ⟨k - 1, by omega⟩
    have hlen : (A ++ List.replicate n mv ++ B).length ≤ 1000 := by simp only [List.length_append, List.length_replicate]; omega
    simp only [regcertlaw08_MachineRuns.l2]
    rw [Int.tmod_eq_emod_of_nonneg ha0, w64 _ (by omega) (by omega), if_neg (by omega), check_code A B n hA hB hlen k (by omega) _ rfl, moves_code A B n hA hB hlen k (by omega)]
    simp only [Option.bind_some]
    rw [if_pos trivial]
    by_cases c : (n : Int) ≤ 64
    · simp only [if_pos c, if_true]
    · simp only [if_neg c]
      rw [if_pos (by omega)]
      rfl
  | succ d ih =>
    intro i k B hB hi hd hk ha0 ha1
    obtain ⟨k, rfl⟩ : ∃ m, k = m + 1 := ⟨k - 1, by omega⟩
    have h := ih (i + 1) k (B ++ [⟨17, 0, 0, 0, 0, 0, 0⟩]) (fun y hy => by
      rcases List.mem_append.1 hy with hy | hy
      · exact hB y hy
      · rw [List.mem_singleton.1 hy]; exact ⟨fine_em, by decide⟩) (by omega) (by simp only [List.length_append, List.length_cons, List.length_nil]; omega) (by omega) ha0 ha1
    simp only [regcertlaw08_MachineRuns.l2]
    have hlen : (A ++ List.replicate n mv ++ B).length < 2513169434916 := by simp only [List.length_append, List.length_replicate]; omega
    rw [Int.tmod_eq_emod_of_nonneg ha0, w64 _ (by omega) (by omega), if_pos (by omega), if_pos hlen, w64 _ (by omega) (by omega), List.append_assoc]
    exact h
theorem l1_is (n : Nat) (hn : n < 70) (a : Int) (A : List S67) (hA : calm A) (hl : A.length ≤ 10) (ha0 : 0 ≤ a) (ha1 : a ≤ 255) (d : Nat) : ∀ (i k : Nat), i + d = n → 4000 + d ≤ k →
    regcertlaw08_MachineRuns.l1 k a (A ++ List.replicate i mv) n (i : Int) = some true := by
  induction d with
  | zero =>
    intro i k hi hk
    obtain ⟨k, rfl⟩ : ∃ m, k = m + 1 := ⟨k - 1, by omega⟩
    obtain rfl : i = n := by omega
    simp only [regcertlaw08_MachineRuns.l1]
    rw [if_neg (by omega)]
    have h := l2_is i hn a A hA hl (a % 5).toNat 0 k [] calm_nil (by omega) (by simp; omega) (by omega) ha0 ha1
    rw [List.append_nil] at h
    exact h
  | succ d ih =>
    intro i k hi hk
    obtain ⟨k, rfl⟩ : ∃ m, k = m + 1 := ⟨k - 1, by omega⟩
    have h := ih (i + 1) k (by omega) (by omega)
    rw [List.replicate_succ', ← List.append_assoc] at h
    simp only [regcertlaw08_MachineRuns.l1]
    have hlen : (A ++ List.replicate i mv).length < 2513169434916 := by simp only [List.length_append, List.length_replicate]; omega
    rw [if_pos (by omega), if_pos hlen, w64 _ (by omega) (by omega)]
    exact h
theorem l0_is (n : Nat) (hn : n < 70) (b x a : Int) (hx0 : 0 ≤ x) (hx1 : x ≤ 255) (hxn : x % 70 = n) (hb0 : 0 ≤ b) (_ : b ≤ 255) (ha0 : 0 ≤ a) (ha1 : a ≤ 255) (d : Nat) : ∀ (i k : Nat) (A : List S67), calm A → A.length + d ≤ 10 → i + d = (b % 5).toNat → 4200 + d ≤ k →
    regcertlaw08_MachineRuns.l0 k b x a A (i : Int) = some true := by
  induction d with
  | zero =>
    intro i k A hA hl hi hk
    obtain ⟨k, rfl⟩ : ∃ m, k = m + 1 := ⟨k - 1, by omega⟩
    simp only [regcertlaw08_MachineRuns.l0]
    rw [Int.tmod_eq_emod_of_nonneg hb0, w64 (b % 5) (by omega) (by omega), if_neg (by omega), w64 x (by omega) (by omega), Int.tmod_eq_emod_of_nonneg hx0, hxn]
    have h := l1_is n hn a A hA (by omega) ha0 ha1 n 0 k (by omega) (by omega)
    rw [List.replicate_zero, List.append_nil] at h
    exact h
  | succ d ih =>
    intro i k A hA hl hi hk
    obtain ⟨k, rfl⟩ : ∃ m, k = m + 1 := ⟨k - 1, by omega⟩
    have h := ih (i + 1) k (A ++ [⟨1, 0, 0, 0, (i : Int), 0, 0⟩]) (fun y hy => by
      rcases List.mem_append.1 hy with hy | hy
      · exact hA y hy
      · rw [List.mem_singleton.1 hy]; exact ⟨fine_co _, by simp⟩) (by simp only [List.length_append, List.length_cons, List.length_nil]; omega) (by omega) (by omega)
    simp only [regcertlaw08_MachineRuns.l0]
    have hlen : A.length < 2513169434916 := by omega
    rw [Int.tmod_eq_emod_of_nonneg hb0, w64 (b % 5) (by omega) (by omega), if_pos (by omega), if_pos hlen, w64 _ (by omega) (by omega)]
    exact h
theorem MachineRuns : regcertlaw08_MachineRuns.Pure := by
  intro b x a hb hx ha
  have hb : 0 ≤ b ∧ b ≤ 255 := by
    simp [Lit.wf, IntKind.min, IntKind.max, IntKind.signed, IntKind.bits] at hb
    omega
  have hx : 0 ≤ x ∧ x ≤ 255 := by
    simp [Lit.wf, IntKind.min, IntKind.max, IntKind.signed, IntKind.bits] at hx
    omega
  have ha : 0 ≤ a ∧ a ≤ 255 := by
    simp [Lit.wf, IntKind.min, IntKind.max, IntKind.signed, IntKind.bits] at ha
    omega
  refine ⟨5000, ?_⟩
  have h := l0_is (x % 70).toNat (by omega) b x a hx.1 hx.2 (by omega) hb.1 hb.2 ha.1 ha.2 (b % 5).toNat 0 5000 [] calm_nil (by simp; omega) (by omega) (by omega)
  generalize hN : (5000 : Nat) = N at *
  unfold regcertlaw08_MachineRuns.f
  rw [awake_is N (by omega)]
  simp only [Option.bind_some, if_true]
  exact h

end Go.Proofs.Ytihnbkoeaaepiaa.Pure
