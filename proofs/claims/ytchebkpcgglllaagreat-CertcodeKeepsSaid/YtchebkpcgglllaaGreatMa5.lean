/- Machines: the program's check of a function. -/
import Derived.Test.YtchebkpcgglllaaGreatMa4
namespace Go.Proofs.YtchebkpcgglllaaGreat.Cu
open Go Go.SX Go.Proofs.YtchebkpcgglllaaGreat.VT
set_option maxRecDepth 100000
set_option linter.unusedVariables false
set_option linter.unusedSimpArgs false
set_option maxHeartbeats 8000000 in
theorem macCode_fn (G : Gh) (A : Option Addr) (c : Nat) (f : MFn) (hl : kMBlk.S G A c f.blocks) (hbl : f.blocks.length ≤ 1000000000) (hcl : totMB f.blocks ≤ 1000000000) :
    Ct Tryz.prog 131 [mfnS A c f] [] G fun sv H' G' => sv = .v (.int .i64 (totMB f.blocks)) ∧ H' = [] ∧ G' = G := by
  refine fn_of follows [] Tryz.func131 rfl rfl fun E hE => ?_
  have hcap := hl.cap
  unfold mfnS
  repeat' ((fail_if_success with_reducible refine Stop.mk ?_);(conv=>whnf);with_reducible refine stop ?_)
  all_goals refine Stop.mk ?_
  refine loop_vars follows [] (α := Nat) (fun k => [(3, .v (.int .i64 (totMB (f.blocks.take k)))), (9, .v (.int .i64 k))]) (fun x => [.cells 28 [.v (.int .i64 f.args), .v (.int .i64 f.regs), .v (.int .i64 f.slots), .v (.slice A f.blocks.length c)]]) (fun x => G) (fun k => k ≤ f.blocks.length) (fun k => f.blocks.length - k) 0
    (Nat.zero_le _) rfl rfl ?_ ?_
  ·
    refine ⟨?_⟩
    (conv => whnf)
    (repeat' (first | exact trivial | exact .inl rfl | exact .inr rfl | refine And.intro ?_ ?_))
  intro k hk
  have hw2 : IntKind.i64.wrap ((k : Int) + 1) = ((k + 1 : Nat) : Int) := by rw [i64_in (by omega) (by omega)]; simp
  have htt := totMB_take f.blocks k
  have htl := totMB_le f.blocks (k + 1)
  repeat' ((fail_if_success with_reducible refine Stop.mk ?_);(conv=>whnf);with_reducible first|refine br_d (fun h=>?_) fun h=>?_|refine stop ?_)
  all_goals refine Stop.mk ?_
  ·
    obtain ⟨_, hs_, hat_⟩ := hl.at (sz := 5) rfl
    refine ⟨⟨by omega, by omega⟩, _, hs_, fun ad had hadr => ?_⟩
    obtain ⟨b, cells, hb, hRb, hGb⟩ := hat_ k (by omega) ad (by first | exact had | (rw [Int.toNat_natCast] at had; exact had))
    clear had hat_ hs_
    obtain ⟨A', c', rfl, hS, hbt⟩ := kMBlk_R hRb
    replace htt := htt b hb
    have hw3 : IntKind.i64.wrap ((totMB (f.blocks.take k) : Int) + (b.code.length : Int)) = ((totMB (f.blocks.take (k + 1)) : Nat) : Int) := by rw [i64_in (by omega) (by omega), htt]; simp
    repeat' ((fail_if_success with_reducible refine Stop.mk ?_);(conv=>whnf);with_reducible refine stop ?_)
    all_goals refine Stop.mk ?_
    refine ⟨_, rfl, hGb, ?_⟩
    repeat' ((fail_if_success with_reducible refine Stop.mk ?_);(conv=>whnf);with_reducible refine stop ?_)
    all_goals refine Stop.mk ?_
    rw [hw2, hw3]
    refine tell_gc hE [0] rfl rfl ?_
    (conv => whnf)
    refine tell_here ⟨k + 1, by omega, by show f.blocks.length - (k + 1) < f.blocks.length - k; omega, rfl, rfl, ?_⟩
    refine ⟨?_⟩
    (conv => whnf)
    (repeat' (first | exact trivial | exact .inl rfl | exact .inr rfl | refine And.intro ?_ ?_))
  · have hkl : k = f.blocks.length := by omega
    subst hkl
    rw [List.take_length]
    exact fin_id hE 0 rfl rfl rfl rfl ⟨rfl, rfl, rfl⟩
def mbS (A : Option Addr) (c : Nat) (b : MBlk) : SV := .agg [.v (.slice A b.code.length c), .v (.int .i64 b.term.kind), .v (.int .i64 b.term.a), .v (.int .i64 b.term.to_), .v (.int .i64 b.term.els)]
set_option maxHeartbeats 8000000 in
theorem macBlock_fn (G : Gh) (A B : Option Addr) (c d : Nat) (f : MFn) (b : MBlk) (hl : kMac.S G B d b.code) (hbl : f.blocks.length ≤ 1000000000) :
    Ct Tryz.prog 132 [mfnS A c f, mbS B d b] [] G fun sv H' G' => sv = .v (.int .i64 (eMBlk f.regs f.slots f.blocks.length b)) ∧ H' = [] := by
  refine fn_of follows [] Tryz.func132 rfl rfl fun E hE => ?_
  have hcap := hl.cap
  unfold mfnS mbS
  repeat' ((fail_if_success with_reducible refine Stop.mk ?_);(conv=>whnf);with_reducible refine stop ?_)
  all_goals refine Stop.mk ?_
  refine loop_vars follows [] (α := Nat × Gh) (fun x => [(5, .v (.int .i64 (runK b.code x.1))), (12, .v (.int .i64 x.1))]) (fun x => [.cells 28 [.v (.int .i64 f.args), .v (.int .i64 f.regs), .v (.int .i64 f.slots), .v (.slice A f.blocks.length c)], .cells 63 [.v (.slice B b.code.length d), .v (.int .i64 b.term.kind), .v (.int .i64 b.term.a), .v (.int .i64 b.term.to_), .v (.int .i64 b.term.els)]]) (fun x => x.2)
    (fun x => x.1 ≤ b.code.length ∧ kMac.S x.2 B d b.code ∧ ∀ i, i < x.1 → eMAt f.regs f.slots b.code i = 0) (fun x => b.code.length - x.1) (0, G)
    ⟨Nat.zero_le _, hl, fun j h => absurd h (Nat.not_lt_zero _)⟩ rfl rfl ?_ ?_
  ·
    refine ⟨?_⟩
    (conv => whnf)
    (repeat' (first | exact trivial | exact .inl rfl | exact .inr rfl | refine And.intro ?_ ?_))
  clear hl
  rintro ⟨j, Gj⟩ ⟨hj, hl, hchk⟩
  dsimp only at hj hl hchk ⊢
  have hrk := runK_le b.code j
  have hrn := runK_nonneg b.code j
  repeat' ((fail_if_success with_reducible refine Stop.mk ?_);(conv=>whnf);with_reducible first|refine br_d (fun h=>?_) fun h=>?_|refine stop ?_)
  all_goals refine Stop.mk ?_
  ·
    obtain ⟨_, hs_, hat_⟩ := hl.at (sz := 7) rfl
    refine ⟨⟨by omega, by omega⟩, _, hs_, fun ad had hadr => ?_⟩
    obtain ⟨i, cells, hi, hRi, hGi⟩ := hat_ j (by omega) ad (by first | exact had | (rw [Int.toNat_natCast] at had; exact had))
    clear had hat_ hs_
    obtain ⟨rfl, hiok⟩ := hRi
    have hw2 : IntKind.i64.wrap ((j : Int) + 1) = ((j + 1 : Nat) : Int) := by rw [i64_in (by omega) (by omega)]; simp
    have hw3 : IntKind.i64.wrap (runK b.code j + 1) = runK b.code j + 1 := i64_in (by omega) (by omega)
    have hei := eMAt_of (regs := f.regs) (slots := f.slots) hi
    have hjl : j < b.code.length := (List.getElem?_eq_some_iff.1 hi).1
    have hco := eMBlk_code (regs := f.regs) (slots := f.slots) (n := f.blocks.length) hjl hchk
    have hnx := runK_next b.code j i hi
    unfold nxR at hnx
    repeat' ((fail_if_success with_reducible refine Stop.mk ?_);(conv=>whnf);with_reducible refine stop ?_)
    all_goals refine Stop.mk ?_
    refine ⟨_, rfl, hGi, ?_⟩
    repeat' ((fail_if_success with_reducible refine Stop.mk ?_);(conv=>whnf);with_reducible refine stop ?_)
    all_goals refine Stop.mk ?_
    refine call_fn [] (macInstr_fn _ i f.regs f.slots hiok) rfl trivial (by decide) ?_
    rintro sv H' G' ⟨rfl, rfl⟩ hg
    refine ⟨Nat.le_of_ble_eq_true rfl, ?_⟩
    replace hl := hl.to hg
    clear hg
    generalize eMac f.regs f.slots i = e at *
    repeat' ((fail_if_success with_reducible refine Stop.mk ?_);(conv=>whnf);with_reducible first|refine br_d (fun h=>?_) fun h=>?_|refine br_n (fun h=>?_) fun h=>?_|refine stop ?_)
    all_goals refine Stop.mk ?_
    all_goals try
      refine fin_id hE 0 rfl rfl rfl rfl ⟨congrArg (fun e => SV.v (.int .i64 e)) ?_, rfl⟩
      have hne : e ≠ 0 := by assumption
      rw [if_pos hne] at hei
      rw [hco (by rw [hei]; exact hne), hei]
    all_goals
      have he0 : e = 0 := by omega
      rw [if_neg (by omega)] at hei
      try rw [hw3] at h
    all_goals
      first
        | (have h18 : i.op = 18 := by assumption
           rw [if_pos h18] at hnx)
        | (have h18 : i.op ≠ 18 := by assumption
           rw [if_neg h18] at hnx)
    all_goals try
      refine fin_id hE 0 rfl rfl rfl rfl ⟨congrArg (fun e => SV.v (.int .i64 e)) ?_, rfl⟩
      rw [if_pos (by omega)] at hei
      rw [hco (by rw [hei]; decide), hei]
    all_goals try (exfalso; omega)
    all_goals
      rw [if_neg (by omega)] at hei
      rw [hw2]
      try rw [hw3]
      refine tell_gc hE [0, 1] rfl rfl ?_
      (conv => whnf)
      refine tell_here ⟨(j + 1, _), ⟨by show j + 1 ≤ _; omega, hl, eMAt_next hchk hei⟩, by show b.code.length - (j + 1) < b.code.length - j; omega, rfl, rfl, ?_⟩
      dsimp only
      rw [hnx]
      refine ⟨?_⟩
      (conv => whnf)
      (repeat' (first | exact trivial | exact .inl rfl | exact .inr rfl | refine And.intro ?_ ?_))
  · have hjl : j = b.code.length := by omega
    subst hjl
    have hbt2 := eMBlk_term (n := f.blocks.length) hchk
    refine call_fn [] (srcTerm_fn _ b.term f.regs f.blocks.length) rfl trivial (by decide) ?_
    rintro sv H' G' ⟨rfl, rfl⟩ -
    refine ⟨Nat.le_of_ble_eq_true rfl, ?_⟩
    repeat' ((fail_if_success with_reducible refine Stop.mk ?_);(conv=>whnf);with_reducible refine stop ?_)
    all_goals refine Stop.mk ?_
    refine fin_id hE 0 rfl rfl rfl rfl ⟨congrArg (fun e => SV.v (.int .i64 e)) ?_, rfl⟩
    rw [hbt2]
set_option maxHeartbeats 8000000 in
theorem macCheck_fn (G : Gh) (A : Option Addr) (c : Nat) (f : MFn) (hl : kMBlk.S G A c f.blocks) (hbl : f.blocks.length ≤ 1000000000) (htl : totMB f.blocks ≤ 1000000000) :
    Ct Tryz.prog 90 [mfnS A c f] [] G fun sv H' G' => sv = .v (.int .i64 (eMFn f)) ∧ H' = [] := by
  have hef : eMFn f = if f.args < 0 ∨ f.args > f.slots then 10 else if f.regs < 0 then 9 else if f.slots > 1048576 ∨ f.regs > 1048576 then 6 else if f.blocks.length = 0 then 14
    else if f.blocks.length > 1048576 ∨ totMB f.blocks > 1048576 then 6 else first0 (eMBlk f.regs f.slots f.blocks.length) f.blocks := rfl
  refine fn_of follows [] Tryz.func90 rfl rfl fun E hE => ?_
  have hcap := hl.cap
  unfold mfnS
  repeat' ((fail_if_success with_reducible refine Stop.mk ?_);(conv=>whnf);with_reducible first|refine br_t ?_|refine br_d (fun h=>?_) fun h=>?_|refine br_e (fun h=>?_) fun h=>?_|refine stop ?_)
  all_goals refine Stop.mk ?_
  all_goals try
    refine call_fn [] (macCode_fn _ A c f hl hbl htl) rfl trivial (by decide) ?_
    rintro sv H' G' ⟨rfl, rfl, rfl⟩ -
    refine ⟨Nat.le_of_ble_eq_true rfl, ?_⟩
    repeat' ((fail_if_success with_reducible refine Stop.mk ?_);(conv=>whnf);with_reducible first|refine br_d (fun h=>?_) fun h=>?_|refine stop ?_)
    all_goals refine Stop.mk ?_
  all_goals try
    refine fin_id hE 0 rfl rfl rfl rfl ⟨congrArg (fun e => SV.v (.int .i64 e)) ?_, rfl⟩
    rw [hef]
    generalize first0 (eMBlk f.regs f.slots f.blocks.length) f.blocks = z at *
    clear hef
    (repeat' split) <;> omega
  clear hef
  have hbase : MBase f := by unfold MBase; omega
  refine loop_vars follows [] (α := Nat × Gh) (fun x => [(48, .v (.int .i64 x.1))]) (fun x => [.cells 28 [.v (.int .i64 f.args), .v (.int .i64 f.regs), .v (.int .i64 f.slots), .v (.slice A f.blocks.length c)]]) (fun x => x.2)
    (fun x => x.1 ≤ f.blocks.length ∧ kMBlk.S x.2 A c f.blocks ∧ ∀ j, j < x.1 → eAt (eMBlk f.regs f.slots f.blocks.length) f.blocks j = 0) (fun x => f.blocks.length - x.1) (0, _)
    ⟨Nat.zero_le _, hl, fun j h => absurd h (Nat.not_lt_zero _)⟩ rfl rfl ?_ ?_
  ·
    refine ⟨?_⟩
    (conv => whnf)
    (repeat' (first | exact trivial | exact .inl rfl | exact .inr rfl | refine And.intro ?_ ?_))
  clear hl
  rintro ⟨k, Gk⟩ ⟨hk, hl, hall⟩
  dsimp only at hk hl hall ⊢
  have hw2 : IntKind.i64.wrap ((k : Int) + 1) = ((k + 1 : Nat) : Int) := by rw [i64_in (by omega) (by omega)]; simp
  repeat' ((fail_if_success with_reducible refine Stop.mk ?_);(conv=>whnf);with_reducible first|refine br_d (fun h=>?_) fun h=>?_|refine stop ?_)
  all_goals refine Stop.mk ?_
  ·
    obtain ⟨_, hs_, hat_⟩ := hl.at (sz := 5) rfl
    refine ⟨⟨by omega, by omega⟩, _, hs_, fun ad had hadr => ?_⟩
    obtain ⟨b, cells, hb, hRb, hGb⟩ := hat_ k (by omega) ad (by first | exact had | (rw [Int.toNat_natCast] at had; exact had))
    clear had hat_ hs_
    obtain ⟨A', c', rfl, hS, hbt⟩ := kMBlk_R hRb
    have hat := eMFn_at hbase hb hall
    repeat' ((fail_if_success with_reducible refine Stop.mk ?_);(conv=>whnf);with_reducible refine stop ?_)
    all_goals refine Stop.mk ?_
    refine ⟨_, rfl, hGb, ?_⟩
    repeat' ((fail_if_success with_reducible refine Stop.mk ?_);(conv=>whnf);with_reducible refine stop ?_)
    all_goals refine Stop.mk ?_
    refine call_fn [] (macBlock_fn _ A A' c c' f b hS (by omega)) rfl trivial (by decide) ?_
    rintro sv H' G' ⟨rfl, rfl⟩ hg
    refine ⟨Nat.le_of_ble_eq_true rfl, ?_⟩
    replace hl := hl.to hg
    clear hg
    generalize heb : eMBlk f.regs f.slots f.blocks.length b = e at *
    repeat' ((fail_if_success with_reducible refine Stop.mk ?_);(conv=>whnf);with_reducible first|refine br_n (fun h=>?_) fun h=>?_|refine stop ?_)
    all_goals refine Stop.mk ?_
    all_goals try
      refine fin_id hE 0 rfl rfl rfl rfl ⟨congrArg (fun e => SV.v (.int .i64 e)) ?_, rfl⟩
      rw [hat (by assumption)]
    have he0 : e = 0 := by omega
    rw [hw2]
    refine tell_gc hE [0] rfl rfl ?_
    (conv => whnf)
    refine tell_here ⟨(k + 1, _), ⟨by show k + 1 ≤ _; omega, hl, eAt_next hb hall (by rw [heb]; exact he0)⟩, by show f.blocks.length - (k + 1) < f.blocks.length - k; omega, rfl, rfl, ?_⟩
    refine ⟨?_⟩
    (conv => whnf)
    (repeat' (first | exact trivial | exact .inl rfl | exact .inr rfl | refine And.intro ?_ ?_))
  · have hkl : k = f.blocks.length := by omega
    subst hkl
    exact fin_id hE 0 rfl rfl rfl rfl ⟨by rw [eMFn_zero hbase hall], rfl⟩
end Go.Proofs.YtchebkpcgglllaaGreat.Cu
