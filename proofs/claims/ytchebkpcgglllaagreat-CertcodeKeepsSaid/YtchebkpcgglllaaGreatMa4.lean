/- Machines: the reference's check of a function. -/
import Derived.Test.YtchebkpcgglllaaGreatMax
namespace Go.Proofs.YtchebkpcgglllaaGreat.Cu
open Go Go.SX Go.Proofs.YtchebkpcgglllaaGreat.VT
set_option maxRecDepth 100000
set_option linter.unusedVariables false
set_option linter.unusedSimpArgs false
theorem win_iff {l : List Mac} {j : Nat} {r : Int} (h64 : 64 ≤ j) (hj : j < l.length) (h : Longest ((l.drop (j - 64)).take 65) r) : r > 64 ↔ runK l (j + 1) > 64 := by
  have hl65 : ((l.drop (j - 64)).take 65).length = 65 := by rw [List.length_take, List.length_drop]; omega
  have h1 : r > 64 ↔ ((65 : Nat) : Int) ≤ r := by omega
  have h2 : runK l (j + 1) > 64 ↔ ((65 : Nat) : Int) ≤ runK l (j + 1) := by omega
  rw [h1, h2, h.2 65, run_runAt l (j + 1) 65 (by omega) (by omega)]
  have hg : ∀ i, i < 65 → ((l.drop (j - 64)).take 65)[i]? = l[j - 64 + i]? := fun i hi => by rw [List.getElem?_take, if_pos hi, List.getElem?_drop]
  constructor
  · rintro ⟨i, h3, h4⟩
    have h5 : i = 0 := by omega
    subst h5
    refine ⟨by omega, fun m x h6 h7 hx => h4 (m - (j - 64)) x (by omega) (by omega) ?_⟩
    rw [hg _ (by omega), show j - 64 + (m - (j - 64)) = m by omega]
    exact hx
  · rintro ⟨h3, h4⟩
    refine ⟨0, by omega, fun m x h6 h7 hx => ?_⟩
    rw [hg m (by omega)] at hx
    exact h4 (j - 64 + m) x (by omega) (by omega) hx
theorem eMAt_of {regs slots : Int} {l : List Mac} {j : Nat} {i : Mac} (h : l[j]? = some i) : eMAt regs slots l j = if eMac regs slots i ≠ 0 then eMac regs slots i else if runK l (j + 1) > 64 then 15 else 0 := by
  unfold eMAt
  rw [eAt_is h]
theorem eMBlk_code {regs slots n : Int} {b : MBlk} {j : Nat} (hj : j < b.code.length) (h0 : ∀ i, i < j → eMAt regs slots b.code i = 0) (h1 : eMAt regs slots b.code j ≠ 0) : eMBlk regs slots n b = eMAt regs slots b.code j := by
  unfold eMBlk
  rw [firstN_at _ j h1 h0 _ hj, if_pos h1]
theorem eMBlk_term {regs slots n : Int} {b : MBlk} (h0 : ∀ i, i < b.code.length → eMAt regs slots b.code i = 0) : eMBlk regs slots n b = eTrm regs n b.term := by
  unfold eMBlk
  rw [firstN_zero _ _ h0, if_neg (by simp)]
def MBase (f : MFn) : Prop := (0 ≤ f.args ∧ f.args ≤ f.slots) ∧ (0 ≤ f.regs ∧ f.regs ≤ 1048576 ∧ f.slots ≤ 1048576) ∧ f.blocks.length ≠ 0 ∧ f.blocks.length ≤ 1048576 ∧ totMB f.blocks ≤ 1048576
theorem eMFn_base {f : MFn} (h : MBase f) : eMFn f = first0 (eMBlk f.regs f.slots f.blocks.length) f.blocks := by
  obtain ⟨h1, h2, h3, h4, h5⟩ := h
  unfold eMFn
  rw [if_neg (by omega), if_neg (by omega), if_neg (by omega), if_neg h3, if_neg (by omega)]
theorem eMFn_at {f : MFn} (h : MBase f) {k : Nat} {b : MBlk} (hb : f.blocks[k]? = some b) (h0 : ∀ j, j < k → eAt (eMBlk f.regs f.slots f.blocks.length) f.blocks j = 0) (h1 : eMBlk f.regs f.slots f.blocks.length b ≠ 0) : eMFn f = eMBlk f.regs f.slots f.blocks.length b := by
  rw [eMFn_base h]
  unfold first0
  rw [firstN_at _ k (by rw [eAt_is hb]; exact h1) h0 _ (List.getElem?_eq_some_iff.1 hb).1, eAt_is hb]
theorem eMFn_zero {f : MFn} (h : MBase f) (h0 : ∀ j, j < f.blocks.length → eAt (eMBlk f.regs f.slots f.blocks.length) f.blocks j = 0) : eMFn f = 0 := by
  rw [eMFn_base h]
  exact firstN_zero _ _ h0
theorem eAt_next {α : Type} {e : α → Int} {l : List α} {k : Nat} {x : α} (hx : l[k]? = some x) (h0 : ∀ j, j < k → eAt e l j = 0) (h : e x = 0) : ∀ j, j < k + 1 → eAt e l j = 0 := by
  intro j hj
  rcases Nat.lt_or_ge j k with h1 | h1
  · exact h0 j h1
  · have : j = k := by omega
    subst this
    rw [eAt_is hx]; exact h
theorem eMAt_next {regs slots : Int} {l : List Mac} {k : Nat} (h0 : ∀ j, j < k → eMAt regs slots l j = 0) (h : eMAt regs slots l k = 0) : ∀ j, j < k + 1 → eMAt regs slots l j = 0 := by
  intro j hj
  rcases Nat.lt_or_ge j k with h1 | h1
  · exact h0 j h1
  · have : j = k := by omega
    subst this; exact h
set_option maxHeartbeats 8000000 in
theorem check8E_fn (G : Gh) (A : Option Addr) (c : Nat) (f : MFn) (hl : kMBlk.S G A c f.blocks) (hbl : f.blocks.length ≤ 1000000000) (htl : totMB f.blocks ≤ 1000000000) :
    Ct Tryz.prog 54 [mfnS A c f] [] G fun sv H' G' => sv = .v (.int .i64 (eMFn f)) ∧ H' = [] ∧ G' = G := by
  have hef : eMFn f = if f.args < 0 ∨ f.args > f.slots then 10 else if f.regs < 0 then 9 else if f.slots > 1048576 ∨ f.regs > 1048576 then 6 else if f.blocks.length = 0 then 14
    else if f.blocks.length > 1048576 ∨ totMB f.blocks > 1048576 then 6 else first0 (eMBlk f.regs f.slots f.blocks.length) f.blocks := rfl
  refine fn_of follows [(18, (.cons 0 [] (.cons 1 [] (.cons 2 [] (.cons 3 [] (.cons 4 [] (.cons 5 [] (.cons 6 [] (.cons 7 [] (.cons 8 [] (.cons 9 [1, 4, 6, 8] (.cons 10 [] .nil))))))))))))] Tryz.func54 rfl rfl fun E hE => ?_
  have hcap := hl.cap
  unfold mfnS
  repeat' ((fail_if_success with_reducible refine Stop.mk ?_);(conv=>whnf);with_reducible first|refine br_t ?_|refine br_d (fun h=>?_) fun h=>?_|refine br_e (fun h=>?_) fun h=>?_|refine stop ?_)
  all_goals refine Stop.mk ?_
  all_goals try
    refine call_fn [] (code8_fn _ A c f hl hbl htl) rfl trivial (by decide) ?_
    rintro sv H' G' ⟨rfl, rfl, rfl⟩ -
    refine ⟨Nat.le_of_ble_eq_true rfl, ?_⟩
    repeat' ((fail_if_success with_reducible refine Stop.mk ?_);(conv=>whnf);with_reducible first|refine br_d (fun h=>?_) fun h=>?_|refine stop ?_)
    all_goals refine Stop.mk ?_
  all_goals try
    refine fin_id hE 0 rfl rfl rfl rfl ⟨congrArg (fun e => SV.v (.int .i64 e)) ?_, rfl, rfl⟩
    rw [hef]
    generalize first0 (eMBlk f.regs f.slots f.blocks.length) f.blocks = z at *
    clear hef
    (repeat' split) <;> omega
  clear hef
  have hbase : MBase f := by unfold MBase; omega
  refine loop_vars follows [(18, (.cons 0 [] (.cons 1 [] (.cons 2 [] (.cons 3 [] (.cons 4 [] (.cons 5 [] (.cons 6 [] (.cons 7 [] (.cons 8 [] (.cons 9 [1, 4, 6, 8] (.cons 10 [] .nil))))))))))))] (α := Nat) (fun k => [(3, .v (.int .i64 k))]) (fun x => [.cells 28 [.v (.int .i64 f.args), .v (.int .i64 f.regs), .v (.int .i64 f.slots), .v (.slice A f.blocks.length c)]]) (fun x => _) (fun k => k ≤ f.blocks.length ∧ ∀ j, j < k → eAt (eMBlk f.regs f.slots f.blocks.length) f.blocks j = 0) (fun k => f.blocks.length - k) 0
    ⟨Nat.zero_le _, fun j h => absurd h (Nat.not_lt_zero _)⟩ rfl rfl ?_ ?_
  ·
    refine ⟨?_⟩
    (conv => whnf)
    (repeat' (first | exact trivial | exact .inl rfl | exact .inr rfl | refine And.intro ?_ ?_))
  intro k hI
  obtain ⟨hk, hall⟩ := hI
  have hw2 : IntKind.i64.wrap ((k : Int) + 1) = ((k + 1 : Nat) : Int) := by rw [i64_in (by omega) (by omega)]; simp
  repeat' ((fail_if_success with_reducible refine Stop.mk ?_);(conv=>whnf);with_reducible first|refine br_d (fun h=>?_) fun h=>?_|refine stop ?_)
  all_goals refine Stop.mk ?_
  ·
    obtain ⟨_, hs_, hat_⟩ := hl.at (sz := 5) rfl
    refine ⟨⟨by omega, by omega⟩, _, hs_, fun ad had hadr => ?_⟩
    obtain ⟨b, cells, hb, hRb, hGb⟩ := hat_ k (by omega) ad (by first | exact had | (rw [Int.toNat_natCast] at had; exact had))
    clear had hat_ hs_
    obtain ⟨A', c', rfl, hS, hbt⟩ := kMBlk_R hRb
    have hat := eMFn_at hbase hb hall
    have hcap2 := hS.cap
    have hclb : b.code.length ≤ totMB f.blocks := by
      have h1 := totMB_take f.blocks k b hb
      have h2 := totMB_le f.blocks (k + 1)
      omega
    repeat' ((fail_if_success with_reducible refine Stop.mk ?_);(conv=>whnf);with_reducible refine stop ?_)
    all_goals refine Stop.mk ?_
    refine ⟨_, rfl, hGb, ?_⟩
    repeat' ((fail_if_success with_reducible refine Stop.mk ?_);(conv=>whnf);with_reducible refine stop ?_)
    all_goals refine Stop.mk ?_
    refine loop_opq fun K1 hK1 => ?_
    refine loop_vars follows [(18, (.cons 0 [] (.cons 1 [] (.cons 2 [] (.cons 3 [] (.cons 4 [] (.cons 5 [] (.cons 6 [] (.cons 7 [] (.cons 8 [] (.cons 9 [1, 4, 6, 8] (.cons 10 [] .nil))))))))))))] (α := Nat) (fun k => [(5, .v (.int .i64 k))]) (fun x => [.cells 28 [.v (.int .i64 f.args), .v (.int .i64 f.regs), .v (.int .i64 f.slots), .v (.slice A f.blocks.length c)], .cells 63 [.v (.slice A' b.code.length c'), .v (.int .i64 b.term.kind), .v (.int .i64 b.term.a), .v (.int .i64 b.term.to_), .v (.int .i64 b.term.els)]]) (fun x => G') (fun j => j ≤ b.code.length ∧ ∀ i, i < j → eMAt f.regs f.slots b.code i = 0) (fun j => b.code.length - j) 0
      ⟨Nat.zero_le _, fun j h => absurd h (Nat.not_lt_zero _)⟩ rfl rfl ?_ ?_
    ·
      refine ⟨?_⟩
      (conv => whnf)
      (repeat' (first | exact trivial | exact .inl rfl | exact .inr rfl | refine And.intro ?_ ?_))
    intro j hJ
    obtain ⟨hj, hchk⟩ := hJ
    have hw3 : IntKind.i64.wrap ((j : Int) + 1) = ((j + 1 : Nat) : Int) := by rw [i64_in (by omega) (by omega)]; simp
    repeat' ((fail_if_success with_reducible refine Stop.mk ?_);(conv=>whnf);with_reducible first|refine br_d (fun h=>?_) fun h=>?_|refine drw (by kernel_rfl) ?_|refine stop ?_)
    all_goals refine Stop.mk ?_
    ·
      obtain ⟨_, hs_, hat_⟩ := hS.at (sz := 7) rfl
      refine ⟨⟨by omega, by omega⟩, _, hs_, fun ad had hadr => ?_⟩
      obtain ⟨i, cells, hi, hRi, hGi⟩ := hat_ j (by omega) ad (by first | exact had | (rw [Int.toNat_natCast] at had; exact had))
      clear had hat_ hs_
      obtain ⟨rfl, hiok⟩ := hRi
      have hei := eMAt_of (regs := f.regs) (slots := f.slots) hi
      have hjl : j < b.code.length := (List.getElem?_eq_some_iff.1 hi).1
      have hco := eMBlk_code (regs := f.regs) (slots := f.slots) (n := f.blocks.length) hjl hchk
      have hrle := runK_le b.code (j + 1)
      repeat' ((fail_if_success with_reducible refine Stop.mk ?_);(conv=>whnf);with_reducible refine stop ?_)
      all_goals refine Stop.mk ?_
      refine ⟨_, rfl, hGi, ?_⟩
      repeat' ((fail_if_success with_reducible refine Stop.mk ?_);(conv=>whnf);with_reducible refine stop ?_)
      all_goals refine Stop.mk ?_
      refine call_fn [] (r8InstrE_fn _ i f.regs f.slots hiok) rfl trivial (by decide) ?_
      rintro sv H' G' ⟨rfl, rfl, rfl⟩ -
      refine ⟨Nat.le_of_ble_eq_true rfl, ?_⟩
      generalize eMac f.regs f.slots i = e at *
      repeat' ((fail_if_success with_reducible refine Stop.mk ?_);(conv=>whnf);with_reducible first|refine br_f ?_|refine br_d (fun h=>?_) fun h=>?_|refine br_n (fun h=>?_) fun h=>?_|refine stop ?_)
      all_goals refine Stop.mk ?_
      rotate_left 2
      · have hne : e ≠ 0 := by assumption
        rw [if_pos hne] at hei
        refine Stop.mk (hK1 _ _ ?_)
        clear hK1
        repeat' ((fail_if_success with_reducible refine Stop.mk ?_);(conv=>whnf);with_reducible refine stop ?_)
        all_goals refine Stop.mk ?_
        refine fin_id hE 0 rfl rfl rfl rfl ⟨congrArg (fun e => SV.v (.int .i64 e)) ?_, rfl, rfl⟩
        have h1 := hco (by rw [hei]; exact hne)
        rw [hat (by rw [h1, hei]; exact hne), h1, hei]
      · have he0 : e = 0 := by assumption
        rw [if_neg (by omega)] at hei
        have hj64 : 64 ≤ j := by omega
        have hw5 : IntKind.i64.wrap ((j : Int) - 64) = ((j - 64 : Nat) : Int) := by rw [i64_in (by omega) (by omega)]; omega
        rw [hw3]
        refine ⟨⟨by omega, by omega⟩, ?_⟩
        repeat' ((fail_if_success with_reducible refine Stop.mk ?_);(conv=>whnf);with_reducible refine stop ?_)
        all_goals refine Stop.mk ?_
        rw [hw5]
        refine ⟨⟨by omega, by omega⟩, fun A2 hA2 => ?_⟩
        rw [Int.toNat_natCast] at hA2
        simp only [Int.toNat_natCast]
        have hS2 := (hS.drop_ (a := j - 64) (by omega) hA2).take_ (k := 65) (by rw [List.length_drop]; omega)
        have hl65 : ((b.code.drop (j - 64)).take 65).length = 65 := by rw [List.length_take, List.length_drop]; omega
        have hmv := rMovesE_fn G' A2 (c' - (j - 64)) ((b.code.drop (j - 64)).take 65) hS2
        rw [hl65] at hmv
        rw [show j + 1 - (j - 64) = 65 by omega]
        repeat' ((fail_if_success with_reducible refine Stop.mk ?_);(conv=>whnf);with_reducible refine stop ?_)
        all_goals refine Stop.mk ?_
        refine call_fn [] hmv rfl trivial (by decide) ?_
        rintro sv H' G' ⟨r, rfl, hr, rfl, rfl⟩ -
        refine ⟨Nat.le_of_ble_eq_true rfl, ?_⟩
        have hwinj := win_iff hj64 hjl hr
        repeat' ((fail_if_success with_reducible refine Stop.mk ?_);(conv=>whnf);with_reducible first|refine br_d (fun h=>?_) fun h=>?_|refine stop ?_)
        all_goals refine Stop.mk ?_
        · have hr64 : r > 64 := by assumption
          rw [if_pos (hwinj.1 hr64)] at hei
          refine Stop.mk (hK1 _ _ ?_)
          clear hK1
          repeat' ((fail_if_success with_reducible refine Stop.mk ?_);(conv=>whnf);with_reducible refine stop ?_)
          all_goals refine Stop.mk ?_
          refine fin_id hE 0 rfl rfl rfl rfl ⟨congrArg (fun e => SV.v (.int .i64 e)) ?_, rfl, rfl⟩
          have h1 := hco (by rw [hei]; decide)
          rw [hat (by rw [h1, hei]; decide), h1, hei]
        · have hr64 : ¬ r > 64 := by assumption
          rw [if_neg (fun h9 => hr64 (hwinj.2 h9))] at hei
          rw [hw3]
          refine tell_here ⟨j + 1, ⟨by omega, eMAt_next hchk hei⟩, by show b.code.length - (j + 1) < b.code.length - j; omega, rfl, rfl, ?_⟩
          refine ⟨?_⟩
          (conv => whnf)
          (repeat' (first | exact trivial | exact .inl rfl | exact .inr rfl | refine And.intro ?_ ?_))
      · have he0 : e = 0 := by assumption
        rw [if_neg (by omega), if_neg (by omega)] at hei
        rw [hw3]
        refine tell_here ⟨j + 1, ⟨by omega, eMAt_next hchk hei⟩, by show b.code.length - (j + 1) < b.code.length - j; omega, rfl, rfl, ?_⟩
        refine ⟨?_⟩
        (conv => whnf)
        (repeat' (first | exact trivial | exact .inl rfl | exact .inr rfl | refine And.intro ?_ ?_))
    · have hjl : j = b.code.length := by omega
      subst hjl
      have hbt2 := eMBlk_term (n := f.blocks.length) hchk
      refine Stop.mk (hK1 _ _ ?_)
      clear hK1
      repeat' ((fail_if_success with_reducible refine Stop.mk ?_);(conv=>whnf);with_reducible refine stop ?_)
      all_goals refine Stop.mk ?_
      refine call_fn [] (r7TermE_fn _ b.term f.regs f.blocks.length) rfl trivial (by decide) ?_
      rintro sv H' G' ⟨rfl, rfl, rfl⟩ -
      refine ⟨Nat.le_of_ble_eq_true rfl, ?_⟩
      generalize eTrm f.regs f.blocks.length b.term = e at *
      repeat' ((fail_if_success with_reducible refine Stop.mk ?_);(conv=>whnf);with_reducible first|refine br_n (fun h=>?_) fun h=>?_|refine stop ?_)
      all_goals refine Stop.mk ?_
      rotate_left
      · have hne : e ≠ 0 := by assumption
        refine fin_id hE 0 rfl rfl rfl rfl ⟨congrArg (fun e => SV.v (.int .i64 e)) ?_, rfl, rfl⟩
        rw [hat (by rw [hbt2]; exact hne), hbt2]
      · have he0 : e = 0 := by assumption
        rw [hw2]
        refine tell_gc hE [0] rfl rfl ?_
        (conv => whnf)
        refine tell_here ⟨k + 1, ⟨by omega, eAt_next hb hall (by rw [hbt2]; exact he0)⟩, by show f.blocks.length - (k + 1) < f.blocks.length - k; omega, rfl, rfl, ?_⟩
        refine ⟨?_⟩
        (conv => whnf)
        (repeat' (first | exact trivial | exact .inl rfl | exact .inr rfl | refine And.intro ?_ ?_))
  · have hkl : k = f.blocks.length := by omega
    subst hkl
    exact fin_id hE 0 rfl rfl rfl rfl ⟨by rw [eMFn_zero hbase hall], rfl, rfl⟩
end Go.Proofs.YtchebkpcgglllaaGreat.Cu
