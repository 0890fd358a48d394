/- Fux: Fu8, Fuw in one text. -/
import Derived.Test.YtchebkpcgglllaaGreatFu2
import Derived.Test.YtchebkpcgglllaaGreatInz
import Derived.Test.YtchebkpcgglllaaGreatFu3
namespace Go.Proofs.YtchebkpcgglllaaGreat.Cu
open Go Go.SX Go.Proofs.YtchebkpcgglllaaGreat.VT
set_option maxRecDepth 100000
set_option linter.unusedVariables false
set_option linter.unusedSimpArgs false

theorem okCode_iff (regs : Int) : ∀ (l : List Ins), okCode regs l ↔ ∀ i ∈ l, okIns regs i
  | [] => by simp [okCode, okL]
  | i :: l => by
    have := okCode_iff regs l
    unfold okCode at this ⊢
    simp only [okL, List.mem_cons, forall_eq_or_imp]
    rw [show okL (fun _ => okIns regs) nxU (nxU () i) l ↔ ∀ i ∈ l, okIns regs i from this]
theorem okBs_iff (regs n : Int) : ∀ (l : List Blk) (t : Int), 0 ≤ t → (okL (okB regs n) nxB t l ↔ ((l = [] ∨ t + totB l ≤ 1048576) ∧ ∀ b ∈ l, okCode regs b.code ∧ okTrm regs n b.term))
  | [], t, _ => by simp [okL]
  | x :: l, t, ht => by
    have h := okBs_iff regs n l (nxB t x) (by unfold nxB; omega)
    simp only [okL, totB]
    rw [h]
    unfold okB nxB
    constructor
    · rintro ⟨⟨h1, h2, h2'⟩, h3, h4⟩
      refine ⟨.inr ?_, ?_⟩
      · rcases h3 with rfl | h3
        · simp [totB]; omega
        · push_cast; omega
      · intro y hy
        rcases List.mem_cons.1 hy with rfl | hy
        · exact ⟨h2, h2'⟩
        · exact h4 y hy
    · rintro ⟨h1, h2⟩
      have h1' : t + ((x.code.length + totB l : Nat) : Int) ≤ 1048576 := by
        rcases h1 with h1 | h1
        · simp at h1
        · exact h1
      have h3 := h2 x (by simp)
      exact ⟨⟨by omega, h3.1, h3.2⟩, .inr (by omega), fun y hy => h2 y (by simp [hy])⟩
theorem okFn_iff (f : Fn) : okFn f ↔ (0 ≤ f.args ∧ f.args ≤ f.regs) ∧ f.regs ≤ 1048576 ∧ f.blocks.length ≠ 0 ∧ f.blocks.length ≤ 1048576 ∧ totB f.blocks ≤ 1048576 ∧ ∀ b ∈ f.blocks, (∀ i ∈ b.code, okIns f.regs i) ∧ okTrm f.regs f.blocks.length b.term := by
  unfold okFn
  rw [okBs_iff _ _ _ 0 (Int.le_refl _)]
  constructor
  · rintro ⟨⟨h1, h2⟩, ⟨h3, h4⟩, h5, h6⟩
    refine ⟨h1, h2, h3, h4, ?_, fun b hb => ⟨(okCode_iff _ _).1 (h6 b hb).1, (h6 b hb).2⟩⟩
    rcases h5 with h5 | h5
    · rw [h5] at h3; exact absurd rfl h3
    · omega
  · rintro ⟨h1, h2, h3, h4, h5, h6⟩
    exact ⟨⟨h1, h2⟩, ⟨h3, h4⟩, .inr (by omega), fun b hb => ⟨(okCode_iff _ _).2 (h6 b hb).1, (h6 b hb).2⟩⟩
set_option maxHeartbeats 8000000 in
theorem check7_fn (G : Gh) (A : Option Addr) (c : Nat) (f : Fn) (hl : kBlk.S G A c f.blocks) (hbl : f.blocks.length ≤ 1000000000) (htl : totB f.blocks ≤ 1000000000) :
    Ct Tryz.prog 53 [fnS A c f] [] G fun sv H' G' => ∃ e : Int, sv = .v (.int .i64 e) ∧ (e = 0 ↔ okFn f) ∧ H' = [] ∧ G' = G := by
  refine fn_of follows [(16, (.cons 0 [] (.cons 1 [] (.cons 2 [] (.cons 3 [] (.cons 4 [] (.cons 5 [] (.cons 6 [] (.cons 7 [1, 4, 6] (.cons 8 [] .nil))))))))))] Tryz.func53 rfl rfl fun E hE => ?_
  have hcap := hl.cap
  rw [okFn_iff]
  unfold fnS
  repeat' ((fail_if_success with_reducible refine Stop.mk ?_);(conv=>whnf);with_reducible first|refine br_t ?_|refine br_f ?_|refine br_nn ?_|refine br_ns ?_|refine br_not ?_|refine br_d (fun h=>?_) fun h=>?_|refine br_e (fun h=>?_) fun h=>?_|refine br_n (fun h=>?_) fun h=>?_|refine drw (by kernel_rfl) ?_|refine chk (by kernel_rfl) ?_|refine stop ?_)
  all_goals refine Stop.mk ?_
  all_goals try
    refine call_fn [] (code7_fn _ A c f hl hbl htl) rfl trivial (by decide) ?_
    rintro sv H' G' ⟨rfl, rfl, rfl⟩ -
    refine ⟨Nat.le_of_ble_eq_true rfl, ?_⟩
    repeat' ((fail_if_success with_reducible refine Stop.mk ?_);(conv=>whnf);with_reducible first|refine br_t ?_|refine br_f ?_|refine br_nn ?_|refine br_ns ?_|refine br_not ?_|refine br_d (fun h=>?_) fun h=>?_|refine br_e (fun h=>?_) fun h=>?_|refine br_n (fun h=>?_) fun h=>?_|refine drw (by kernel_rfl) ?_|refine chk (by kernel_rfl) ?_|refine stop ?_)
    all_goals refine Stop.mk ?_
  all_goals try
    refine fin_id hE 0 rfl rfl rfl rfl ⟨_, rfl, ⟨fun h9 => absurd h9 (by decide), fun h9 => ?_⟩, rfl, rfl⟩
    exfalso
    obtain ⟨⟨a1, a2⟩, a3, a4, a5, a6, _⟩ := h9
    omega
  have hbase : (0 ≤ f.args ∧ f.args ≤ f.regs) ∧ f.regs ≤ 1048576 ∧ f.blocks.length ≠ 0 ∧ f.blocks.length ≤ 1048576 ∧ totB f.blocks ≤ 1048576 := by omega
  refine loop_vars follows [(16, (.cons 0 [] (.cons 1 [] (.cons 2 [] (.cons 3 [] (.cons 4 [] (.cons 5 [] (.cons 6 [] (.cons 7 [1, 4, 6] (.cons 8 [] .nil))))))))))] (α := Nat) (fun k => [(3, .v (.int .i64 k))]) (fun x => [.cells 25 [.v (.int .i64 f.args), .v (.int .i64 f.regs), .v (.slice A f.blocks.length c)]]) (fun x => _) (fun k => k ≤ f.blocks.length ∧ ∀ b ∈ f.blocks.take k, (∀ i ∈ b.code, okIns f.regs i) ∧ okTrm f.regs f.blocks.length b.term) (fun k => f.blocks.length - k) 0
    ⟨Nat.zero_le _, by simp⟩ rfl rfl ?_ ?_
  ·
    refine ⟨?_⟩
    (conv => whnf)
    (repeat' (first | exact trivial | exact .inl rfl | exact .inr rfl | refine And.intro ?_ ?_))
  intro k hI
  obtain ⟨hk, hall⟩ := hI
  have hw2 : IntKind.i64.wrap ((k : Int) + 1) = ((k + 1 : Nat) : Int) := by rw [i64_in (by omega) (by omega)]; simp
  repeat' ((fail_if_success with_reducible refine Stop.mk ?_);(conv=>whnf);with_reducible first|refine br_t ?_|refine br_f ?_|refine br_nn ?_|refine br_ns ?_|refine br_not ?_|refine br_d (fun h=>?_) fun h=>?_|refine br_e (fun h=>?_) fun h=>?_|refine br_n (fun h=>?_) fun h=>?_|refine drw (by kernel_rfl) ?_|refine chk (by kernel_rfl) ?_|refine stop ?_)
  all_goals refine Stop.mk ?_
  ·
    obtain ⟨_, hs_, hat_⟩ := hl.at (sz := 5) rfl
    refine ⟨⟨by omega, by omega⟩, _, hs_, fun ad had hadr => ?_⟩
    obtain ⟨b, cells, hb, hRb, hGb⟩ := hat_ k (by omega) ad (by first | exact had | (rw [Int.toNat_natCast] at had; exact had))
    clear had hat_ hs_
    obtain ⟨A', c', rfl, hS, hbt⟩ := kBlk_R hRb
    have hbm := List.mem_of_getElem? hb
    have hcap2 := hS.cap
    have hclb : b.code.length ≤ totB f.blocks := by
      have h1 := totB_take f.blocks k b hb
      have h2 := totB_le f.blocks (k + 1)
      omega
    repeat' ((fail_if_success with_reducible refine Stop.mk ?_);(conv=>whnf);with_reducible first|refine br_t ?_|refine br_f ?_|refine br_nn ?_|refine br_ns ?_|refine br_not ?_|refine br_d (fun h=>?_) fun h=>?_|refine br_e (fun h=>?_) fun h=>?_|refine br_n (fun h=>?_) fun h=>?_|refine drw (by kernel_rfl) ?_|refine chk (by kernel_rfl) ?_|refine stop ?_)
    all_goals refine Stop.mk ?_
    refine ⟨_, rfl, hGb, ?_⟩
    repeat' ((fail_if_success with_reducible refine Stop.mk ?_);(conv=>whnf);with_reducible first|refine br_t ?_|refine br_f ?_|refine br_nn ?_|refine br_ns ?_|refine br_not ?_|refine br_d (fun h=>?_) fun h=>?_|refine br_e (fun h=>?_) fun h=>?_|refine br_n (fun h=>?_) fun h=>?_|refine drw (by kernel_rfl) ?_|refine chk (by kernel_rfl) ?_|refine stop ?_)
    all_goals refine Stop.mk ?_
    refine loop_opq fun K1 hK1 => ?_
    refine loop_vars follows [(16, (.cons 0 [] (.cons 1 [] (.cons 2 [] (.cons 3 [] (.cons 4 [] (.cons 5 [] (.cons 6 [] (.cons 7 [1, 4, 6] (.cons 8 [] .nil))))))))))] (α := Nat) (fun k => [(5, .v (.int .i64 k))]) (fun x => [.cells 25 [.v (.int .i64 f.args), .v (.int .i64 f.regs), .v (.slice A f.blocks.length c)], .cells 60 [.v (.slice A' b.code.length c'), .v (.int .i64 b.term.kind), .v (.int .i64 b.term.a), .v (.int .i64 b.term.to_), .v (.int .i64 b.term.els)]]) (fun x => G') (fun j => j ≤ b.code.length ∧ ∀ i ∈ b.code.take j, okIns f.regs i) (fun j => b.code.length - j) 0
      ⟨Nat.zero_le _, by simp⟩ rfl rfl ?_ ?_
    ·
      refine ⟨?_⟩
      (conv => whnf)
      (repeat' (first | exact trivial | exact .inl rfl | exact .inr rfl | refine And.intro ?_ ?_))
    intro j hJ
    obtain ⟨hj, hchk⟩ := hJ
    have hw3 : IntKind.i64.wrap ((j : Int) + 1) = ((j + 1 : Nat) : Int) := by rw [i64_in (by omega) (by omega)]; simp
    repeat' ((fail_if_success with_reducible refine Stop.mk ?_);(conv=>whnf);with_reducible first|refine br_t ?_|refine br_f ?_|refine br_nn ?_|refine br_ns ?_|refine br_not ?_|refine br_d (fun h=>?_) fun h=>?_|refine br_e (fun h=>?_) fun h=>?_|refine br_n (fun h=>?_) fun h=>?_|refine drw (by kernel_rfl) ?_|refine chk (by kernel_rfl) ?_|refine stop ?_)
    all_goals refine Stop.mk ?_
    ·
      obtain ⟨_, hs_, hat_⟩ := hS.at (sz := 5) rfl
      refine ⟨⟨by omega, by omega⟩, _, hs_, fun ad had hadr => ?_⟩
      obtain ⟨i, cells, hi, hRi, hGi⟩ := hat_ j (by omega) ad (by first | exact had | (rw [Int.toNat_natCast] at had; exact had))
      clear had hat_ hs_
      obtain ⟨rfl, hiok⟩ := hRi
      repeat' ((fail_if_success with_reducible refine Stop.mk ?_);(conv=>whnf);with_reducible first|refine br_t ?_|refine br_f ?_|refine br_nn ?_|refine br_ns ?_|refine br_not ?_|refine br_d (fun h=>?_) fun h=>?_|refine br_e (fun h=>?_) fun h=>?_|refine br_n (fun h=>?_) fun h=>?_|refine drw (by kernel_rfl) ?_|refine chk (by kernel_rfl) ?_|refine stop ?_)
      all_goals refine Stop.mk ?_
      refine ⟨_, rfl, hGi, ?_⟩
      repeat' ((fail_if_success with_reducible refine Stop.mk ?_);(conv=>whnf);with_reducible first|refine br_t ?_|refine br_f ?_|refine br_nn ?_|refine br_ns ?_|refine br_not ?_|refine br_d (fun h=>?_) fun h=>?_|refine br_e (fun h=>?_) fun h=>?_|refine br_n (fun h=>?_) fun h=>?_|refine drw (by kernel_rfl) ?_|refine chk (by kernel_rfl) ?_|refine stop ?_)
      all_goals refine Stop.mk ?_
      refine call_fn [] (r7Instr_fn _ i f.regs hiok.2.2.2.2) rfl trivial (by decide) ?_
      rintro sv H' G' ⟨e, rfl, he, rfl, rfl⟩ -
      refine ⟨Nat.le_of_ble_eq_true rfl, ?_⟩
      repeat' ((fail_if_success with_reducible refine Stop.mk ?_);(conv=>whnf);with_reducible first|refine br_t ?_|refine br_f ?_|refine br_nn ?_|refine br_ns ?_|refine br_not ?_|refine br_d (fun h=>?_) fun h=>?_|refine br_e (fun h=>?_) fun h=>?_|refine br_n (fun h=>?_) fun h=>?_|refine drw (by kernel_rfl) ?_|refine chk (by kernel_rfl) ?_|refine stop ?_)
      all_goals refine Stop.mk ?_
      rotate_left
      · have hne : e ≠ 0 := by assumption
        refine Stop.mk (hK1 _ _ ?_)
        clear hK1
        repeat' ((fail_if_success with_reducible refine Stop.mk ?_);(conv=>whnf);with_reducible first|refine br_t ?_|refine br_f ?_|refine br_nn ?_|refine br_ns ?_|refine br_not ?_|refine br_d (fun h=>?_) fun h=>?_|refine br_e (fun h=>?_) fun h=>?_|refine br_n (fun h=>?_) fun h=>?_|refine drw (by kernel_rfl) ?_|refine chk (by kernel_rfl) ?_|refine stop ?_)
        all_goals refine Stop.mk ?_
        refine fin_id hE 0 rfl rfl rfl rfl ⟨e, rfl, ⟨fun h9 => absurd h9 hne, fun h9 => ?_⟩, rfl, rfl⟩
        exact he.2 ((h9.2.2.2.2.2 b hbm).1 i (List.mem_of_getElem? hi))
      · have he0 : e = 0 := by assumption
        have hgood := he.1 he0
        rw [hw3]
        refine tell_gc hE [0, 1] rfl rfl ?_
        (conv => whnf)
        refine tell_here ⟨j + 1, ⟨by omega, ?_⟩, by show b.code.length - (j + 1) < b.code.length - j; omega, rfl, rfl, ?_⟩
        · intro x hx
          rw [List.take_add_one, hi] at hx
          rcases List.mem_append.1 hx with hx | hx
          · exact hchk x hx
          · simp at hx; subst hx; exact hgood
        ·
          refine ⟨?_⟩
          (conv => whnf)
          (repeat' (first | exact trivial | exact .inl rfl | exact .inr rfl | refine And.intro ?_ ?_))
    · have hjl : j = b.code.length := by omega
      subst hjl
      rw [List.take_length] at hchk
      refine Stop.mk (hK1 _ _ ?_)
      clear hK1
      repeat' ((fail_if_success with_reducible refine Stop.mk ?_);(conv=>whnf);with_reducible first|refine br_t ?_|refine br_f ?_|refine br_nn ?_|refine br_ns ?_|refine br_not ?_|refine br_d (fun h=>?_) fun h=>?_|refine br_e (fun h=>?_) fun h=>?_|refine br_n (fun h=>?_) fun h=>?_|refine drw (by kernel_rfl) ?_|refine chk (by kernel_rfl) ?_|refine stop ?_)
      all_goals refine Stop.mk ?_
      refine call_fn [] (r7Term_fn _ b.term f.regs f.blocks.length) rfl trivial (by decide) ?_
      rintro sv H' G' ⟨e, rfl, he, rfl, rfl⟩ -
      refine ⟨Nat.le_of_ble_eq_true rfl, ?_⟩
      repeat' ((fail_if_success with_reducible refine Stop.mk ?_);(conv=>whnf);with_reducible first|refine br_t ?_|refine br_f ?_|refine br_nn ?_|refine br_ns ?_|refine br_not ?_|refine br_d (fun h=>?_) fun h=>?_|refine br_e (fun h=>?_) fun h=>?_|refine br_n (fun h=>?_) fun h=>?_|refine drw (by kernel_rfl) ?_|refine chk (by kernel_rfl) ?_|refine stop ?_)
      all_goals refine Stop.mk ?_
      rotate_left
      · have hne : e ≠ 0 := by assumption
        refine fin_id hE 0 rfl rfl rfl rfl ⟨e, rfl, ⟨fun h9 => absurd h9 hne, fun h9 => ?_⟩, rfl, rfl⟩
        exact he.2 (h9.2.2.2.2.2 b hbm).2
      · have he0 : e = 0 := by assumption
        have hgood := he.1 he0
        rw [hw2]
        refine tell_gc hE [0] rfl rfl ?_
        (conv => whnf)
        refine tell_here ⟨k + 1, ⟨by omega, ?_⟩, by show f.blocks.length - (k + 1) < f.blocks.length - k; omega, rfl, rfl, ?_⟩
        · intro x hx
          rw [List.take_add_one, hb] at hx
          rcases List.mem_append.1 hx with hx | hx
          · exact hall x hx
          · simp at hx; subst hx; exact ⟨hchk, hgood⟩
        ·
          refine ⟨?_⟩
          (conv => whnf)
          (repeat' (first | exact trivial | exact .inl rfl | exact .inr rfl | refine And.intro ?_ ?_))
  · have hkl : k = f.blocks.length := by omega
    subst hkl
    rw [List.take_length] at hall
    refine fin_id hE 0 rfl rfl rfl rfl ⟨0, rfl, ⟨fun _ => ⟨hbase.1, hbase.2.1, hbase.2.2.1, hbase.2.2.2.1, hbase.2.2.2.2, hall⟩, fun _ => rfl⟩, rfl, rfl⟩
end Go.Proofs.YtchebkpcgglllaaGreat.Cu

namespace Go.Proofs.YtchebkpcgglllaaGreat.Cu
open Go Go.SX Go.Proofs.YtchebkpcgglllaaGreat.VT
set_option maxRecDepth 100000
set_option linter.unusedVariables false
set_option linter.unusedSimpArgs false
theorem flat_le {α : Type} (f : α → List Int) (b : Nat) : ∀ (l : List α), (∀ x ∈ l, (f x).length ≤ b) → ((l.map f).flatten).length ≤ b * l.length
  | [], _ => by simp
  | x :: l, h => by
    have h1 := flat_le f b l fun y hy => h y (by simp [hy])
    have h2 := h x (by simp)
    simp only [List.map_cons, List.flatten_cons, List.length_append, List.length_cons, Nat.mul_add]
    omega
theorem wBs_le : ∀ (l : List Blk), (wBs l).length ≤ 41 * l.length + 41 * totB l
  | [] => by simp [wBs]
  | b :: l => by
    have h1 := wBs_le l
    have h2 : (encCode b.code).length ≤ 41 * b.code.length := by rw [encCode_eq]; exact flat_le putInsB 41 b.code fun x _ => (putInsB_len x).2
    have h3 := putB_len b.code.length
    have h4 := (putTrmB_len b.term).2
    have h5 : (encB b).length = (putB b.code.length).length + (encCode b.code).length + (putTrmB b.term).length := by unfold encB; simp only [List.length_append]
    unfold wBs at *
    simp only [List.map_cons, List.flatten_cons, List.length_append, List.length_cons, totB, Nat.mul_add]
    omega
theorem okFn_ops {f : Fn} (h : okFn f) : opsB f.blocks := by
  obtain ⟨_, _, _, _, _, h6⟩ := (okFn_iff f).1 h
  intro b hb i hi
  exact ((h6 b hb).1 i hi).1.2
theorem okFn_trm {f : Fn} (h : okFn f) : trmsB f.blocks := by
  obtain ⟨_, _, _, _, _, h6⟩ := (okFn_iff f).1 h
  intro b hb
  exact (h6 b hb).2.1
theorem wFn_le (f : Fn) : (wFn f).length ≤ 40 + (wBs f.blocks).length := by
  have a1 := pU_len f.args
  have a2 := pU_len f.regs
  have a4 := putB_len f.blocks.length
  unfold wFn
  simp only [List.length_append]
  omega
end Go.Proofs.YtchebkpcgglllaaGreat.Cu
