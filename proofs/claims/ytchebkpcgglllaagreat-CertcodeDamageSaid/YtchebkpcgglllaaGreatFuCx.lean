/- FuCx: FuC, FuE, FuF in one text. -/
import Derived.Test.YtchebkpcgglllaaGreatFuA
import Derived.Test.YtchebkpcgglllaaGreatSXc
import Derived.Test.YtchebkpcgglllaaGreatFux
namespace Go.Proofs.YtchebkpcgglllaaGreat.Cu
open Go Go.SX Go.Proofs.YtchebkpcgglllaaGreat.VT
set_option maxRecDepth 100000
set_option linter.unusedVariables false
set_option linter.unusedSimpArgs false

theorem okMCode_ix (regs slots : Int) : ∀ (l : List Mac) (s : Int), okL (okMacR regs slots) nxR s l ↔ (∀ i ∈ l, okMac regs slots i) ∧ ∀ k, k ≤ l.length → 0 < k → foldS nxR s (l.take k) ≤ 64
  | [], s => by
    simp only [okL, true_iff]
    exact ⟨fun i hi => by simp at hi, fun k h1 h2 => by simp at h1; omega⟩
  | x :: l, s => by
    simp only [okL]
    rw [okMCode_ix regs slots l (nxR s x)]
    unfold okMacR
    constructor
    · rintro ⟨⟨h1, h2⟩, h3, h4⟩
      refine ⟨fun i hi => ?_, fun k hk hk0 => ?_⟩
      · rcases List.mem_cons.1 hi with rfl | hi
        · exact h1
        · exact h3 i hi
      · obtain ⟨k', rfl⟩ : ∃ k', k = k' + 1 := ⟨k - 1, by omega⟩
        rw [List.take_succ_cons, foldS]
        by_cases h0 : k' = 0
        · subst h0; simpa [foldS] using h2
        · exact h4 k' (by simpa using hk) (by omega)
    · rintro ⟨h1, h2⟩
      refine ⟨⟨h1 x (by simp), by simpa [foldS] using h2 1 (by simp) (by omega)⟩, fun i hi => h1 i (by simp [hi]), fun k hk hk0 => ?_⟩
      have := h2 (k + 1) (by simpa using hk) (by omega)
      rwa [List.take_succ_cons, foldS] at this
/-- Code that may be written: each instruction, and no 65 moves in a row. -/
theorem okMCode_iff (regs slots : Int) (l : List Mac) : okMCode regs slots l ↔ (∀ i ∈ l, okMac regs slots i) ∧ ∀ k, 64 ≤ k → k < l.length → ¬ ∀ i x, k - 64 ≤ i → i ≤ k → l[i]? = some x → x.op = 18 := by
  unfold okMCode
  rw [okMCode_ix]
  refine and_congr Iff.rfl ?_
  constructor
  · intro h k h1 h2 h3
    have h4 := h (k + 1) (by omega) (by omega)
    have h5 := (runK_iff l (k + 1) 65 (by omega) (by omega)).2 fun i x h6 h7 hx => h3 i x (by omega) (by omega) hx
    unfold runK at h5
    omega
  · intro h k h1 h2
    rcases Int.lt_or_le 64 (foldS nxR 0 (l.take k)) with h3 | h3
    rotate_left
    · exact h3
    · exfalso
      have hle : runK l k ≤ k := by
        have h9 : ∀ k, runK l k ≤ k := by
          intro k
          induction k with
          | zero => simp [runK, foldS]
          | succ k ih =>
            cases hx : l[k]? with
            | none =>
              have e : l.take (k + 1) = l.take k := by rw [List.take_add_one, hx]; simp
              unfold runK at *
              rw [e]; omega
            | some x =>
              rw [runK_next l k x hx]
              unfold nxR; split <;> omega
        exact h9 k
      have h65 : 65 ≤ k := by unfold runK at hle; omega
      have h5 := (runK_iff l k 65 h1 h65).1 (by unfold runK; omega)
      refine h (k - 1) (by omega) (by omega) fun i x h6 h7 hx => h5 i x (by omega) (by omega) hx
end Go.Proofs.YtchebkpcgglllaaGreat.Cu

namespace Go.Proofs.YtchebkpcgglllaaGreat.Cu
open Go Go.SX Go.Proofs.YtchebkpcgglllaaGreat.VT
set_option maxRecDepth 100000
set_option linter.unusedVariables false
set_option linter.unusedSimpArgs false
set_option maxHeartbeats 8000000 in
theorem moves8_fn (G : Gh) (A : Option Addr) (c : Nat) (l : List Mac) (hl : kMac.S G A c l) (h65 : l.length = 65) :
    Ct Tryz.prog 107 [.v (.slice A l.length c)] [] G fun sv H' G' => ∃ r : Int, sv = .v (.int .i64 r) ∧ (r > 64 ↔ ∀ (j : Nat) (x : Mac), l[j]? = some x → x.op = 18) ∧ H' = [] ∧ G' = G := by
  refine fn_of follows [] Tryz.func107 rfl rfl fun E hE => ?_
  have hcap := hl.cap
  repeat' ((fail_if_success with_reducible refine Stop.mk ?_);(conv=>whnf);with_reducible first|refine br_t ?_|refine br_f ?_|refine br_nn ?_|refine br_ns ?_|refine br_not ?_|refine br_d (fun h=>?_) fun h=>?_|refine br_e (fun h=>?_) fun h=>?_|refine br_n (fun h=>?_) fun h=>?_|refine drw (by kernel_rfl) ?_|refine chk (by kernel_rfl) ?_|refine stop ?_)
  all_goals refine Stop.mk ?_
  refine loop_vars follows [] (α := Nat × Int) (fun x => [(3, .v (.int .i64 x.2)), (4, .v (.int .i64 x.1))]) (fun x => []) (fun x => G)
    (fun x => x.1 ≤ 65 ∧ (0 ≤ x.2 ∧ x.2 ≤ 65) ∧ (x.2 > 64 → ∀ (j : Nat) (y : Mac), l[j]? = some y → y.op = 18) ∧ (0 < x.1 → (∀ (j : Nat) (y : Mac), l[j]? = some y → y.op = 18) → x.2 > 64)) (fun x => 65 - x.1) (0, 0)
    ⟨Nat.zero_le _, ⟨Int.le_refl _, by dsimp only; decide⟩, fun h => absurd h (by dsimp only; decide), fun h => absurd h (Nat.lt_irrefl _)⟩ rfl rfl ?_ ?_
  ·
    refine ⟨?_⟩
    (conv => whnf)
    (repeat' (first | exact trivial | exact .inl rfl | exact .inr rfl | refine And.intro ?_ ?_))
  rintro ⟨i, most⟩ ⟨hi, hm, hall, hsome⟩
  dsimp only at hi hm hall hsome ⊢
  have hw2 : IntKind.i64.wrap ((i : Int) + 1) = ((i + 1 : Nat) : Int) := by rw [i64_in (by omega) (by omega)]; simp
  repeat' ((fail_if_success with_reducible refine Stop.mk ?_);(conv=>whnf);with_reducible first|refine br_t ?_|refine br_f ?_|refine br_nn ?_|refine br_ns ?_|refine br_not ?_|refine br_d (fun h=>?_) fun h=>?_|refine br_e (fun h=>?_) fun h=>?_|refine br_n (fun h=>?_) fun h=>?_|refine drw (by kernel_rfl) ?_|refine chk (by kernel_rfl) ?_|refine stop ?_)
  all_goals refine Stop.mk ?_
  · refine loop_opq fun K1 hK1 => ?_
    refine loop_vars follows [] (α := Nat) (fun n => [(5, .v (.int .i64 n))]) (fun x => []) (fun x => G) (fun n => i + n ≤ 65 ∧ ∀ (j : Nat) (y : Mac), i ≤ j → j < i + n → l[j]? = some y → y.op = 18) (fun n => 65 - n) 0
      ⟨by omega, fun j y h1 h2 => by omega⟩ rfl rfl ?_ ?_
    ·
      refine ⟨?_⟩
      (conv => whnf)
      (repeat' (first | exact trivial | exact .inl rfl | exact .inr rfl | refine And.intro ?_ ?_))
    intro n hN
    obtain ⟨hn, hrun⟩ := hN
    have hw3 : IntKind.i64.wrap ((n : Int) + 1) = ((n + 1 : Nat) : Int) := by rw [i64_in (by omega) (by omega)]; simp
    have hw4 : IntKind.i64.wrap ((i : Int) + (n : Int)) = ((i + n : Nat) : Int) := by rw [i64_in (by omega) (by omega)]; simp
    have hdone : (i + n = 65 ∨ ∃ y : Mac, l[i + n]? = some y ∧ y.op ≠ 18) → (((n : Int) > most → (n : Int) > 64 → ∀ (j : Nat) (y : Mac), l[j]? = some y → y.op = 18) ∧ ((∀ (j : Nat) (y : Mac), l[j]? = some y → y.op = 18) → (n : Int) > 64 ∨ 0 < i)) := by
      intro hd
      refine ⟨fun _ h9 j y hy => ?_, fun h9 => ?_⟩
      · have hj : j < 65 := by have := (List.getElem?_eq_some_iff.1 hy).1; omega
        exact hrun j y (by omega) (by omega) hy
      · rcases hd with hd | ⟨y, hy, hne⟩
        · by_cases h0 : 0 < i
          · exact .inr h0
          · exact .inl (by omega)
        · exact absurd (h9 _ y hy) hne
    repeat' ((fail_if_success with_reducible refine Stop.mk ?_);(conv=>whnf);with_reducible first|refine br_t ?_|refine br_f ?_|refine br_nn ?_|refine br_ns ?_|refine br_not ?_|refine br_d (fun h=>?_) fun h=>?_|refine br_e (fun h=>?_) fun h=>?_|refine br_n (fun h=>?_) fun h=>?_|refine drw (by kernel_rfl) ?_|refine chk (by kernel_rfl) ?_|refine stop ?_)
    all_goals refine Stop.mk ?_
    all_goals try rw [hw4] at h ⊢
    · obtain ⟨z, hz⟩ : ∃ z, z = i + n := ⟨_, rfl⟩
      rw [← hz]
      obtain ⟨_, hs_, hat_⟩ := hl.at (sz := 7) rfl
      refine ⟨⟨by omega, by omega⟩, _, hs_, fun ad had hadr => ?_⟩
      obtain ⟨y, cells, hy, hRy, hGy⟩ := hat_ z (by omega) ad (by first | exact had | (rw [Int.toNat_natCast] at had; exact had))
      clear had hat_ hs_
      obtain ⟨rfl, hyok⟩ := hRy
      repeat' ((fail_if_success with_reducible refine Stop.mk ?_);(conv=>whnf);with_reducible first|refine br_t ?_|refine br_f ?_|refine br_nn ?_|refine br_ns ?_|refine br_not ?_|refine br_d (fun h=>?_) fun h=>?_|refine br_e (fun h=>?_) fun h=>?_|refine br_n (fun h=>?_) fun h=>?_|refine drw (by kernel_rfl) ?_|refine chk (by kernel_rfl) ?_|refine stop ?_)
      all_goals refine Stop.mk ?_
      refine ⟨_, hGy 0 _ rfl, ?_⟩
      repeat' ((fail_if_success with_reducible refine Stop.mk ?_);(conv=>whnf);with_reducible first|refine br_t ?_|refine br_f ?_|refine br_nn ?_|refine br_ns ?_|refine br_not ?_|refine br_d (fun h=>?_) fun h=>?_|refine br_e (fun h=>?_) fun h=>?_|refine br_n (fun h=>?_) fun h=>?_|refine drw (by kernel_rfl) ?_|refine chk (by kernel_rfl) ?_|refine stop ?_)
      all_goals refine Stop.mk ?_
      · have h18 : y.op = 18 := by assumption
        rw [hw3]
        refine tell_here ⟨n + 1, ⟨by omega, fun j x h1 h2 hx => ?_⟩, by show 65 - (n + 1) < 65 - n; omega, rfl, rfl, ?_⟩
        · rcases Nat.lt_or_ge j (i + n) with h3 | h3
          · exact hrun j x h1 h3 hx
          · have h4 : j = z := by omega
            subst h4
            rw [hy] at hx
            simp at hx; subst hx; exact h18
        ·
          refine ⟨?_⟩
          (conv => whnf)
          (repeat' (first | exact trivial | exact .inl rfl | exact .inr rfl | refine And.intro ?_ ?_))
      · obtain ⟨hd1, hd2⟩ := hdone (by first | exact .inl (by omega) | exact .inr ⟨y, by rw [← hz]; exact hy, by assumption⟩)
        refine Stop.mk (hK1 _ _ ?_)
        clear hK1
        repeat' ((fail_if_success with_reducible refine Stop.mk ?_);(conv=>whnf);with_reducible first|refine br_t ?_|refine br_f ?_|refine br_nn ?_|refine br_ns ?_|refine br_not ?_|refine br_d (fun h=>?_) fun h=>?_|refine br_e (fun h=>?_) fun h=>?_|refine br_n (fun h=>?_) fun h=>?_|refine drw (by kernel_rfl) ?_|refine chk (by kernel_rfl) ?_|refine stop ?_)
        all_goals refine Stop.mk ?_
        all_goals rw [hw2]
        · have hgt : (n : Int) > most := by omega
          refine tell_here ⟨(i + 1, (n : Int)), ⟨by show i + 1 ≤ 65; omega, ⟨by dsimp only; omega, by dsimp only; omega⟩, fun h9 => hd1 hgt h9, fun _ h9 => ?_⟩, by show 65 - (i + 1) < 65 - i; omega, rfl, rfl, ?_⟩
          · rcases hd2 h9 with h8 | h8
            · exact h8
            · have := hsome h8 h9
              dsimp only; omega
          ·
            refine ⟨?_⟩
            (conv => whnf)
            (repeat' (first | exact trivial | exact .inl rfl | exact .inr rfl | refine And.intro ?_ ?_))
        · have hle : ¬ (n : Int) > most := by omega
          refine tell_here ⟨(i + 1, most), ⟨by show i + 1 ≤ 65; omega, hm, hall, fun _ h9 => ?_⟩, by show 65 - (i + 1) < 65 - i; omega, rfl, rfl, ?_⟩
          · rcases hd2 h9 with h8 | h8
            · dsimp only; omega
            · exact hsome h8 h9
          ·
            refine ⟨?_⟩
            (conv => whnf)
            (repeat' (first | exact trivial | exact .inl rfl | exact .inr rfl | refine And.intro ?_ ?_))
    · obtain ⟨hd1, hd2⟩ := hdone (by first | exact .inl (by omega))
      refine Stop.mk (hK1 _ _ ?_)
      clear hK1
      repeat' ((fail_if_success with_reducible refine Stop.mk ?_);(conv=>whnf);with_reducible first|refine br_t ?_|refine br_f ?_|refine br_nn ?_|refine br_ns ?_|refine br_not ?_|refine br_d (fun h=>?_) fun h=>?_|refine br_e (fun h=>?_) fun h=>?_|refine br_n (fun h=>?_) fun h=>?_|refine drw (by kernel_rfl) ?_|refine chk (by kernel_rfl) ?_|refine stop ?_)
      all_goals refine Stop.mk ?_
      all_goals rw [hw2]
      · have hgt : (n : Int) > most := by omega
        refine tell_here ⟨(i + 1, (n : Int)), ⟨by show i + 1 ≤ 65; omega, ⟨by dsimp only; omega, by dsimp only; omega⟩, fun h9 => hd1 hgt h9, fun _ h9 => ?_⟩, by show 65 - (i + 1) < 65 - i; omega, rfl, rfl, ?_⟩
        · rcases hd2 h9 with h8 | h8
          · exact h8
          · have := hsome h8 h9
            dsimp only; omega
        ·
          refine ⟨?_⟩
          (conv => whnf)
          (repeat' (first | exact trivial | exact .inl rfl | exact .inr rfl | refine And.intro ?_ ?_))
      · have hle : ¬ (n : Int) > most := by omega
        refine tell_here ⟨(i + 1, most), ⟨by show i + 1 ≤ 65; omega, hm, hall, fun _ h9 => ?_⟩, by show 65 - (i + 1) < 65 - i; omega, rfl, rfl, ?_⟩
        · rcases hd2 h9 with h8 | h8
          · dsimp only; omega
          · exact hsome h8 h9
        ·
          refine ⟨?_⟩
          (conv => whnf)
          (repeat' (first | exact trivial | exact .inl rfl | exact .inr rfl | refine And.intro ?_ ?_))
  · have hii : i = 65 := by omega
    subst hii
    exact fin_all ⟨most, rfl, ⟨hall, fun h => hsome (by omega) h⟩, rfl, rfl⟩
end Go.Proofs.YtchebkpcgglllaaGreat.Cu

namespace Go.Proofs.YtchebkpcgglllaaGreat.Cu
open Go Go.SX Go.Proofs.YtchebkpcgglllaaGreat.VT
set_option maxRecDepth 100000
set_option linter.unusedVariables false
set_option linter.unusedSimpArgs false

theorem okMBs_iff (regs slots n : Int) : ∀ (l : List MBlk) (t : Int), 0 ≤ t → (okL (okMB regs slots n) nxMB t l ↔ ((l = [] ∨ t + totMB l ≤ 1048576) ∧ ∀ b ∈ l, okMCode regs slots b.code ∧ okTrm regs n b.term))
  | [], t, _ => by simp [okL]
  | x :: l, t, ht => by
    have h := okMBs_iff regs slots n l (nxMB t x) (by unfold nxMB; omega)
    simp only [okL, totMB]
    rw [h]
    unfold okMB nxMB
    constructor
    · rintro ⟨⟨h1, h2, h2'⟩, h3, h4⟩
      refine ⟨.inr ?_, ?_⟩
      · rcases h3 with rfl | h3
        · simp [totMB]; omega
        · push_cast; omega
      · intro y hy
        rcases List.mem_cons.1 hy with rfl | hy
        · exact ⟨h2, h2'⟩
        · exact h4 y hy
    · rintro ⟨h1, h2⟩
      have h1' : t + ((x.code.length + totMB l : Nat) : Int) ≤ 1048576 := by
        rcases h1 with h1 | h1
        · simp at h1
        · exact h1
      have h3 := h2 x (by simp)
      exact ⟨⟨by omega, h3.1, h3.2⟩, .inr (by omega), fun y hy => h2 y (by simp [hy])⟩
theorem okMFn_iff (f : MFn) : okMFn f ↔ (0 ≤ f.args ∧ f.args ≤ f.slots) ∧ (0 ≤ f.regs ∧ f.regs ≤ 1048576 ∧ f.slots ≤ 1048576) ∧ f.blocks.length ≠ 0 ∧ f.blocks.length ≤ 1048576 ∧ totMB f.blocks ≤ 1048576 ∧ ∀ b ∈ f.blocks, okMCode f.regs f.slots b.code ∧ okTrm f.regs f.blocks.length b.term := by
  unfold okMFn
  rw [okMBs_iff _ _ _ _ 0 (Int.le_refl _)]
  constructor
  · rintro ⟨⟨h1, ⟨h2, h2'⟩, h2''⟩, ⟨h3, h4⟩, h5, h6⟩
    refine ⟨h1, ⟨h2, h2', h2''⟩, h3, h4, ?_, h6⟩
    rcases h5 with h5 | h5
    · rw [h5] at h3; exact absurd rfl h3
    · omega
  · rintro ⟨h1, ⟨h2, h2', h2''⟩, h3, h4, h5, h6⟩
    exact ⟨⟨h1, ⟨h2, h2'⟩, h2''⟩, ⟨h3, h4⟩, .inr (by omega), h6⟩
set_option maxHeartbeats 8000000 in
theorem check8_fn (G : Gh) (A : Option Addr) (c : Nat) (f : MFn) (hl : kMBlk.S G A c f.blocks) (hbl : f.blocks.length ≤ 1000000000) (htl : totMB f.blocks ≤ 1000000000) :
    Ct Tryz.prog 54 [mfnS A c f] [] G fun sv H' G' => ∃ e : Int, sv = .v (.int .i64 e) ∧ (e = 0 ↔ okMFn f) ∧ H' = [] ∧ G' = G := by
  refine fn_of follows [(18, (.cons 0 [] (.cons 1 [] (.cons 2 [] (.cons 3 [] (.cons 4 [] (.cons 5 [] (.cons 6 [] (.cons 7 [] (.cons 8 [] (.cons 9 [1, 4, 6, 8] (.cons 10 [] .nil))))))))))))] Tryz.func54 rfl rfl fun E hE => ?_
  have hcap := hl.cap
  rw [okMFn_iff]
  unfold mfnS
  repeat' ((fail_if_success with_reducible refine Stop.mk ?_);(conv=>whnf);with_reducible first|refine br_t ?_|refine br_f ?_|refine br_nn ?_|refine br_ns ?_|refine br_not ?_|refine br_d (fun h=>?_) fun h=>?_|refine br_e (fun h=>?_) fun h=>?_|refine br_n (fun h=>?_) fun h=>?_|refine drw (by kernel_rfl) ?_|refine chk (by kernel_rfl) ?_|refine stop ?_)
  all_goals refine Stop.mk ?_
  all_goals try
    refine call_fn [] (code8_fn _ A c f hl hbl htl) rfl trivial (by decide) ?_
    rintro sv H' G' ⟨rfl, rfl, rfl⟩ -
    refine ⟨Nat.le_of_ble_eq_true rfl, ?_⟩
    repeat' ((fail_if_success with_reducible refine Stop.mk ?_);(conv=>whnf);with_reducible first|refine br_t ?_|refine br_f ?_|refine br_nn ?_|refine br_ns ?_|refine br_not ?_|refine br_d (fun h=>?_) fun h=>?_|refine br_e (fun h=>?_) fun h=>?_|refine br_n (fun h=>?_) fun h=>?_|refine drw (by kernel_rfl) ?_|refine chk (by kernel_rfl) ?_|refine stop ?_)
    all_goals refine Stop.mk ?_
  all_goals try
    refine fin_id hE 0 rfl rfl rfl rfl ⟨_, rfl, ⟨fun h9 => absurd h9 (by decide), fun h9 => ?_⟩, rfl, rfl⟩
    exfalso
    obtain ⟨⟨a1, a2⟩, ⟨a3, a4, a5⟩, a6, a7, a8, _⟩ := h9
    omega
  have hbase : (0 ≤ f.args ∧ f.args ≤ f.slots) ∧ (0 ≤ f.regs ∧ f.regs ≤ 1048576 ∧ f.slots ≤ 1048576) ∧ f.blocks.length ≠ 0 ∧ f.blocks.length ≤ 1048576 ∧ totMB f.blocks ≤ 1048576 := by omega
  refine loop_vars follows [(18, (.cons 0 [] (.cons 1 [] (.cons 2 [] (.cons 3 [] (.cons 4 [] (.cons 5 [] (.cons 6 [] (.cons 7 [] (.cons 8 [] (.cons 9 [1, 4, 6, 8] (.cons 10 [] .nil))))))))))))] (α := Nat) (fun k => [(3, .v (.int .i64 k))]) (fun x => [.cells 28 [.v (.int .i64 f.args), .v (.int .i64 f.regs), .v (.int .i64 f.slots), .v (.slice A f.blocks.length c)]]) (fun x => _) (fun k => k ≤ f.blocks.length ∧ ∀ b ∈ f.blocks.take k, okMCode f.regs f.slots b.code ∧ okTrm f.regs f.blocks.length b.term) (fun k => f.blocks.length - k) 0
    ⟨Nat.zero_le _, by simp⟩ rfl rfl ?_ ?_
  ·
    refine ⟨?_⟩
    (conv => whnf)
    (repeat' (first | exact trivial | exact .inl rfl | exact .inr rfl | refine And.intro ?_ ?_))
  intro k hI
  obtain ⟨hk, hall⟩ := hI
  have hw2 : IntKind.i64.wrap ((k : Int) + 1) = ((k + 1 : Nat) : Int) := by rw [i64_in (by omega) (by omega)]; simp
  repeat' ((fail_if_success with_reducible refine Stop.mk ?_);(conv=>whnf);with_reducible first|refine br_t ?_|refine br_f ?_|refine br_nn ?_|refine br_ns ?_|refine br_not ?_|refine br_d (fun h=>?_) fun h=>?_|refine br_e (fun h=>?_) fun h=>?_|refine br_n (fun h=>?_) fun h=>?_|refine drw (by kernel_rfl) ?_|refine chk (by kernel_rfl) ?_|refine stop ?_)
  all_goals refine Stop.mk ?_
  ·
    obtain ⟨_, hs_, hat_⟩ := hl.at (sz := 5) rfl
    refine ⟨⟨by omega, by omega⟩, _, hs_, fun ad had hadr => ?_⟩
    obtain ⟨b, cells, hb, hRb, hGb⟩ := hat_ k (by omega) ad (by first | exact had | (rw [Int.toNat_natCast] at had; exact had))
    clear had hat_ hs_
    obtain ⟨A', c', rfl, hS, hbt⟩ := kMBlk_R hRb
    have hbm := List.mem_of_getElem? hb
    have hcap2 := hS.cap
    have hclb : b.code.length ≤ totMB f.blocks := by
      have h1 := totMB_take f.blocks k b hb
      have h2 := totMB_le f.blocks (k + 1)
      omega
    repeat' ((fail_if_success with_reducible refine Stop.mk ?_);(conv=>whnf);with_reducible first|refine br_t ?_|refine br_f ?_|refine br_nn ?_|refine br_ns ?_|refine br_not ?_|refine br_d (fun h=>?_) fun h=>?_|refine br_e (fun h=>?_) fun h=>?_|refine br_n (fun h=>?_) fun h=>?_|refine drw (by kernel_rfl) ?_|refine chk (by kernel_rfl) ?_|refine stop ?_)
    all_goals refine Stop.mk ?_
    refine ⟨_, rfl, hGb, ?_⟩
    repeat' ((fail_if_success with_reducible refine Stop.mk ?_);(conv=>whnf);with_reducible first|refine br_t ?_|refine br_f ?_|refine br_nn ?_|refine br_ns ?_|refine br_not ?_|refine br_d (fun h=>?_) fun h=>?_|refine br_e (fun h=>?_) fun h=>?_|refine br_n (fun h=>?_) fun h=>?_|refine drw (by kernel_rfl) ?_|refine chk (by kernel_rfl) ?_|refine stop ?_)
    all_goals refine Stop.mk ?_
    refine loop_opq fun K1 hK1 => ?_
    refine loop_vars follows [(18, (.cons 0 [] (.cons 1 [] (.cons 2 [] (.cons 3 [] (.cons 4 [] (.cons 5 [] (.cons 6 [] (.cons 7 [] (.cons 8 [] (.cons 9 [1, 4, 6, 8] (.cons 10 [] .nil))))))))))))] (α := Nat) (fun k => [(5, .v (.int .i64 k))]) (fun x => [.cells 28 [.v (.int .i64 f.args), .v (.int .i64 f.regs), .v (.int .i64 f.slots), .v (.slice A f.blocks.length c)], .cells 63 [.v (.slice A' b.code.length c'), .v (.int .i64 b.term.kind), .v (.int .i64 b.term.a), .v (.int .i64 b.term.to_), .v (.int .i64 b.term.els)]]) (fun x => G') (fun j => j ≤ b.code.length ∧ (∀ i ∈ b.code.take j, okMac f.regs f.slots i) ∧ ∀ k, 64 ≤ k → k < j → ¬ ∀ (i : Nat) (x : Mac), k - 64 ≤ i → i ≤ k → b.code[i]? = some x → x.op = 18) (fun j => b.code.length - j) 0
      ⟨Nat.zero_le _, by simp, fun k _ h => absurd h (Nat.not_lt_zero _)⟩ rfl rfl ?_ ?_
    ·
      refine ⟨?_⟩
      (conv => whnf)
      (repeat' (first | exact trivial | exact .inl rfl | exact .inr rfl | refine And.intro ?_ ?_))
    intro j hJ
    obtain ⟨hj, hchk, hwin⟩ := hJ
    have hw3 : IntKind.i64.wrap ((j : Int) + 1) = ((j + 1 : Nat) : Int) := by rw [i64_in (by omega) (by omega)]; simp
    repeat' ((fail_if_success with_reducible refine Stop.mk ?_);(conv=>whnf);with_reducible first|refine br_t ?_|refine br_f ?_|refine br_nn ?_|refine br_ns ?_|refine br_not ?_|refine br_d (fun h=>?_) fun h=>?_|refine br_e (fun h=>?_) fun h=>?_|refine br_n (fun h=>?_) fun h=>?_|refine drw (by kernel_rfl) ?_|refine chk (by kernel_rfl) ?_|refine stop ?_)
    all_goals refine Stop.mk ?_
    ·
      obtain ⟨_, hs_, hat_⟩ := hS.at (sz := 7) rfl
      refine ⟨⟨by omega, by omega⟩, _, hs_, fun ad had hadr => ?_⟩
      obtain ⟨i, cells, hi, hRi, hGi⟩ := hat_ j (by omega) ad (by first | exact had | (rw [Int.toNat_natCast] at had; exact had))
      clear had hat_ hs_
      obtain ⟨rfl, hiok⟩ := hRi
      repeat' ((fail_if_success with_reducible refine Stop.mk ?_);(conv=>whnf);with_reducible first|refine br_t ?_|refine br_f ?_|refine br_nn ?_|refine br_ns ?_|refine br_not ?_|refine br_d (fun h=>?_) fun h=>?_|refine br_e (fun h=>?_) fun h=>?_|refine br_n (fun h=>?_) fun h=>?_|refine drw (by kernel_rfl) ?_|refine chk (by kernel_rfl) ?_|refine stop ?_)
      all_goals refine Stop.mk ?_
      refine ⟨_, rfl, hGi, ?_⟩
      repeat' ((fail_if_success with_reducible refine Stop.mk ?_);(conv=>whnf);with_reducible first|refine br_t ?_|refine br_f ?_|refine br_nn ?_|refine br_ns ?_|refine br_not ?_|refine br_d (fun h=>?_) fun h=>?_|refine br_e (fun h=>?_) fun h=>?_|refine br_n (fun h=>?_) fun h=>?_|refine drw (by kernel_rfl) ?_|refine chk (by kernel_rfl) ?_|refine stop ?_)
      all_goals refine Stop.mk ?_
      refine call_fn [] (r8Instr_fn _ i f.regs f.slots hiok (by omega) (by omega)) rfl trivial (by decide) ?_
      rintro sv H' G' ⟨e, rfl, he, rfl, rfl⟩ -
      refine ⟨Nat.le_of_ble_eq_true rfl, ?_⟩
      repeat' ((fail_if_success with_reducible refine Stop.mk ?_);(conv=>whnf);with_reducible first|refine br_t ?_|refine br_f ?_|refine br_nn ?_|refine br_ns ?_|refine br_not ?_|refine br_d (fun h=>?_) fun h=>?_|refine br_e (fun h=>?_) fun h=>?_|refine br_n (fun h=>?_) fun h=>?_|refine drw (by kernel_rfl) ?_|refine chk (by kernel_rfl) ?_|refine stop ?_)
      all_goals refine Stop.mk ?_
      rotate_left 2
      · have hne : e ≠ 0 := by assumption
        refine Stop.mk (hK1 _ _ ?_)
        clear hK1
        repeat' ((fail_if_success with_reducible refine Stop.mk ?_);(conv=>whnf);with_reducible first|refine br_t ?_|refine br_f ?_|refine br_nn ?_|refine br_ns ?_|refine br_not ?_|refine br_d (fun h=>?_) fun h=>?_|refine br_e (fun h=>?_) fun h=>?_|refine br_n (fun h=>?_) fun h=>?_|refine drw (by kernel_rfl) ?_|refine chk (by kernel_rfl) ?_|refine stop ?_)
        all_goals refine Stop.mk ?_
        refine fin_id hE 0 rfl rfl rfl rfl ⟨e, rfl, ⟨fun h9 => absurd h9 hne, fun h9 => ?_⟩, rfl, rfl⟩
        exact he.2 (((okMCode_iff _ _ _).1 (h9.2.2.2.2.2 b hbm).1).1 i (List.mem_of_getElem? hi))
      · have he0 : e = 0 := by assumption
        have hgood := he.1 he0
        have hj64 : 64 ≤ j := by omega
        have hw5 : IntKind.i64.wrap ((j : Int) - 64) = ((j - 64 : Nat) : Int) := by rw [i64_in (by omega) (by omega)]; omega
        rw [hw3]
        refine ⟨⟨by omega, by omega⟩, ?_⟩
        repeat' ((fail_if_success with_reducible refine Stop.mk ?_);(conv=>whnf);with_reducible first|refine br_t ?_|refine br_f ?_|refine br_nn ?_|refine br_ns ?_|refine br_not ?_|refine br_d (fun h=>?_) fun h=>?_|refine br_e (fun h=>?_) fun h=>?_|refine br_n (fun h=>?_) fun h=>?_|refine drw (by kernel_rfl) ?_|refine chk (by kernel_rfl) ?_|refine stop ?_)
        all_goals refine Stop.mk ?_
        rw [hw5]
        refine ⟨⟨by omega, by omega⟩, fun A2 hA2 => ?_⟩
        rw [Int.toNat_natCast] at hA2
        simp only [Int.toNat_natCast]
        have hS2 := (hS.drop_ (a := j - 64) (by omega) hA2).take_ (k := 65) (by rw [List.length_drop]; omega)
        have hl65 : ((b.code.drop (j - 64)).take 65).length = 65 := by rw [List.length_take, List.length_drop]; omega
        have hmv := moves8_fn G' A2 (c' - (j - 64)) ((b.code.drop (j - 64)).take 65) hS2 hl65
        rw [hl65] at hmv
        rw [show j + 1 - (j - 64) = 65 by omega]
        repeat' ((fail_if_success with_reducible refine Stop.mk ?_);(conv=>whnf);with_reducible first|refine br_t ?_|refine br_f ?_|refine br_nn ?_|refine br_ns ?_|refine br_not ?_|refine br_d (fun h=>?_) fun h=>?_|refine br_e (fun h=>?_) fun h=>?_|refine br_n (fun h=>?_) fun h=>?_|refine drw (by kernel_rfl) ?_|refine chk (by kernel_rfl) ?_|refine stop ?_)
        all_goals refine Stop.mk ?_
        refine call_fn [] hmv rfl trivial (by decide) ?_
        rintro sv H' G' ⟨r, rfl, hr, rfl, rfl⟩ -
        refine ⟨Nat.le_of_ble_eq_true rfl, ?_⟩
        have hwinj : r > 64 ↔ ∀ (i : Nat) (x : Mac), j - 64 ≤ i → i ≤ j → b.code[i]? = some x → x.op = 18 := by
          rw [hr]
          constructor
          · intro h9 i x h1 h2 hx
            refine h9 (i - (j - 64)) x ?_
            rw [List.getElem?_take, if_pos (by omega), List.getElem?_drop, show j - 64 + (i - (j - 64)) = i by omega]
            exact hx
          · intro h9 i x hx
            rw [List.getElem?_take] at hx
            split at hx
            · rw [List.getElem?_drop] at hx
              exact h9 _ x (by omega) (by omega) hx
            · simp at hx
        repeat' ((fail_if_success with_reducible refine Stop.mk ?_);(conv=>whnf);with_reducible first|refine br_t ?_|refine br_f ?_|refine br_nn ?_|refine br_ns ?_|refine br_not ?_|refine br_d (fun h=>?_) fun h=>?_|refine br_e (fun h=>?_) fun h=>?_|refine br_n (fun h=>?_) fun h=>?_|refine drw (by kernel_rfl) ?_|refine chk (by kernel_rfl) ?_|refine stop ?_)
        all_goals refine Stop.mk ?_
        · have hr64 : r > 64 := by assumption
          refine Stop.mk (hK1 _ _ ?_)
          clear hK1
          repeat' ((fail_if_success with_reducible refine Stop.mk ?_);(conv=>whnf);with_reducible first|refine br_t ?_|refine br_f ?_|refine br_nn ?_|refine br_ns ?_|refine br_not ?_|refine br_d (fun h=>?_) fun h=>?_|refine br_e (fun h=>?_) fun h=>?_|refine br_n (fun h=>?_) fun h=>?_|refine drw (by kernel_rfl) ?_|refine chk (by kernel_rfl) ?_|refine stop ?_)
          all_goals refine Stop.mk ?_
          refine fin_id hE 0 rfl rfl rfl rfl ⟨15, rfl, ⟨fun h9 => absurd h9 (by decide), fun h9 => ?_⟩, rfl, rfl⟩
          exact absurd (hwinj.1 hr64) (((okMCode_iff _ _ _).1 (h9.2.2.2.2.2 b hbm).1).2 j hj64 (by omega))
        · have hr64 : ¬ r > 64 := by assumption
          rw [hw3]
          refine tell_gc hE [0, 1] rfl rfl ?_
          (conv => whnf)
          refine tell_here ⟨j + 1, ⟨by omega, ?_, ?_⟩, by show b.code.length - (j + 1) < b.code.length - j; omega, rfl, rfl, ?_⟩
          · intro x hx
            rw [List.take_add_one, hi] at hx
            rcases List.mem_append.1 hx with hx | hx
            · exact hchk x hx
            · simp at hx; subst hx; exact hgood
          · intro k' h1 h2
            rcases Nat.lt_succ_iff_lt_or_eq.1 h2 with h3 | h3
            · exact hwin k' h1 h3
            · subst h3
              exact fun h9 => hr64 (hwinj.2 h9)
          ·
            refine ⟨?_⟩
            (conv => whnf)
            (repeat' (first | exact trivial | exact .inl rfl | exact .inr rfl | refine And.intro ?_ ?_))
      · have he0 : e = 0 := by assumption
        have hgood := he.1 he0
        rw [hw3]
        refine tell_gc hE [0, 1] rfl rfl ?_
        (conv => whnf)
        refine tell_here ⟨j + 1, ⟨by omega, ?_, ?_⟩, by show b.code.length - (j + 1) < b.code.length - j; omega, rfl, rfl, ?_⟩
        · intro x hx
          rw [List.take_add_one, hi] at hx
          rcases List.mem_append.1 hx with hx | hx
          · exact hchk x hx
          · simp at hx; subst hx; exact hgood
        · intro k' h1 h2
          rcases Nat.lt_succ_iff_lt_or_eq.1 h2 with h3 | h3
          · exact hwin k' h1 h3
          · subst h3
            omega
        ·
          refine ⟨?_⟩
          (conv => whnf)
          (repeat' (first | exact trivial | exact .inl rfl | exact .inr rfl | refine And.intro ?_ ?_))
    · have hjl : j = b.code.length := by omega
      subst hjl
      rw [List.take_length] at hchk
      refine Stop.mk (hK1 _ _ ?_)
      clear hK1
      repeat' ((fail_if_success with_reducible refine Stop.mk ?_);(conv=>whnf);with_reducible first|refine br_t ?_|refine br_f ?_|refine br_nn ?_|refine br_ns ?_|refine br_not ?_|refine br_d (fun h=>?_) fun h=>?_|refine br_e (fun h=>?_) fun h=>?_|refine br_n (fun h=>?_) fun h=>?_|refine drw (by kernel_rfl) ?_|refine chk (by kernel_rfl) ?_|refine stop ?_)
      all_goals refine Stop.mk ?_
      refine call_fn [] (r7Term_fn _ b.term f.regs f.blocks.length) rfl trivial (by decide) ?_
      rintro sv H' G' ⟨e, rfl, he, rfl, rfl⟩ -
      refine ⟨Nat.le_of_ble_eq_true rfl, ?_⟩
      repeat' ((fail_if_success with_reducible refine Stop.mk ?_);(conv=>whnf);with_reducible first|refine br_t ?_|refine br_f ?_|refine br_nn ?_|refine br_ns ?_|refine br_not ?_|refine br_d (fun h=>?_) fun h=>?_|refine br_e (fun h=>?_) fun h=>?_|refine br_n (fun h=>?_) fun h=>?_|refine drw (by kernel_rfl) ?_|refine chk (by kernel_rfl) ?_|refine stop ?_)
      all_goals refine Stop.mk ?_
      rotate_left
      · have hne : e ≠ 0 := by assumption
        refine fin_id hE 0 rfl rfl rfl rfl ⟨e, rfl, ⟨fun h9 => absurd h9 hne, fun h9 => ?_⟩, rfl, rfl⟩
        exact he.2 (h9.2.2.2.2.2 b hbm).2
      · have he0 : e = 0 := by assumption
        have hgood := he.1 he0
        rw [hw2]
        refine tell_gc hE [0] rfl rfl ?_
        (conv => whnf)
        refine tell_here ⟨k + 1, ⟨by omega, ?_⟩, by show f.blocks.length - (k + 1) < f.blocks.length - k; omega, rfl, rfl, ?_⟩
        · intro x hx
          rw [List.take_add_one, hb] at hx
          rcases List.mem_append.1 hx with hx | hx
          · exact hall x hx
          · simp at hx; subst hx; exact ⟨(okMCode_iff _ _ _).2 ⟨hchk, hwin⟩, hgood⟩
        ·
          refine ⟨?_⟩
          (conv => whnf)
          (repeat' (first | exact trivial | exact .inl rfl | exact .inr rfl | refine And.intro ?_ ?_))
  · have hkl : k = f.blocks.length := by omega
    subst hkl
    rw [List.take_length] at hall
    refine fin_id hE 0 rfl rfl rfl rfl ⟨0, rfl, ⟨fun _ => ⟨hbase.1, hbase.2.1, hbase.2.2.1, hbase.2.2.2.1, hbase.2.2.2.2, hall⟩, fun _ => rfl⟩, rfl, rfl⟩
end Go.Proofs.YtchebkpcgglllaaGreat.Cu
