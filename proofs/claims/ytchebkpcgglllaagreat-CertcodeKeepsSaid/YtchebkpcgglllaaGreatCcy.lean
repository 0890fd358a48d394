/- Ccy: Cc6, Cc7, Cc8 in one text. -/
import Derived.Test.YtchebkpcgglllaaGreatFuCx
import Derived.Test.YtchebkpcgglllaaGreatMa4
import Derived.Test.YtchebkpcgglllaaGreatSoy
import Derived.Test.YtchebkpcgglllaaGreatFux
import Derived.Test.YtchebkpcgglllaaGreatDcH
import Derived.Test.YtchebkpcgglllaaGreatEdx
import Derived.Test.YtchebkpcgglllaaGreatMa5
import Derived.Test.YtchebkpcgglllaaGreatCcx
namespace Go.Proofs.YtchebkpcgglllaaGreat.Cu
open Go Go.SX Go.Proofs.YtchebkpcgglllaaGreat.VT
set_option maxRecDepth 100000
set_option linter.unusedVariables false
set_option linter.unusedSimpArgs false
theorem eIns_ok {regs : Int} {i : Ins} (h : i.ok) : eIns regs i = 0 ↔ okIns regs i := by
  have hi := h.2.2.2.2
  unfold eIns okIns
  by_cases hk : known i.op ∧ i.op ≠ 18
  · rw [if_pos hk]
    by_cases e : i.op = 1
    · have d : uD i.op := by rw [e]; decide
      have a : ¬ uA i.op := by rw [e]; decide
      have b : ¬ uB i.op := by rw [e]; decide
      have k : known 1 := by decide
      have hw : wOk (fI regs i) = true ↔ (0 ≤ i.d ∧ i.d < regs) := by simp [wOk, fI, d, a, b]
      have hbk : bOk (fI regs i) = true ↔ (i.a = 0 ∧ i.b = 0) := by simp [bOk, fI, d, a, b]
      rw [if_pos d, if_neg a, if_neg b, if_pos e]
      by_cases h1 : wOk (fI regs i) = true
      · rw [if_pos h1]
        by_cases h2 : bOk (fI regs i) = true
        · rw [if_pos ⟨h2, .inl e⟩]
          exact ⟨fun _ => ⟨hk, hw.1 h1, (hbk.1 h2).1, (hbk.1 h2).2, hi⟩, fun _ => rfl⟩
        · rw [if_neg (fun h3 => h2 h3.1)]
          exact ⟨fun h9 => by simp at h9, fun h9 => absurd (hbk.2 ⟨h9.2.2.1, h9.2.2.2.1⟩) h2⟩
      · rw [if_neg h1]
        exact ⟨fun h9 => by simp at h9, fun h9 => absurd (hw.2 h9.2.1) h1⟩
    · by_cases d : uD i.op <;> by_cases a : uA i.op <;> by_cases b : uB i.op <;> simp [wOk, bOk, fI, d, a, b, e, hk, hi]
      all_goals ((repeat' split) <;> omega)
  · rw [if_neg hk]
    constructor
    · intro h9; simp at h9
    · rintro ⟨h9, _⟩; exact absurd h9 hk
theorem eTrm_ok {regs blocks : Int} {t : Trm} : eTrm regs blocks t = 0 ↔ okTrm regs blocks t := by
  unfold eTrm okTrm
  by_cases hk : t.kind < 1 ∨ t.kind > 3
  · rw [if_pos hk]
    constructor
    · intro h9; simp at h9
    · rintro ⟨h9, _⟩; omega
  · rw [if_neg hk]
    have h3 : t.kind = 1 ∨ t.kind = 2 ∨ t.kind = 3 := by omega
    rcases h3 with h | h | h <;> simp [wOk, bOk, fA, fT, fE, h]
    all_goals ((repeat' split) <;> omega)
theorem eFn_ok {f : Fn} (h : ∀ b ∈ f.blocks, ∀ i ∈ b.code, i.ok) : eFn f = 0 ↔ okFn f := by
  rw [okFn_iff]
  have hb : ∀ b ∈ f.blocks, (eBlk f.regs f.blocks.length b = 0 ↔ (∀ i ∈ b.code, okIns f.regs i) ∧ okTrm f.regs f.blocks.length b.term) := fun b hbm => by
    unfold eBlk
    by_cases h9 : first0 (eIns f.regs) b.code = 0
    · rw [if_neg (not_not_intro h9), eTrm_ok]
      rw [first0_iff] at h9
      exact ⟨fun h8 => ⟨fun i hi => (eIns_ok (h b hbm i hi)).1 (h9 i hi), h8⟩, fun h8 => h8.2⟩
    · rw [if_pos h9]
      refine ⟨fun h8 => absurd h8 h9, fun h8 => absurd ?_ h9⟩
      rw [first0_iff]
      exact fun i hi => (eIns_ok (h b hbm i hi)).2 (h8.1 i hi)
  constructor
  · intro h9
    have hS : SBase f := by
      unfold eFn at h9
      unfold SBase
      split at h9
      · simp at h9
      split at h9
      · simp at h9
      split at h9
      · simp at h9
      split at h9
      · simp at h9
      omega
    rw [eFn_base hS, first0_iff] at h9
    obtain ⟨h1, h2, h3, h4, h5⟩ := hS
    exact ⟨h1, h2, h3, h4, h5, fun b hbm => (hb b hbm).1 (h9 b hbm)⟩
  · rintro ⟨h1, h2, h3, h4, h5, h6⟩
    rw [eFn_base ⟨h1, h2, h3, h4, h5⟩, first0_iff]
    exact fun b hbm => (hb b hbm).2 (h6 b hbm)
theorem slot_mod {l regs slots : Int} (h : inRange l regs slots) : isSlot l ↔ l % 2 = 1 := isSlot_nonneg h.1
theorem eMac_ok {regs slots : Int} (hr : regs ≤ 1048576) (hs : slots ≤ 1048576) {i : Mac} (h : i.ok) : eMac regs slots i = 0 ↔ okMac regs slots i := by
  unfold eMac okMac
  by_cases hk : known i.op ∧ i.op ≠ 2
  · rw [if_pos hk]
    by_cases h18 : i.op = 18
    · rw [if_pos h18, if_pos h18]
      by_cases h1 : inRange i.dst regs slots ∧ inRange i.src regs slots ∧ ¬ (i.dst % 2 = 1 ∧ i.src % 2 = 1)
      · rw [if_pos h1]
        obtain ⟨h2, h3, h4⟩ := h1
        have e1 := slot_mod h2
        have e2 := slot_mod h3
        have l1 : i.dst ≤ 4611686018427387904 := by unfold inRange at h2; omega
        have l2 : i.src ≤ 4611686018427387904 := by unfold inRange at h3; omega
        rw [e1, e2]
        constructor
        · intro h9
          split at h9
          · rename_i h8; exact ⟨hk, h8, ⟨⟨h2, l1⟩, h3, l2⟩, h4⟩
          · simp at h9
        · rintro ⟨_, h8, _⟩; rw [if_pos h8]
      · rw [if_neg h1]
        refine ⟨fun h9 => by simp at h9, ?_⟩
        rintro ⟨_, _, ⟨⟨h2, _⟩, h3, _⟩, h4⟩
        rw [slot_mod h2, slot_mod h3] at h4
        exact absurd ⟨h2, h3, h4⟩ h1
    · rw [if_neg h18, if_neg h18]
      have hio : i.ins'.ok := ⟨h.1, h.2.1, h.2.2.1, h.2.2.2.1, h.2.2.2.2.1⟩
      have hI := eIns_ok (regs := regs) hio
      have hkI : known i.ins'.op ∧ i.ins'.op ≠ 18 := ⟨hk.1, h18⟩
      unfold okIns at hI
      by_cases h9 : eIns regs i.ins' = 0
      · rw [if_neg (not_not_intro h9)]
        have h8 := hI.1 h9
        constructor
        · intro h7
          split at h7
          · rename_i h6; exact ⟨hk, h6, h8.2⟩
          · simp at h7
        · rintro ⟨_, h6, _⟩; rw [if_pos h6]
      · rw [if_pos h9]
        exact ⟨fun h8 => absurd h8 h9, fun h8 => absurd (hI.2 ⟨hkI, h8.2.2⟩) h9⟩
  · rw [if_neg hk]
    exact ⟨fun h9 => by simp at h9, fun h9 => absurd h9.1 hk⟩
theorem eMAts_ok {regs slots : Int} (hr : regs ≤ 1048576) (hs : slots ≤ 1048576) {l : List Mac} (h : ∀ i ∈ l, i.ok) : (firstN (eMAt regs slots l) l.length = 0) ↔ okMCode regs slots l := by
  unfold okMCode
  rw [okMCode_ix, firstN_iff]
  constructor
  · intro h9
    have key : ∀ (j : Nat) (x : Mac), l[j]? = some x → eMac regs slots x = 0 ∧ ¬ runK l (j + 1) > 64 := fun j x hx => by
      have h8 := h9 j (List.getElem?_eq_some_iff.1 hx).1
      rw [eMAt_of hx] at h8
      split at h8
      · rename_i h7; exact absurd h8 h7
      split at h8
      · simp at h8
      · rename_i h7 h6; exact ⟨Classical.not_not.1 h7, h6⟩
    refine ⟨fun i hi => ?_, fun k hk h0 => ?_⟩
    · obtain ⟨j, hj⟩ := List.getElem?_of_mem hi
      exact (eMac_ok hr hs (h i hi)).1 (key j i hj).1
    · obtain ⟨j, rfl⟩ : ∃ j, k = j + 1 := ⟨k - 1, by omega⟩
      have := (key j l[j] (List.getElem?_eq_getElem (by omega))).2
      unfold runK at this
      omega
  · rintro ⟨h1, h2⟩ j hj
    rw [eMAt_of (List.getElem?_eq_getElem hj), if_neg, if_neg]
    · have := h2 (j + 1) (by omega) (by omega)
      unfold runK
      omega
    · exact not_not_intro ((eMac_ok hr hs (h _ (List.getElem_mem hj))).2 (h1 _ (List.getElem_mem hj)))
theorem eMFn_ok {f : MFn} (h : ∀ b ∈ f.blocks, ∀ i ∈ b.code, i.ok) : eMFn f = 0 ↔ okMFn f := by
  rw [okMFn_iff]
  have hb : f.regs ≤ 1048576 → f.slots ≤ 1048576 → ∀ b ∈ f.blocks, (eMBlk f.regs f.slots f.blocks.length b = 0 ↔ okMCode f.regs f.slots b.code ∧ okTrm f.regs f.blocks.length b.term) := fun hr hs b hbm => by
    have h8 := eMAts_ok hr hs (h b hbm)
    unfold eMBlk
    by_cases h9 : firstN (eMAt f.regs f.slots b.code) b.code.length = 0
    · rw [if_neg (not_not_intro h9), eTrm_ok]
      exact ⟨fun h7 => ⟨h8.1 h9, h7⟩, fun h7 => h7.2⟩
    · rw [if_pos h9]
      exact ⟨fun h7 => absurd h7 h9, fun h7 => absurd (h8.2 h7.1) h9⟩
  constructor
  · intro h9
    have hS : MBase f := by
      unfold eMFn at h9
      unfold MBase
      split at h9
      · simp at h9
      split at h9
      · simp at h9
      split at h9
      · simp at h9
      split at h9
      · simp at h9
      split at h9
      · simp at h9
      omega
    rw [eMFn_base hS, first0_iff] at h9
    obtain ⟨h1, ⟨h2, h2', h2''⟩, h3, h4, h5⟩ := hS
    exact ⟨h1, ⟨h2, h2', h2''⟩, h3, h4, h5, fun b hbm => (hb h2' h2'' b hbm).1 (h9 b hbm)⟩
  · rintro ⟨h1, h2, h3, h4, h5, h6⟩
    rw [eMFn_base ⟨h1, h2, h3, h4, h5⟩, first0_iff]
    exact fun b hbm => (hb h2.2.1 h2.2.2 b hbm).2 (h6 b hbm)
end Go.Proofs.YtchebkpcgglllaaGreat.Cu

namespace Go.Proofs.YtchebkpcgglllaaGreat.Cu
open Go Go.SX Go.Proofs.YtchebkpcgglllaaGreat.VT
set_option maxRecDepth 100000
set_option linter.unusedVariables false
set_option linter.unusedSimpArgs false
def eCrt (x : Crt) : Int := if eFn x.s ≠ 0 then eFn x.s else if eMFn x.t ≠ 0 then eMFn x.t else if x.s.blocks.length ≠ x.t.blocks.length ∨ x.s.args ≠ x.t.args then 14 else eInv x.s.blocks.length x.s.regs x.t.regs x.t.slots x.w
theorem blk_oks {G : Gh} {A : Option Addr} {c : Nat} {l : List Blk} (h : kBlk.S G A c l) : ∀ b ∈ l, ∀ i ∈ b.code, i.ok := by
  intro b hb i hi
  obtain ⟨css, h1, _⟩ := h
  obtain ⟨k, hk⟩ := List.getElem?_of_mem hb
  obtain ⟨r, _, hr⟩ := h1.get k b hk
  obtain ⟨A', c', _, ⟨css2, h2, _⟩, _⟩ := kBlk_R hr
  obtain ⟨j, hj⟩ := List.getElem?_of_mem hi
  obtain ⟨_, _, hq⟩ := h2.get j i hj
  exact hq.2
theorem mblk_oks {G : Gh} {A : Option Addr} {c : Nat} {l : List MBlk} (h : kMBlk.S G A c l) : ∀ b ∈ l, ∀ i ∈ b.code, i.ok := by
  intro b hb i hi
  obtain ⟨css, h1, _⟩ := h
  obtain ⟨k, hk⟩ := List.getElem?_of_mem hb
  obtain ⟨r, _, hr⟩ := h1.get k b hk
  obtain ⟨A', c', _, ⟨css2, h2, _⟩, _⟩ := kMBlk_R hr
  obtain ⟨j, hj⟩ := List.getElem?_of_mem hi
  obtain ⟨_, _, hq⟩ := h2.get j i hj
  exact hq.2
theorem eCrt_ok {G : Gh} {A B C : Option Addr} {a b c : Nat} {x : Crt} (h : CrtG G A B C a b c x) : eCrt x = 0 ↔ okCrt x := by
  have h1 := eFn_ok (blk_oks h.hs)
  have h2 := eMFn_ok (mblk_oks h.ht)
  unfold eCrt okCrt
  by_cases e1 : eFn x.s = 0
  case neg =>
    rw [if_pos e1]
    exact ⟨fun h9 => absurd h9 e1, fun h9 => absurd (h1.2 h9.1) e1⟩
  rw [if_neg (not_not_intro e1)]
  by_cases e2 : eMFn x.t = 0
  case neg =>
    rw [if_pos e2]
    exact ⟨fun h9 => absurd h9 e2, fun h9 => absurd (h2.2 h9.2.1) e2⟩
  rw [if_neg (not_not_intro e2)]
  by_cases e3 : x.s.blocks.length ≠ x.t.blocks.length ∨ x.s.args ≠ x.t.args
  · rw [if_pos e3]
    refine ⟨fun h9 => by simp at h9, fun h9 => ?_⟩
    rcases e3 with e3 | e3
    · exact absurd h9.2.2.1.1 e3
    · exact absurd h9.2.2.1.2 e3
  · rw [if_neg e3, eInv_ok]
    have e4 : x.s.blocks.length = x.t.blocks.length := Classical.byContradiction fun h9 => e3 (.inl h9)
    have e5 : x.s.args = x.t.args := Classical.byContradiction fun h9 => e3 (.inr h9)
    exact ⟨fun h9 => ⟨h1.1 e1, h2.1 e2, ⟨e4, e5⟩, h9⟩, fun h9 => h9.2.2.2⟩
theorem tot_mul (m : Nat) : ∀ (l : List (List Pr)), (∀ x ∈ l, x.length ≤ m) → tot l ≤ m * l.length
  | [], _ => by simp [tot]
  | x :: l, h => by
    have h1 := h x (by simp)
    have h2 := tot_mul m l fun y hy => h y (by simp [hy])
    simp only [tot, List.length_cons, Nat.mul_add]
    omega
set_option maxHeartbeats 8000000 in
theorem checkerValid_fn {G : Gh} {A B C : Option Addr} {a b c : Nat} {x : Crt} (h : CrtG G A B C a b c x) (hS : Sml x) :
    Ct Tryz.prog 39 [crtS A B C a b c x] [] G fun sv H' G' => sv = .v (.int .i64 (eCrt x)) ∧ H' = [] := by
  have hec : eCrt x = if eFn x.s ≠ 0 then eFn x.s else if eMFn x.t ≠ 0 then eMFn x.t else if x.s.blocks.length ≠ x.t.blocks.length ∨ x.s.args ≠ x.t.args then 14 else eInv x.s.blocks.length x.s.regs x.t.regs x.t.slots x.w := rfl
  generalize eCrt x = ec at *
  obtain ⟨⟨fa, fr, fb⟩, ⟨ga, gr, gs, gb⟩, w⟩ := x
  obtain ⟨hs, ht, hw⟩ := h
  obtain ⟨k1, k2, k3, m1, m2, m3, m4, n1, n2⟩ := hS
  dsimp only at hs ht hw k1 k2 k3 m1 m2 m3 m4 n1 n2 hec
  have htot := tot_mul 400 w n2
  refine fn_of follows [] Tryz.func39 rfl rfl fun E hE => ?_
  unfold crtS
  dsimp only
  repeat' ((fail_if_success with_reducible refine Stop.mk ?_);(conv=>whnf);with_reducible refine stop ?_)
  all_goals refine Stop.mk ?_
  refine call_fn [] (srcCheck_fn _ A a ⟨fa, fr, fb⟩ hs (by dsimp only; omega) (by dsimp only; omega)) rfl trivial (by decide) ?_
  rintro sv H' G' ⟨rfl, rfl⟩ hg
  refine ⟨Nat.le_of_ble_eq_true rfl, ?_⟩
  replace ht := ht.to hg
  replace hw := hw.to hg
  clear hg
  generalize eFn ⟨fa, fr, fb⟩ = e1 at *
  repeat' ((fail_if_success with_reducible refine Stop.mk ?_);(conv=>whnf);with_reducible first|refine br_n (fun h=>?_) fun h=>?_|refine stop ?_)
  all_goals refine Stop.mk ?_
  rotate_left
  · refine fin_id hE 0 rfl rfl rfl rfl ⟨congrArg (fun e => SV.v (.int .i64 e)) ?_, rfl⟩
    rw [hec, if_pos (by assumption)]
  rw [if_neg (by omega)] at hec
  refine call_fn [] (macCheck_fn _ B b ⟨ga, gr, gs, gb⟩ ht (by dsimp only; omega) (by dsimp only; omega)) rfl trivial (by decide) ?_
  rintro sv H' G' ⟨rfl, rfl⟩ hg
  refine ⟨Nat.le_of_ble_eq_true rfl, ?_⟩
  replace hw := hw.to hg
  clear hg
  generalize eMFn ⟨ga, gr, gs, gb⟩ = e2 at *
  by_cases h2 : e2 = 0
  case neg =>
    rw [if_pos h2] at hec
    repeat' ((fail_if_success with_reducible refine Stop.mk ?_);(conv=>whnf);first|((with_reducible refine br_n (fun h=>?_) fun h=>?_) <;> try (exfalso; omega))|with_reducible refine stop ?_)
    all_goals refine Stop.mk ?_
    refine fin_id hE 0 rfl rfl rfl rfl ⟨congrArg (fun e => SV.v (.int .i64 e)) ?_, rfl⟩
    rw [hec]
  rw [if_neg (by omega)] at hec
  by_cases h3 : fb.length ≠ gb.length ∨ fa ≠ ga
  · rw [if_pos h3] at hec
    repeat' ((fail_if_success with_reducible refine Stop.mk ?_);(conv=>whnf);first|with_reducible refine br_t ?_|((with_reducible refine br_n (fun h=>?_) fun h=>?_) <;> try (exfalso; omega))|with_reducible refine stop ?_)
    all_goals refine Stop.mk ?_
    all_goals
      refine fin_id hE 0 rfl rfl rfl rfl ⟨congrArg (fun e => SV.v (.int .i64 e)) ?_, rfl⟩
      rw [hec]
  rw [if_neg h3] at hec
  repeat' ((fail_if_success with_reducible refine Stop.mk ?_);(conv=>whnf);first|((with_reducible refine br_n (fun h=>?_) fun h=>?_) <;> try (exfalso; omega))|with_reducible refine stop ?_)
  all_goals refine Stop.mk ?_
  refine call_fn [] (edgeValid_fn _ C c w fb.length fr gr gs hw (by omega) (by omega)) rfl trivial (by decide) ?_
  rintro sv H' G' ⟨rfl, rfl, rfl⟩ -
  refine ⟨Nat.le_of_ble_eq_true rfl, ?_⟩
  rw [← hec]
  repeat' ((fail_if_success with_reducible refine Stop.mk ?_);(conv=>whnf);with_reducible refine stop ?_)
  all_goals refine Stop.mk ?_
  exact fin_id hE 0 rfl rfl rfl rfl ⟨rfl, rfl⟩
set_option maxHeartbeats 8000000 in
theorem cencode_fn {G : Gh} {A B C : Option Addr} {a b c : Nat} {x : Crt} (hG : CrtG G A B C a b c x) (hS : Sml x) :
    Ct Tryz.prog 12 [crtS A B C a b c x] [] G fun sv H' G' => (eCrt x = 0 ∧ sv = .tup [.s 0, .v (.int .i64 0)] ∧ H' = [rowB (encCrt x)]) ∨ (eCrt x ≠ 0 ∧ sv = .tup [.v (.slice none 0 0), .v (.int .i64 (eCrt x))] ∧ H' = []) := by
  refine fn_of follows [] Tryz.func12 rfl rfl fun E hE => ?_
  have hval := fun G' (hg : Ghe G G') => checkerValid_fn (hG.to hg) hS
  have hck := eCrt_ok hG
  unfold crtS
  repeat' ((fail_if_success with_reducible refine Stop.mk ?_);(conv=>whnf);with_reducible refine stop ?_)
  all_goals refine Stop.mk ?_
  refine call_fn [] (checkerValid_fn hG hS) rfl trivial (by decide) ?_
  rintro sv H' G' ⟨rfl, rfl⟩ hg
  refine ⟨Nat.le_of_ble_eq_true rfl, ?_⟩
  by_cases h0 : eCrt x = 0
  case neg =>
    generalize eCrt x = e at *
    repeat' ((fail_if_success with_reducible refine Stop.mk ?_);(conv=>whnf);first|((with_reducible refine br_n (fun h=>?_) fun h=>?_) <;> try (exfalso; omega))|with_reducible refine stop ?_)
    all_goals refine Stop.mk ?_
    exact fin_id hE 0 rfl rfl rfl rfl (.inr ⟨h0, rfl, rfl⟩)
  rw [h0]
  have hok := hck.1 h0
  replace hG := hG.to hg
  clear hval hck hg
  obtain ⟨⟨fa, fr, fb⟩, ⟨ga, gr, gs, gb⟩, w⟩ := x
  obtain ⟨hs, ht, hw⟩ := hG
  obtain ⟨k1, k2, k3, m1, m2, m3, m4, n1, n2⟩ := hS
  dsimp only at hs ht hw k1 k2 k3 m1 m2 m3 m4 n1 n2
  have q1 := wBs_le fb
  have q2 := wMBs_le gb
  have q3 := encI_le 400 w n2
  have q4 := wFn_le ⟨fa, fr, fb⟩
  have q5 := wMFn_le ⟨ga, gr, gs, gb⟩
  dsimp only at q4 q5
  have b1 := wFn_isb hok.1
  have b2 := wMFn_isb hok.2.1
  have b3 := encI_isb w (fun y hy => by have := n2 y hy; omega)
  have hts := okFn_trm hok.1
  have htm := okMFn_trm hok.2.1
  dsimp only at b1 b2 hts htm
  dsimp only
  repeat' ((fail_if_success with_reducible refine Stop.mk ?_);(conv=>whnf);first|((with_reducible refine br_n (fun h=>?_) fun h=>?_) <;> try (exfalso; omega))|with_reducible refine stop ?_)
  all_goals refine Stop.mk ?_
  refine call_gh (gh_birthC 1 0 5 1 rfl rfl) (putFunc_fn _ A a ⟨fa, fr, fb⟩ [] hs (by dsimp only; omega) (by decide) (by dsimp only; omega) hts).enters ?_
  rintro g s' ⟨rfl, rfl⟩
  refine call_fn [1, 5] (putFunc_fn _ A a ⟨fa, fr, fb⟩ [] hs (by dsimp only; omega) (by decide) (by dsimp only; omega) hts) rfl ⟨rfl, rfl, trivial⟩ (by decide) ?_
  rintro sv H' G5 ⟨rfl, rfl⟩ hg
  refine ⟨Nat.le_of_ble_eq_true rfl, ?_⟩
  rw [List.nil_append]
  replace ht := ht.to hg
  replace hw := hw.to hg
  clear hg
  repeat' ((fail_if_success with_reducible refine Stop.mk ?_);(conv=>whnf);with_reducible refine stop ?_)
  all_goals refine Stop.mk ?_
  refine call_gh (gh_birthC 2 0 5 1 rfl rfl) (putMFunc_fn _ B b ⟨ga, gr, gs, gb⟩ [] ht (by dsimp only; omega) (by decide) (by dsimp only; omega) htm).enters ?_
  rintro g s' ⟨rfl, rfl⟩
  refine call_fn [2, 6] (putMFunc_fn _ B b ⟨ga, gr, gs, gb⟩ [] ht (by dsimp only; omega) (by decide) (by dsimp only; omega) htm) rfl ⟨rfl, rfl, trivial⟩ (by decide) ?_
  rintro sv H' G6 ⟨rfl, rfl⟩ hg
  refine ⟨Nat.le_of_ble_eq_true rfl, ?_⟩
  rw [List.nil_append]
  replace hw := hw.to hg
  clear hg
  repeat' ((fail_if_success with_reducible refine Stop.mk ?_);(conv=>whnf);with_reducible refine stop ?_)
  all_goals refine Stop.mk ?_
  refine call_gh (gh_birthC 3 0 5 1 rfl rfl) (put_inv_fn _ C c w [] hw (by omega) (fun y hy => by have := n2 y hy; omega) (by decide)).enters ?_
  rintro g s' ⟨rfl, rfl⟩
  refine call_fn [3, 7] (put_inv_fn _ C c w [] hw (by omega) (fun y hy => by have := n2 y hy; omega) (by decide)) rfl ⟨rfl, rfl, trivial⟩ (by decide) ?_
  rintro sv H' G7 ⟨rfl, rfl⟩ hg
  refine ⟨Nat.le_of_ble_eq_true rfl, ?_⟩
  rw [List.nil_append]
  clear hg
  repeat' ((fail_if_success with_reducible refine Stop.mk ?_);(conv=>whnf);with_reducible refine stop ?_)
  all_goals refine Stop.mk ?_
  refine call_fn [] (cids_fn _) rfl trivial (by decide) ?_
  rintro sv H' G8 ⟨⟨A3, c3, rfl, hi3⟩, rfl⟩ -
  refine ⟨Nat.le_of_ble_eq_true rfl, ?_⟩
  repeat' ((fail_if_success with_reducible refine Stop.mk ?_);(conv=>whnf);with_reducible refine stop ?_)
  all_goals refine Stop.mk ?_
  refine call_fn [1, 5] (wout_fn _ (wFn ⟨fa, fr, fb⟩) (by omega)) rfl ⟨rfl, rfl, trivial⟩ (by decide) ?_
  rintro sv H' G9 ⟨rfl, rfl, rfl⟩ -
  refine ⟨Nat.le_of_ble_eq_true rfl, ?_⟩
  repeat' ((fail_if_success with_reducible refine Stop.mk ?_);(conv=>whnf);with_reducible refine stop ?_)
  all_goals refine Stop.mk ?_
  refine call_fn [2, 6] (wout_fn _ (wMFn ⟨ga, gr, gs, gb⟩) (by omega)) rfl ⟨rfl, rfl, trivial⟩ (by decide) ?_
  rintro sv H' G9 ⟨rfl, rfl, rfl⟩ -
  refine ⟨Nat.le_of_ble_eq_true rfl, ?_⟩
  repeat' ((fail_if_success with_reducible refine Stop.mk ?_);(conv=>whnf);with_reducible refine stop ?_)
  all_goals refine Stop.mk ?_
  refine call_fn [3, 7] (wout_fn _ (encI w) (by omega)) rfl ⟨rfl, rfl, trivial⟩ (by decide) ?_
  rintro sv H' G9 ⟨rfl, rfl, rfl⟩ -
  refine ⟨Nat.le_of_ble_eq_true rfl, ?_⟩
  repeat' ((fail_if_success with_reducible refine Stop.mk ?_);(conv=>whnf);with_reducible refine stop ?_)
  all_goals refine Stop.mk ?_
  refine call_fz 8 rfl (byts_one _) (enters_of Tryz.func43 rfl rfl) fun Ap cp Gp hgp hsp => ?_
  (conv => whnf)
  refine call_fz 9 rfl (byts_one _) (enters_of Tryz.func43 rfl rfl) fun Aq cq Gq hgq hsq => ?_
  (conv => whnf)
  refine call_fz 10 rfl (byts_one _) (enters_of Tryz.func43 rfl rfl) fun Ar cr Gr hgr hsr => ?_
  (conv => whnf)
  refine call_lit 11 1 rfl rfl rfl (by decide) (enters_of Tryz.func43 rfl rfl) ?_
  (conv => whnf)
  refine call_fz 11 rfl (by simp [Value.oneCell']) (enters_of Tryz.func43 rfl rfl) fun Ax cx Gx hgx hsx => ?_
  (conv => whnf)
  have hcs := kBs_of [wFn ⟨fa, fr, fb⟩, wMFn ⟨ga, gr, gs, gb⟩, encI w] hsx rfl rfl (cs3_of (SlB.of _ (Sl.to hgx (Sl.to hgr (Sl.to hgq hsp))) rfl rfl rfl) (SlB.of _ (Sl.to hgx (Sl.to hgr hsq)) rfl rfl rfl) (SlB.of _ (Sl.to hgx hsr) rfl rfl rfl) b1 b2 b3)
  have hids := (((hi3.to hgp).to hgq).to hgr).to hgx
  have hpl : (packB [1, 2, 3] [wFn ⟨fa, fr, fb⟩, wMFn ⟨ga, gr, gs, gb⟩, encI w]).length ≤ 1000000 := by
    simp only [packB, List.length_cons, List.length_append, List.length_nil]
    have := putB_len (wFn ⟨fa, fr, fb⟩).length
    have := putB_len (wMFn ⟨ga, gr, gs, gb⟩).length
    have := putB_len (encI w).length
    omega
  refine call_fn [] (pack_fn _ A3 Ax c3 cx [1, 2, 3] [wFn ⟨fa, fr, fb⟩, wMFn ⟨ga, gr, gs, gb⟩, encI w] hids hcs (by show 3 ≤ 10000; decide) (by simp only [total]; omega)) rfl trivial (by decide) ?_
  intro sv H' G10 hp hg10
  rw [PackPost, if_pos (show [(1 : Int), 2, 3].length = [wFn ⟨fa, fr, fb⟩, wMFn ⟨ga, gr, gs, gb⟩, encI w].length from rfl)] at hp
  obtain ⟨rfl, rfl⟩ := hp
  refine ⟨Nat.le_of_ble_eq_true rfl, ?_⟩
  repeat' ((fail_if_success with_reducible refine Stop.mk ?_);(conv=>whnf);with_reducible refine stop ?_)
  all_goals refine Stop.mk ?_
  refine call_fz 13 rfl (by simp [Value.oneCell']) (enters_of Tryz.func45 rfl rfl) fun Ay cy Gy hgy hsy => ?_
  (conv => whnf)
  refine call_fn [4] (wbytes0_fn _ Ay cy [82, 67, 1] (SlB.of _ hsy rfl rfl rfl) (by decide)) rfl ⟨rfl, trivial⟩ (by decide) ?_
  rintro sv H' G11 ⟨rfl, rfl, rfl⟩ -
  refine ⟨Nat.le_of_ble_eq_true rfl, ?_⟩
  repeat' ((fail_if_success with_reducible refine Stop.mk ?_);(conv=>whnf);with_reducible refine stop ?_)
  all_goals refine Stop.mk ?_
  refine call_fz 12 rfl (byts_one _) (enters_of Tryz.func45 rfl rfl) fun Az cz Gz hgz hsz => ?_
  (conv => whnf)
  refine call_fn [4, 14] (wbytes_fn _ Az cz (packB [1, 2, 3] [wFn ⟨fa, fr, fb⟩, wMFn ⟨ga, gr, gs, gb⟩, encI w]) [82, 67, 1] (SlB.of _ hsz rfl rfl rfl) (by show 3 + _ ≤ _; omega)) rfl ⟨rfl, rfl, trivial⟩ (by decide) ?_
  rintro sv H' G12 ⟨rfl, rfl, rfl⟩ -
  refine ⟨Nat.le_of_ble_eq_true rfl, ?_⟩
  repeat' ((fail_if_success with_reducible refine Stop.mk ?_);(conv=>whnf);with_reducible refine stop ?_)
  all_goals refine Stop.mk ?_
  refine call_fn [4, 14] (wout_fn _ ([82, 67, 1] ++ packB [1, 2, 3] [wFn ⟨fa, fr, fb⟩, wMFn ⟨ga, gr, gs, gb⟩, encI w]) (by rw [List.length_append]; show 3 + _ ≤ _; omega)) rfl ⟨rfl, rfl, trivial⟩ (by decide) ?_
  rintro sv H' G13 ⟨rfl, rfl, rfl⟩ -
  refine ⟨Nat.le_of_ble_eq_true rfl, ?_⟩
  repeat' ((fail_if_success with_reducible refine Stop.mk ?_);(conv=>whnf);with_reducible refine stop ?_)
  all_goals refine Stop.mk ?_
  exact fin_mk hE [15] (.tup [.s 0, .v (.int .i64 0)]) [rowB (encCrt ⟨⟨fa, fr, fb⟩, ⟨ga, gr, gs, gb⟩, w⟩)] rfl ⟨rfl, trivial⟩ rfl (.inl ⟨rfl, rfl, rfl⟩)
end Go.Proofs.YtchebkpcgglllaaGreat.Cu

namespace Go.Proofs.YtchebkpcgglllaaGreat.Cu
open Go Go.SX Go.Proofs.YtchebkpcgglllaaGreat.VT
set_option maxRecDepth 100000
set_option linter.unusedVariables false
set_option linter.unusedSimpArgs false
theorem sEnd_zero {p : Ps} (h : (sEnd p).2 = 0) : p.1 = [] ∧ p.2 = 0 := by
  unfold sEnd sLeft at h
  dsimp only at h
  by_cases h2 : p.2 = 0
  · rw [if_pos h2] at h
    refine ⟨?_, h2⟩
    by_cases h3 : (p.1.length : Int) > 0
    · rw [if_pos h3] at h; simp at h
    · exact List.eq_nil_of_length_eq_zero (by omega)
  · rw [if_neg h2] at h
    simp at h
    exact absurd h h2
theorem sec_ca {α : Type} {f : Ps → α × Ps} {enc : α → List Int} {ok : α → Prop} (hC : Cod (fun e => e ≠ 0) f enc ok) {b : List Int} (hb : isB b) (h : (sEnd (f (b, 0)).2).2 = 0) : ok (f (b, 0)).1 ∧ b = enc (f (b, 0)).1 := by
  obtain ⟨h1, h2⟩ := sEnd_zero h
  obtain ⟨h3, h4⟩ := hC.ca b hb h2
  rw [h1, List.append_nil] at h4
  exact ⟨h3, h4⟩
theorem sec_rt {α : Type} {f : Ps → α × Ps} {enc : α → List Int} {ok : α → Prop} (hC : Cod (fun e => e ≠ 0) f enc ok) {x : α} (h : ok x) : (f (enc x, 0)).1 = x ∧ (sEnd (f (enc x, 0)).2).2 = 0 := by
  have := hC.rt x [] h
  rw [List.append_nil] at this
  rw [this]
  exact ⟨rfl, rfl⟩
theorem codS : Cod (fun e => e ≠ 0) sFnR encFn okFn := Cod.fn (by decide) (fun _ h => h)
theorem codT : Cod (fun e => e ≠ 0) sMFnR encMFn okMFn := Cod.mfn (by decide) (fun _ h => h)
theorem codW {vregs regs slots : Int} (hv : 0 ≤ vregs ∧ vregs ≤ 1000000000) (hr : regs ≤ 1000000000) (hs : slots ≤ 1000000000) (n : Nat) : Cod (fun e => e ≠ 0) (sInv vregs regs slots n) encInv (fun l => l.length = n ∧ okInv vregs regs slots l) := Cod.inv (by decide) (fun _ h => h) hv hr hs n
theorem encInv_eq (l : List (List Pr)) : encInv l = encI l := encI_eq 0 l
/-- What the parts are once the sections are split. -/
theorem parts_ok {b : List Int} (hb : isB b) (hl : b.length ≤ 1000000) (h : (splitR [1, 2, 3] (b.drop 3)).2 = 0) :
    b.drop 3 = packB [1, 2, 3] [cPart b 0, cPart b 1, cPart b 2] ∧ (isB (cPart b 0) ∧ (cPart b 0).length ≤ 1000000) ∧ (isB (cPart b 1) ∧ (cPart b 1).length ≤ 1000000) ∧ (isB (cPart b 2) ∧ (cPart b 2).length ≤ 1000000) := by
  have hdl : (b.drop 3).length ≤ b.length := by rw [List.length_drop]; omega
  obtain ⟨h1, h2, h3, h4⟩ := splitR_inv (isB_drop hb 3) (by omega) h
  obtain ⟨x, y, z, hxyz⟩ := splitR3 (b.drop 3)
  have e0 : cPart b 0 = x := by unfold cPart; rw [hxyz]; rfl
  have e1 : cPart b 1 = y := by unfold cPart; rw [hxyz]; rfl
  have e2 : cPart b 2 = z := by unfold cPart; rw [hxyz]; rfl
  rw [hxyz] at h1 h2 h3
  rw [e0, e1, e2]
  simp only [total] at h3
  exact ⟨h1, ⟨(h2 x (by simp)).1, by omega⟩, ⟨(h2 y (by simp)).1, by omega⟩, (h2 z (by simp)).1, by omega⟩
theorem part_ok {b : List Int} (hb : isB b) (hl : b.length ≤ 1000000) : PartOK b := by
  refine ⟨fun h => (parts_ok hb hl h).2.1.2, fun h => (parts_ok hb hl h).2.2.1.2, fun h => (parts_ok hb hl h).2.2.2.2, fun h hS hT => ?_⟩
  obtain ⟨_, p0, p1, _⟩ := parts_ok hb hl h
  have h1 := (sec_ca codS p0.1 hS).1
  have h2 := (sec_ca codT p1.1 hT).1
  obtain ⟨⟨a1, a2⟩, a3, a4, a5, a6, _⟩ := (okFn_iff _).1 h1
  obtain ⟨b1, ⟨b2, b2', b2''⟩, b3, b4, b5, _⟩ := (okMFn_iff _).1 h2
  have e1 : cS b = (sFnR (cPart b 0, 0)).1 := rfl
  have e2 : cT b = (sMFnR (cPart b 1, 0)).1 := rfl
  rw [e1, e2]
  omega
/-- What is decoded. -/
def dCrt (b : List Int) : Crt := ⟨cS b, cT b, cW b⟩
/-- Small enough to be packed. -/
structure FitC (x : Crt) : Prop where
  b1 : isB (wFn x.s)
  b2 : isB (wMFn x.t)
  b3 : isB (encI x.w)
  l1 : (wFn x.s).length ≤ 20000
  l2 : (wMFn x.t).length ≤ 60000
  l3 : (encI x.w).length ≤ 330000
  b : isB (encCrt x)
  l : (encCrt x).length ≤ 500000
theorem fit_of {x : Crt} (h : okCrt x) (hS : Sml x) : FitC x := by
  obtain ⟨k1, k2, k3, m1, m2, m3, m4, n1, n2⟩ := hS
  have q1 := wBs_le x.s.blocks
  have q2 := wMBs_le x.t.blocks
  have q3 := encI_le 400 x.w n2
  have q4 := wFn_le x.s
  have q5 := wMFn_le x.t
  have b1 := wFn_isb h.1
  have b2 := wMFn_isb h.2.1
  have b3 := encI_isb x.w (fun y hy => by have := n2 y hy; omega)
  have hpb : isB (packB [1, 2, 3] [wFn x.s, wMFn x.t, encI x.w]) := packB_isb (by decide) (fun d hd => by
    simp only [List.mem_cons, List.not_mem_nil, or_false] at hd
    rcases hd with rfl | rfl | rfl
    · exact ⟨b1, by omega⟩
    · exact ⟨b2, by omega⟩
    · exact ⟨b3, by omega⟩)
  have hp1 := putB_len (wFn x.s).length
  have hp2 := putB_len (wMFn x.t).length
  have hp3 := putB_len (encI x.w).length
  refine ⟨b1, b2, b3, by omega, by omega, by omega, ?_, ?_⟩
  · intro y hy
    unfold encCrt at hy
    rcases List.mem_append.1 hy with hy | hy
    · exact (show isB [82, 67, 1] by decide) y hy
    · exact hpb y hy
  · unfold encCrt
    simp only [packB, List.length_cons, List.length_append, List.length_nil]
    omega
theorem enc_ok {x : Crt} (h : okCrt x) (hF : FitC x) : cErr (encCrt x) = 0 ∧ dCrt (encCrt x) = x := by
  obtain ⟨s, t, w⟩ := x
  obtain ⟨b1, b2, b3, l1, l2, l3, _, _⟩ := hF
  obtain ⟨o1, o2, ⟨o3, o3'⟩, o4, o5⟩ := h
  dsimp only at b1 b2 b3 l1 l2 l3 o1 o2 o3 o3' o4 o5
  have hcs : ∀ c ∈ [wFn s, wMFn t, encI w], okC c := fun d hd => by
    simp only [List.mem_cons, List.not_mem_nil, or_false] at hd
    rcases hd with rfl | rfl | rfl
    · exact ⟨b1, by omega⟩
    · exact ⟨b2, by omega⟩
    · exact ⟨b3, by omega⟩
  have hp1 := putB_len (wFn s).length
  have hp2 := putB_len (wMFn t).length
  have hp3 := putB_len (encI w).length
  have hR : splitR [1, 2, 3] (packB [1, 2, 3] [wFn s, wMFn t, encI w]) = ([wFn s, wMFn t, encI w], 0) := splitR_good rfl (by decide) hcs (by
    simp only [packB, List.length_cons, List.length_append, List.length_nil]
    omega)
  have hd : (encCrt ⟨s, t, w⟩).drop 3 = packB [1, 2, 3] [wFn s, wMFn t, encI w] := rfl
  have e0 : cPart (encCrt ⟨s, t, w⟩) 0 = wFn s := by unfold cPart; rw [hd, hR]; rfl
  have e1 : cPart (encCrt ⟨s, t, w⟩) 1 = wMFn t := by unfold cPart; rw [hd, hR]; rfl
  have e2 : cPart (encCrt ⟨s, t, w⟩) 2 = encI w := by unfold cPart; rw [hd, hR]; rfl
  obtain ⟨r1, r1'⟩ := sec_rt codS o1
  obtain ⟨r2, r2'⟩ := sec_rt codT o2
  rw [← wFn_eq o1] at r1 r1'
  rw [← wMFn_eq o2] at r2 r2'
  obtain ⟨⟨a1, a2⟩, a3, a4, a5, a6, _⟩ := (okFn_iff _).1 o1
  obtain ⟨c1, ⟨c2, c2', c2''⟩, c3, c4, c5, _⟩ := (okMFn_iff _).1 o2
  obtain ⟨r3, r3'⟩ := sec_rt (codW (vregs := s.regs) (regs := t.regs) (slots := t.slots) ⟨by omega, by omega⟩ (by omega) (by omega) s.blocks.length) (x := w) ⟨by omega, o5⟩
  rw [encInv_eq] at r3 r3'
  have hS : cS (encCrt ⟨s, t, w⟩) = s := by unfold cS secS; rw [e0]; exact r1
  have hT : cT (encCrt ⟨s, t, w⟩) = t := by unfold cT secT; rw [e1]; exact r2
  have hW : cW (encCrt ⟨s, t, w⟩) = w := by
    unfold cW sInvL
    rw [hS, hT, e2]
    have h9 : (sInvC s t (encI w, 0)).2.2 = 0 := (sEnd_zero r3').2
    rw [if_pos h9]
    exact r3
  refine ⟨?_, by unfold dCrt; rw [hS, hT, hW]⟩
  have hst : eStart (encCrt ⟨s, t, w⟩) = 0 := by
    have h1 : encCrt ⟨s, t, w⟩ = 82 :: 67 :: 1 :: packB [1, 2, 3] [wFn s, wMFn t, encI w] := rfl
    unfold eStart
    rw [h1, if_neg (by simp), if_neg (by simp), if_neg (by simp), if_neg (by simp)]
  unfold cErr
  rw [if_neg (not_not_intro hst), hd, hR, if_neg (not_not_intro rfl), e0, if_neg (not_not_intro (show (secS (wFn s)).2 = 0 from r1')), e1, if_neg (not_not_intro (show (secT (wMFn t)).2 = 0 from r2')), hS, hT, if_neg, e2]
  · exact r3'
  · rintro (h9 | h9)
    · exact h9 o3
    · exact h9 o3'
end Go.Proofs.YtchebkpcgglllaaGreat.Cu
