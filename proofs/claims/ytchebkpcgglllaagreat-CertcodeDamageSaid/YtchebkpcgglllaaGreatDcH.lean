/- Certificates: what the reference says of them, and how it writes them. -/
import Derived.Test.YtchebkpcgglllaaGreatFuGx
import Derived.Test.YtchebkpcgglllaaGreatWi8
import Derived.Test.YtchebkpcgglllaaGreatSex
import Derived.Test.YtchebkpcgglllaaGreatSe7
import Derived.Test.YtchebkpcgglllaaGreatSXc
namespace Go.Proofs.YtchebkpcgglllaaGreat.Cu
open Go Go.SX Go.Proofs.YtchebkpcgglllaaGreat.VT
set_option maxRecDepth 100000
set_option linter.unusedVariables false
set_option linter.unusedSimpArgs false

structure Crt where
  s : Fn
  t : MFn
  w : List (List Pr)
def crtL (A B C : Option Addr) (a b c : Nat) (x : Crt) : List Value := [.int .i64 x.s.args, .int .i64 x.s.regs, .slice A x.s.blocks.length a, .int .i64 x.t.args, .int .i64 x.t.regs, .int .i64 x.t.slots, .slice B x.t.blocks.length b, .slice C x.w.length c]
def crtS (A B C : Option Addr) (a b c : Nat) (x : Crt) : SV := .agg [.v (.int .i64 x.s.args), .v (.int .i64 x.s.regs), .v (.slice A x.s.blocks.length a), .v (.int .i64 x.t.args), .v (.int .i64 x.t.regs), .v (.int .i64 x.t.slots), .v (.slice B x.t.blocks.length b), .v (.slice C x.w.length c)]
structure CrtG (G : Gh) (A B C : Option Addr) (a b c : Nat) (x : Crt) : Prop where
  hs : kBlk.S G A a x.s.blocks
  ht : kMBlk.S G B b x.t.blocks
  hw : kPrs.S G C c x.w
theorem CrtG.to {G G' : Gh} {A B C : Option Addr} {a b c : Nat} {x : Crt} (h : CrtG G A B C a b c x) (hg : Ghe G G') : CrtG G' A B C a b c x := ⟨h.hs.to hg, h.ht.to hg, h.hw.to hg⟩
/-- Small. -/
structure Sml (x : Crt) : Prop where
  s1 : x.s.blocks.length ≤ 40
  s2 : x.s.regs ≤ 60
  s3 : totB x.s.blocks ≤ 300
  t1 : x.t.blocks.length ≤ 40
  t2 : x.t.regs ≤ 60
  t3 : x.t.slots ≤ 60
  t4 : totMB x.t.blocks ≤ 900
  w1 : x.w.length ≤ 40
  w2 : ∀ y ∈ x.w, y.length ≤ 400
def okCrt (x : Crt) : Prop := okFn x.s ∧ okMFn x.t ∧ (x.s.blocks.length = x.t.blocks.length ∧ x.s.args = x.t.args) ∧ validI x.s.blocks.length x.s.regs x.t.regs x.t.slots x.w
theorem cs3_of {G : Gh} {A1 A2 A3 : Option Addr} {c1 c2 c3 : Nat} {X Y Z : List Int} (s1 : SlB G A1 c1 X) (s2 : SlB G A2 c2 Y) (s3 : SlB G A3 c3 Z) (b1 : isB X) (b2 : isB Y) (b3 : isB Z) :
    kBs.Cs G [X, Y, Z] [.slice A1 X.length c1, .slice A2 Y.length c2, .slice A3 Z.length c3] :=
  ⟨[[.slice A1 X.length c1], [.slice A2 Y.length c2], [.slice A3 Z.length c3]], ⟨R_kBs s1 b1, R_kBs s2 b2, R_kBs s3 b3, trivial⟩, rfl⟩
set_option maxHeartbeats 8000000 in
theorem few16_fn {G : Gh} {A B C : Option Addr} {a b c : Nat} {x : Crt} (h : CrtG G A B C a b c x) :
    Ct Tryz.prog 9 [crtS A B C a b c x] [] G fun sv H' G' => (∃ r, sv = .v (.bool r) ∧ (r = true → Sml x)) ∧ H' = [] ∧ G' = G := by
  obtain ⟨⟨fa, fr, fb⟩, ⟨ga, gr, gs, gb⟩, w⟩ := x
  obtain ⟨hs, ht, hw⟩ := h
  dsimp only at hs ht hw
  refine fn_of follows [] Tryz.func9 rfl rfl fun E hE => ?_
  unfold crtS
  dsimp only
  repeat' ((fail_if_success with_reducible refine Stop.mk ?_);(conv=>whnf);with_reducible first|refine br_t ?_|refine br_f ?_|refine br_nn ?_|refine br_ns ?_|refine br_not ?_|refine br_d (fun h=>?_) fun h=>?_|refine br_e (fun h=>?_) fun h=>?_|refine br_n (fun h=>?_) fun h=>?_|refine drw_fast (by kernel_rfl) ?_|refine chk (by kernel_rfl) ?_|refine stop ?_)
  all_goals refine Stop.mk ?_
  refine call_fn [] (few7_fn _ A a ⟨fa, fr, fb⟩ hs) rfl trivial (by decide) ?_
  rintro sv H' G' ⟨⟨r1, rfl, k1⟩, rfl, rfl⟩ -
  refine ⟨Nat.le_of_ble_eq_true rfl, ?_⟩
  cases r1
  ·
    repeat' ((fail_if_success with_reducible refine Stop.mk ?_);(conv=>whnf);with_reducible first|refine br_t ?_|refine br_f ?_|refine br_nn ?_|refine br_ns ?_|refine br_not ?_|refine br_d (fun h=>?_) fun h=>?_|refine br_e (fun h=>?_) fun h=>?_|refine br_n (fun h=>?_) fun h=>?_|refine drw_fast (by kernel_rfl) ?_|refine chk (by kernel_rfl) ?_|refine stop ?_)
    all_goals refine Stop.mk ?_
    exact fin_id hE 0 rfl rfl rfl rfl ⟨⟨_, rfl, fun h => absurd h (by decide)⟩, rfl, rfl⟩
  obtain ⟨k1, k2, k3⟩ := k1 rfl
  repeat' ((fail_if_success with_reducible refine Stop.mk ?_);(conv=>whnf);with_reducible first|refine br_t ?_|refine br_f ?_|refine br_nn ?_|refine br_ns ?_|refine br_not ?_|refine br_d (fun h=>?_) fun h=>?_|refine br_e (fun h=>?_) fun h=>?_|refine br_n (fun h=>?_) fun h=>?_|refine drw_fast (by kernel_rfl) ?_|refine chk (by kernel_rfl) ?_|refine stop ?_)
  all_goals refine Stop.mk ?_
  refine call_fn [] (few8_fn _ B b ⟨ga, gr, gs, gb⟩ ht) rfl trivial (by decide) ?_
  rintro sv H' G' ⟨⟨r2, rfl, m1⟩, rfl, rfl⟩ -
  refine ⟨Nat.le_of_ble_eq_true rfl, ?_⟩
  cases r2
  ·
    repeat' ((fail_if_success with_reducible refine Stop.mk ?_);(conv=>whnf);with_reducible first|refine br_t ?_|refine br_f ?_|refine br_nn ?_|refine br_ns ?_|refine br_not ?_|refine br_d (fun h=>?_) fun h=>?_|refine br_e (fun h=>?_) fun h=>?_|refine br_n (fun h=>?_) fun h=>?_|refine drw_fast (by kernel_rfl) ?_|refine chk (by kernel_rfl) ?_|refine stop ?_)
    all_goals refine Stop.mk ?_
    exact fin_id hE 0 rfl rfl rfl rfl ⟨⟨_, rfl, fun h => absurd h (by decide)⟩, rfl, rfl⟩
  obtain ⟨m1, m2, m3, m4⟩ := m1 rfl
  repeat' ((fail_if_success with_reducible refine Stop.mk ?_);(conv=>whnf);with_reducible first|refine br_t ?_|refine br_f ?_|refine br_nn ?_|refine br_ns ?_|refine br_not ?_|refine br_d (fun h=>?_) fun h=>?_|refine br_e (fun h=>?_) fun h=>?_|refine br_n (fun h=>?_) fun h=>?_|refine drw_fast (by kernel_rfl) ?_|refine chk (by kernel_rfl) ?_|refine stop ?_)
  all_goals refine Stop.mk ?_
  refine call_fn [] (rfew15_fn _ C c w hw) rfl trivial (by decide) ?_
  rintro sv H' G' ⟨⟨r3, rfl, n1⟩, rfl, rfl⟩ -
  refine ⟨Nat.le_of_ble_eq_true rfl, ?_⟩
  repeat' ((fail_if_success with_reducible refine Stop.mk ?_);(conv=>whnf);with_reducible first|refine br_t ?_|refine br_f ?_|refine br_nn ?_|refine br_ns ?_|refine br_not ?_|refine br_d (fun h=>?_) fun h=>?_|refine br_e (fun h=>?_) fun h=>?_|refine br_n (fun h=>?_) fun h=>?_|refine drw_fast (by kernel_rfl) ?_|refine chk (by kernel_rfl) ?_|refine stop ?_)
  all_goals refine Stop.mk ?_
  refine fin_id hE 0 rfl rfl rfl rfl ⟨⟨_, rfl, fun h => ?_⟩, rfl, rfl⟩
  obtain ⟨n1, n2⟩ := n1 h
  exact ⟨k1, k2, k3, m1, m2, m3, m4, n1, n2⟩
set_option maxHeartbeats 8000000 in
theorem valid16_fn {G : Gh} {A B C : Option Addr} {a b c : Nat} {x : Crt} (h : CrtG G A B C a b c x) (hS : Sml x) :
    Ct Tryz.prog 16 [crtS A B C a b c x] [] G fun sv H' G' => ∃ e : Int, sv = .v (.int .i64 e) ∧ (e = 0 ↔ okCrt x) ∧ H' = [] ∧ G' = G := by
  obtain ⟨⟨fa, fr, fb⟩, ⟨ga, gr, gs, gb⟩, w⟩ := x
  obtain ⟨hs, ht, hw⟩ := h
  obtain ⟨k1, k2, k3, m1, m2, m3, m4, n1, n2⟩ := hS
  dsimp only at hs ht hw k1 k2 k3 m1 m2 m3 m4 n1 n2
  refine fn_of follows [] Tryz.func16 rfl rfl fun E hE => ?_
  unfold crtS
  dsimp only
  repeat' ((fail_if_success with_reducible refine Stop.mk ?_);(conv=>whnf);with_reducible first|refine br_t ?_|refine br_f ?_|refine br_nn ?_|refine br_ns ?_|refine br_not ?_|refine br_d (fun h=>?_) fun h=>?_|refine br_e (fun h=>?_) fun h=>?_|refine br_n (fun h=>?_) fun h=>?_|refine drw_fast (by kernel_rfl) ?_|refine chk (by kernel_rfl) ?_|refine stop ?_)
  all_goals refine Stop.mk ?_
  refine call_fn [] (check7_fn _ A a ⟨fa, fr, fb⟩ hs (by dsimp only; omega) (by dsimp only; omega)) rfl trivial (by decide) ?_
  rintro sv H' G' ⟨e1, rfl, hk, rfl, rfl⟩ -
  refine ⟨Nat.le_of_ble_eq_true rfl, ?_⟩
  repeat' ((fail_if_success with_reducible refine Stop.mk ?_);(conv=>whnf);with_reducible first|refine br_t ?_|refine br_f ?_|refine br_nn ?_|refine br_ns ?_|refine br_not ?_|refine br_d (fun h=>?_) fun h=>?_|refine br_e (fun h=>?_) fun h=>?_|refine br_n (fun h=>?_) fun h=>?_|refine drw_fast (by kernel_rfl) ?_|refine chk (by kernel_rfl) ?_|refine stop ?_)
  all_goals refine Stop.mk ?_
  rotate_left
  · refine fin_id hE 0 rfl rfl rfl rfl ⟨_, rfl, ⟨fun h9 => absurd h9 (by assumption), fun h9 => ?_⟩, rfl, rfl⟩
    exact absurd (hk.2 h9.1) (by assumption)
  have hk0 := hk.1 (by assumption)
  clear hk h
  refine call_fn [] (check8_fn _ B b ⟨ga, gr, gs, gb⟩ ht (by dsimp only; omega) (by dsimp only; omega)) rfl trivial (by decide) ?_
  rintro sv H' G' ⟨e2, rfl, hm, rfl, rfl⟩ -
  refine ⟨Nat.le_of_ble_eq_true rfl, ?_⟩
  repeat' ((fail_if_success with_reducible refine Stop.mk ?_);(conv=>whnf);with_reducible first|refine br_t ?_|refine br_f ?_|refine br_nn ?_|refine br_ns ?_|refine br_not ?_|refine br_d (fun h=>?_) fun h=>?_|refine br_e (fun h=>?_) fun h=>?_|refine br_n (fun h=>?_) fun h=>?_|refine drw_fast (by kernel_rfl) ?_|refine chk (by kernel_rfl) ?_|refine stop ?_)
  all_goals refine Stop.mk ?_
  all_goals try
    refine fin_id hE 0 rfl rfl rfl rfl ⟨_, rfl, ⟨fun h9 => absurd h9 (by first | assumption | decide), fun h9 => ?_⟩, rfl, rfl⟩
    first
      | exact absurd (hm.2 h9.2.1) (by assumption)
      | (have h8 := h9.2.2.1.1; dsimp only at h8; exact absurd (show (fb.length : Int) = gb.length by omega) (by assumption))
      | (have h8 := h9.2.2.1.2; dsimp only at h8; exact absurd h8 (by assumption))
  have hm0 := hm.1 (by assumption)
  clear hm
  have hlen : fb.length = gb.length := by omega
  have harg : fa = ga := by assumption
  refine call_fn [] (valid15_fn _ C c w fb.length fr gr gs hw ⟨by omega, fun y hy => by have := n2 y hy; omega⟩) rfl trivial (by decide) ?_
  rintro sv H' G' ⟨e3, rfl, hv, rfl, rfl⟩ -
  refine ⟨Nat.le_of_ble_eq_true rfl, ?_⟩
  repeat' ((fail_if_success with_reducible refine Stop.mk ?_);(conv=>whnf);with_reducible first|refine br_t ?_|refine br_f ?_|refine br_nn ?_|refine br_ns ?_|refine br_not ?_|refine br_d (fun h=>?_) fun h=>?_|refine br_e (fun h=>?_) fun h=>?_|refine br_n (fun h=>?_) fun h=>?_|refine drw_fast (by kernel_rfl) ?_|refine chk (by kernel_rfl) ?_|refine stop ?_)
  all_goals refine Stop.mk ?_
  exact fin_id hE 0 rfl rfl rfl rfl ⟨_, rfl, ⟨fun h9 => ⟨hk0, hm0, ⟨hlen, harg⟩, hv.1 h9⟩, fun h9 => hv.2 h9.2.2.2⟩, rfl, rfl⟩
/-- The encoding. -/
def encCrt (x : Crt) : List Int := [82, 67, 1] ++ packB [1, 2, 3] [wFn x.s, wMFn x.t, encI x.w]
set_option maxHeartbeats 8000000 in
theorem rencode_fn {G : Gh} {A B C : Option Addr} {a b c : Nat} {x : Crt} (hG : CrtG G A B C a b c x) (hS : Sml x) :
    Ct Tryz.prog 13 [crtS A B C a b c x] [] G fun sv H' G' => (okCrt x ∧ sv = .tup [.s 0, .v (.int .i64 0)] ∧ H' = [rowB (encCrt x)]) ∨ (¬ okCrt x ∧ ∃ e : Int, e ≠ 0 ∧ sv = .tup [.v (.slice none 0 0), .v (.int .i64 e)] ∧ H' = []) := by
  refine fn_of follows [(5, (.cons 0 [] (.cons 2 [] (.cons 3 [] (.cons 5 [] (.cons 6 [] (.cons 8 [] (.cons 9 [] (.alt (.cons 1 [] (.cons 4 [] (.cons 7 [] (.cons 10 [] (.cons 11 [] (.cons 12 [] (.cons 13 [] (.cons 14 [] (.cons 15 [] .nil))))))))) (.cons 4 [] (.alt (.cons 1 [] (.cons 7 [] (.cons 10 [] (.cons 11 [] (.cons 12 [] (.cons 13 [] (.cons 14 [] (.cons 15 [] .nil)))))))) (.cons 7 [] (.alt (.cons 1 [] (.cons 10 [] (.cons 11 [] (.cons 12 [] (.cons 13 [] (.cons 14 [] (.cons 15 [] .nil))))))) (.cons 10 [] (.alt (.cons 1 [] (.cons 11 [] (.cons 12 [] (.cons 13 [] (.cons 14 [] (.cons 15 [] .nil)))))) (.cons 11 [] (.cons 1 [] (.cons 12 [] (.cons 13 [] (.cons 14 [] (.cons 15 [] .nil)))))))))))))))))))))] Tryz.func13 rfl rfl fun E hE => ?_
  unfold crtS
  repeat' ((fail_if_success with_reducible refine Stop.mk ?_);(conv=>whnf);with_reducible first|refine br_t ?_|refine br_f ?_|refine br_nn ?_|refine br_ns ?_|refine br_not ?_|refine br_d (fun h=>?_) fun h=>?_|refine br_e (fun h=>?_) fun h=>?_|refine br_n (fun h=>?_) fun h=>?_|refine drw_fast (by kernel_rfl) ?_|refine chk (by kernel_rfl) ?_|refine stop ?_)
  all_goals refine Stop.mk ?_
  refine call_fn [] (valid16_fn hG hS) rfl trivial (by decide) ?_
  rintro sv H' G' ⟨e, rfl, hv, rfl, rfl⟩ -
  refine ⟨Nat.le_of_ble_eq_true rfl, ?_⟩
  repeat' ((fail_if_success with_reducible refine Stop.mk ?_);(conv=>whnf);with_reducible first|refine br_t ?_|refine br_f ?_|refine br_nn ?_|refine br_ns ?_|refine br_not ?_|refine br_d (fun h=>?_) fun h=>?_|refine br_e (fun h=>?_) fun h=>?_|refine br_n (fun h=>?_) fun h=>?_|refine drw_fast (by kernel_rfl) ?_|refine chk (by kernel_rfl) ?_|refine stop ?_)
  all_goals refine Stop.mk ?_
  rotate_right
  · exact fin_id hE 0 rfl rfl rfl rfl (.inr ⟨fun h9 => absurd (hv.2 h9) (by assumption), _, by assumption, rfl, rfl⟩)
  have hok := hv.1 (by assumption)
  clear hv
  obtain ⟨⟨fa, fr, fb⟩, ⟨ga, gr, gs, gb⟩, w⟩ := x
  obtain ⟨hs, ht, hw⟩ := hG
  obtain ⟨k1, k2, k3, m1, m2, m3, m4, n1, n2⟩ := hS
  dsimp only at hs ht hw k1 k2 k3 m1 m2 m3 m4 n1 n2
  have q1 := wBs_le fb
  have q2 := wMBs_le gb
  have q3 := encI_le 400 w n2
  have q4 := wFn_le ⟨fa, fr, fb⟩
  have q5 := wMFn_le ⟨ga, gr, gs, gb⟩
  dsimp only at q4 q5
  have b1 := wFn_isb hok.1
  have b2 := wMFn_isb hok.2.1
  have b3 := encI_isb w (fun y hy => by have := n2 y hy; omega)
  have hops := okFn_ops hok.1
  dsimp only at b1 b2 hops
  dsimp only
  refine And.intro ?_ ?_
  all_goals
    repeat' ((fail_if_success with_reducible refine Stop.mk ?_);(conv=>whnf);with_reducible first|refine br_t ?_|refine br_f ?_|refine br_nn ?_|refine br_ns ?_|refine br_not ?_|refine br_d (fun h=>?_) fun h=>?_|refine br_e (fun h=>?_) fun h=>?_|refine br_n (fun h=>?_) fun h=>?_|refine drw_fast (by kernel_rfl) ?_|refine chk (by kernel_rfl) ?_|refine stop ?_)
    all_goals refine Stop.mk ?_
  all_goals
    refine call_fn [] (rputFunc_fn _ A a ⟨fa, fr, fb⟩ hs (by dsimp only; omega) (by dsimp only; omega) hops) rfl trivial (by decide) ?_
    rintro sv H' G' ⟨⟨A1, c1, rfl, hs1⟩, rfl⟩ hg
    replace ht := ht.to hg
    replace hw := hw.to hg
    clear hg hs
    refine ⟨Nat.le_of_ble_eq_true rfl, ?_⟩
    repeat' ((fail_if_success with_reducible refine Stop.mk ?_);(conv=>whnf);with_reducible first|refine br_t ?_|refine br_f ?_|refine br_nn ?_|refine br_ns ?_|refine br_not ?_|refine br_d (fun h=>?_) fun h=>?_|refine br_e (fun h=>?_) fun h=>?_|refine br_n (fun h=>?_) fun h=>?_|refine drw_fast (by kernel_rfl) ?_|refine chk (by kernel_rfl) ?_|refine stop ?_)
    all_goals refine Stop.mk ?_
  all_goals try refine And.intro ?_ ?_
  all_goals try
    repeat' ((fail_if_success with_reducible refine Stop.mk ?_);(conv=>whnf);with_reducible first|refine br_t ?_|refine br_f ?_|refine br_nn ?_|refine br_ns ?_|refine br_not ?_|refine br_d (fun h=>?_) fun h=>?_|refine br_e (fun h=>?_) fun h=>?_|refine br_n (fun h=>?_) fun h=>?_|refine drw_fast (by kernel_rfl) ?_|refine chk (by kernel_rfl) ?_|refine stop ?_)
    all_goals refine Stop.mk ?_
  all_goals
    refine call_fn [] (rputMFunc_fn _ B b ⟨ga, gr, gs, gb⟩ ht (by dsimp only; omega) (by dsimp only; omega)) rfl trivial (by decide) ?_
    rintro sv H' G' ⟨⟨A2, c2, rfl, hs2⟩, rfl⟩ hg
    replace hw := hw.to hg
    replace hs1 := Sl.to hg hs1
    clear hg ht
    refine ⟨Nat.le_of_ble_eq_true rfl, ?_⟩
    repeat' ((fail_if_success with_reducible refine Stop.mk ?_);(conv=>whnf);with_reducible first|refine br_t ?_|refine br_f ?_|refine br_nn ?_|refine br_ns ?_|refine br_not ?_|refine br_d (fun h=>?_) fun h=>?_|refine br_e (fun h=>?_) fun h=>?_|refine br_n (fun h=>?_) fun h=>?_|refine drw_fast (by kernel_rfl) ?_|refine chk (by kernel_rfl) ?_|refine stop ?_)
    all_goals refine Stop.mk ?_
  all_goals try refine And.intro ?_ ?_
  all_goals try
    repeat' ((fail_if_success with_reducible refine Stop.mk ?_);(conv=>whnf);with_reducible first|refine br_t ?_|refine br_f ?_|refine br_nn ?_|refine br_ns ?_|refine br_not ?_|refine br_d (fun h=>?_) fun h=>?_|refine br_e (fun h=>?_) fun h=>?_|refine br_n (fun h=>?_) fun h=>?_|refine drw_fast (by kernel_rfl) ?_|refine chk (by kernel_rfl) ?_|refine stop ?_)
    all_goals refine Stop.mk ?_
  all_goals
    refine call_fn [] (rput_inv_fn _ C c w hw (by omega) (by omega)) rfl trivial (by decide) ?_
    rintro sv H' G' ⟨⟨A3, c3, rfl, hs3⟩, rfl⟩ hg
    replace hs1 := Sl.to hg hs1
    replace hs2 := Sl.to hg hs2
    clear hg hw
    refine ⟨Nat.le_of_ble_eq_true rfl, ?_⟩
    repeat' ((fail_if_success with_reducible refine Stop.mk ?_);(conv=>whnf);with_reducible first|refine br_t ?_|refine br_f ?_|refine br_nn ?_|refine br_ns ?_|refine br_not ?_|refine br_d (fun h=>?_) fun h=>?_|refine br_e (fun h=>?_) fun h=>?_|refine br_n (fun h=>?_) fun h=>?_|refine drw_fast (by kernel_rfl) ?_|refine chk (by kernel_rfl) ?_|refine stop ?_)
    all_goals refine Stop.mk ?_
  all_goals try refine And.intro ?_ ?_
  all_goals try
    repeat' ((fail_if_success with_reducible refine Stop.mk ?_);(conv=>whnf);with_reducible first|refine br_t ?_|refine br_f ?_|refine br_nn ?_|refine br_ns ?_|refine br_not ?_|refine br_d (fun h=>?_) fun h=>?_|refine br_e (fun h=>?_) fun h=>?_|refine br_n (fun h=>?_) fun h=>?_|refine drw_fast (by kernel_rfl) ?_|refine chk (by kernel_rfl) ?_|refine stop ?_)
    all_goals refine Stop.mk ?_
  rotate_right
  · skip
    refine call_fz 3 rfl (by simp [Value.oneCell']) (enters_of Tryz.func46 rfl rfl) fun Ax cx Gx hgx hsx => ?_
    (conv => whnf)
    refine call_fz 2 rfl (by simp [Value.oneCell']) (enters_of Tryz.func46 rfl rfl) fun Ay cy Gy hgy hsy => ?_
    (conv => whnf)
    have hids := kB_of [1, 2, 3] (Sl.to hgy hsx) rfl rfl rfl (by decide)
    have hg2 : ∀ (b : Nat) (o : Obj), _ → _ := fun b o h => hgy b o (hgx b o h)
    have hcs := kBs_of [wFn ⟨fa, fr, fb⟩, wMFn ⟨ga, gr, gs, gb⟩, encI w] hsy rfl rfl (cs3_of (Sl.to hg2 hs1) (Sl.to hg2 hs2) (Sl.to hg2 hs3) b1 b2 b3)
    refine call_fn [] (rpack_fn _ Ax Ay cx cy [1, 2, 3] [wFn ⟨fa, fr, fb⟩, wMFn ⟨ga, gr, gs, gb⟩, encI w] hids hcs rfl (by show 3 ≤ 10000; decide) (by simp only [total]; omega)) rfl trivial (by decide) ?_
    rintro sv H' G' ⟨rfl, rfl⟩ -
    refine ⟨Nat.le_of_ble_eq_true rfl, ?_⟩
    repeat' ((fail_if_success with_reducible refine Stop.mk ?_);(conv=>whnf);with_reducible first|refine br_t ?_|refine br_f ?_|refine br_nn ?_|refine br_ns ?_|refine br_not ?_|refine br_d (fun h=>?_) fun h=>?_|refine br_e (fun h=>?_) fun h=>?_|refine br_n (fun h=>?_) fun h=>?_|refine drw_fast (by kernel_rfl) ?_|refine chk (by kernel_rfl) ?_|refine stop ?_)
    all_goals refine Stop.mk ?_
    refine ⟨byts_one _, ⟨by show (3 + (packB [1, 2, 3] [wFn ⟨fa, fr, fb⟩, wMFn ⟨ga, gr, gs, gb⟩, encI w]).length) * 1 ≤ _; simp only [packB, List.length_cons, List.length_append, List.length_nil]; have := putB_len (wFn ⟨fa, fr, fb⟩).length; have := putB_len (wMFn ⟨ga, gr, gs, gb⟩).length; have := putB_len (encI w).length; omega, ?_⟩⟩
    repeat' ((fail_if_success with_reducible refine Stop.mk ?_);(conv=>whnf);with_reducible first|refine br_t ?_|refine br_f ?_|refine br_nn ?_|refine br_ns ?_|refine br_not ?_|refine br_d (fun h=>?_) fun h=>?_|refine br_e (fun h=>?_) fun h=>?_|refine br_n (fun h=>?_) fun h=>?_|refine drw_fast (by kernel_rfl) ?_|refine chk (by kernel_rfl) ?_|refine stop ?_)
    all_goals refine Stop.mk ?_
    refine fin_mk hE [1] (.tup [.s 0, .v (.int .i64 0)]) [rowB (encCrt ⟨⟨fa, fr, fb⟩, ⟨ga, gr, gs, gb⟩, w⟩)] rfl ⟨?_, trivial⟩ rfl (.inl ⟨hok, rfl, rfl⟩)
    show some _ = some _
    unfold encCrt
    rw [← rowB_app]
    rfl
  all_goals
    skip
    refine call_fz 2 rfl (by simp [Value.oneCell']) (enters_of Tryz.func46 rfl rfl) fun Ax cx Gx hgx hsx => ?_
    (conv => whnf)
    refine call_fz 3 rfl (by simp [Value.oneCell']) (enters_of Tryz.func46 rfl rfl) fun Ay cy Gy hgy hsy => ?_
    (conv => whnf)
    have hids := kB_of [1, 2, 3] (Sl.to hgy hsx) rfl rfl rfl (by decide)
    have hg2 : ∀ (b : Nat) (o : Obj), _ → _ := fun b o h => hgy b o (hgx b o h)
    have hcs := kBs_of [wFn ⟨fa, fr, fb⟩, wMFn ⟨ga, gr, gs, gb⟩, encI w] hsy rfl rfl (cs3_of (Sl.to hg2 hs1) (Sl.to hg2 hs2) (Sl.to hg2 hs3) b1 b2 b3)
    refine call_fn [] (rpack_fn _ Ax Ay cx cy [1, 2, 3] [wFn ⟨fa, fr, fb⟩, wMFn ⟨ga, gr, gs, gb⟩, encI w] hids hcs rfl (by show 3 ≤ 10000; decide) (by simp only [total]; omega)) rfl trivial (by decide) ?_
    rintro sv H' G' ⟨rfl, rfl⟩ -
    refine ⟨Nat.le_of_ble_eq_true rfl, ?_⟩
    repeat' ((fail_if_success with_reducible refine Stop.mk ?_);(conv=>whnf);with_reducible first|refine br_t ?_|refine br_f ?_|refine br_nn ?_|refine br_ns ?_|refine br_not ?_|refine br_d (fun h=>?_) fun h=>?_|refine br_e (fun h=>?_) fun h=>?_|refine br_n (fun h=>?_) fun h=>?_|refine drw_fast (by kernel_rfl) ?_|refine chk (by kernel_rfl) ?_|refine stop ?_)
    all_goals refine Stop.mk ?_
    refine ⟨byts_one _, ⟨by show (3 + (packB [1, 2, 3] [wFn ⟨fa, fr, fb⟩, wMFn ⟨ga, gr, gs, gb⟩, encI w]).length) * 1 ≤ _; simp only [packB, List.length_cons, List.length_append, List.length_nil]; have := putB_len (wFn ⟨fa, fr, fb⟩).length; have := putB_len (wMFn ⟨ga, gr, gs, gb⟩).length; have := putB_len (encI w).length; omega, ?_⟩⟩
    repeat' ((fail_if_success with_reducible refine Stop.mk ?_);(conv=>whnf);with_reducible first|refine br_t ?_|refine br_f ?_|refine br_nn ?_|refine br_ns ?_|refine br_not ?_|refine br_d (fun h=>?_) fun h=>?_|refine br_e (fun h=>?_) fun h=>?_|refine br_n (fun h=>?_) fun h=>?_|refine drw_fast (by kernel_rfl) ?_|refine chk (by kernel_rfl) ?_|refine stop ?_)
    all_goals refine Stop.mk ?_
    refine fin_mk hE [1] (.tup [.s 0, .v (.int .i64 0)]) [rowB (encCrt ⟨⟨fa, fr, fb⟩, ⟨ga, gr, gs, gb⟩, w⟩)] rfl ⟨?_, trivial⟩ rfl (.inl ⟨hok, rfl, rfl⟩)
    show some _ = some _
    unfold encCrt
    rw [← rowB_app]
    rfl
end Go.Proofs.YtchebkpcgglllaaGreat.Cu
