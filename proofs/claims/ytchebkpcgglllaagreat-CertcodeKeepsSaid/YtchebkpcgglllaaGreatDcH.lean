/- Certificates: what the reference says of them, and how it writes them. -/
import Derived.Test.YtchebkpcgglllaaGreatFuGx
import Derived.Test.YtchebkpcgglllaaGreatWi8
import Derived.Test.YtchebkpcgglllaaGreatSex
import Derived.Test.YtchebkpcgglllaaGreatSe7
import Derived.Test.YtchebkpcgglllaaGreatSXc
namespace Go.Proofs.YtchebkpcgglllaaGreat.Cu
open Go Go.SX Go.Proofs.YtchebkpcgglllaaGreat.VT
set_option maxRecDepth 100000
set_option linter.unusedVariables false
set_option linter.unusedSimpArgs false

structure Crt where
  s : Fn
  t : MFn
  w : List (List Pr)
def crtL (A B C : Option Addr) (a b c : Nat) (x : Crt) : List Value := [.int .i64 x.s.args, .int .i64 x.s.regs, .slice A x.s.blocks.length a, .int .i64 x.t.args, .int .i64 x.t.regs, .int .i64 x.t.slots, .slice B x.t.blocks.length b, .slice C x.w.length c]
def crtS (A B C : Option Addr) (a b c : Nat) (x : Crt) : SV := .agg [.v (.int .i64 x.s.args), .v (.int .i64 x.s.regs), .v (.slice A x.s.blocks.length a), .v (.int .i64 x.t.args), .v (.int .i64 x.t.regs), .v (.int .i64 x.t.slots), .v (.slice B x.t.blocks.length b), .v (.slice C x.w.length c)]
structure CrtG (G : Gh) (A B C : Option Addr) (a b c : Nat) (x : Crt) : Prop where
  hs : kBlk.S G A a x.s.blocks
  ht : kMBlk.S G B b x.t.blocks
  hw : kPrs.S G C c x.w
theorem CrtG.to {G G' : Gh} {A B C : Option Addr} {a b c : Nat} {x : Crt} (h : CrtG G A B C a b c x) (hg : Ghe G G') : CrtG G' A B C a b c x := ⟨h.hs.to hg, h.ht.to hg, h.hw.to hg⟩
/-- Small. -/
structure Sml (x : Crt) : Prop where
  s1 : x.s.blocks.length ≤ 40
  s2 : x.s.regs ≤ 60
  s3 : totB x.s.blocks ≤ 300
  t1 : x.t.blocks.length ≤ 40
  t2 : x.t.regs ≤ 60
  t3 : x.t.slots ≤ 60
  t4 : totMB x.t.blocks ≤ 900
  w1 : x.w.length ≤ 40
  w2 : ∀ y ∈ x.w, y.length ≤ 400
def okCrt (x : Crt) : Prop := okFn x.s ∧ okMFn x.t ∧ (x.s.blocks.length = x.t.blocks.length ∧ x.s.args = x.t.args) ∧ validI x.s.blocks.length x.s.regs x.t.regs x.t.slots x.w
theorem cs3_of {G : Gh} {A1 A2 A3 : Option Addr} {c1 c2 c3 : Nat} {X Y Z : List Int} (s1 : SlB G A1 c1 X) (s2 : SlB G A2 c2 Y) (s3 : SlB G A3 c3 Z) (b1 : isB X) (b2 : isB Y) (b3 : isB Z) :
    kBs.Cs G [X, Y, Z] [.slice A1 X.length c1, .slice A2 Y.length c2, .slice A3 Z.length c3] :=
  ⟨[[.slice A1 X.length c1], [.slice A2 Y.length c2], [.slice A3 Z.length c3]], ⟨R_kBs s1 b1, R_kBs s2 b2, R_kBs s3 b3, trivial⟩, rfl⟩
set_option maxHeartbeats 8000000 in
theorem few16_fn {G : Gh} {A B C : Option Addr} {a b c : Nat} {x : Crt} (h : CrtG G A B C a b c x) :
    Ct Tryz.prog 9 [crtS A B C a b c x] [] G fun sv H' G' => (∃ r, sv = .v (.bool r) ∧ (r = true → Sml x)) ∧ H' = [] ∧ G' = G := by
  obtain ⟨⟨fa, fr, fb⟩, ⟨ga, gr, gs, gb⟩, w⟩ := x
  obtain ⟨hs, ht, hw⟩ := h
  dsimp only at hs ht hw
  refine fn_of follows [] Tryz.func9 rfl rfl fun E hE => ?_
  unfold crtS
  dsimp only
  repeat' ((fail_if_success with_reducible refine Stop.mk ?_);(conv=>whnf);with_reducible refine stop ?_)
  all_goals refine Stop.mk ?_
  refine call_fn [] (few7_fn _ A a ⟨fa, fr, fb⟩ hs) rfl trivial (by decide) ?_
  rintro sv H' G' ⟨⟨r1, rfl, k1⟩, rfl, rfl⟩ -
  refine ⟨Nat.le_of_ble_eq_true rfl, ?_⟩
  cases r1
  ·
    repeat' ((fail_if_success with_reducible refine Stop.mk ?_);(conv=>whnf);with_reducible first|refine br_f ?_|refine stop ?_)
    all_goals refine Stop.mk ?_
    exact fin_id hE 0 rfl rfl rfl rfl ⟨⟨_, rfl, fun h => absurd h (by decide)⟩, rfl, rfl⟩
  obtain ⟨k1, k2, k3⟩ := k1 rfl
  repeat' ((fail_if_success with_reducible refine Stop.mk ?_);(conv=>whnf);with_reducible first|refine br_t ?_|refine stop ?_)
  all_goals refine Stop.mk ?_
  refine call_fn [] (few8_fn _ B b ⟨ga, gr, gs, gb⟩ ht) rfl trivial (by decide) ?_
  rintro sv H' G' ⟨⟨r2, rfl, m1⟩, rfl, rfl⟩ -
  refine ⟨Nat.le_of_ble_eq_true rfl, ?_⟩
  cases r2
  ·
    repeat' ((fail_if_success with_reducible refine Stop.mk ?_);(conv=>whnf);with_reducible first|refine br_f ?_|refine stop ?_)
    all_goals refine Stop.mk ?_
    exact fin_id hE 0 rfl rfl rfl rfl ⟨⟨_, rfl, fun h => absurd h (by decide)⟩, rfl, rfl⟩
  obtain ⟨m1, m2, m3, m4⟩ := m1 rfl
  repeat' ((fail_if_success with_reducible refine Stop.mk ?_);(conv=>whnf);with_reducible first|refine br_t ?_|refine stop ?_)
  all_goals refine Stop.mk ?_
  refine call_fn [] (rfew15_fn _ C c w hw) rfl trivial (by decide) ?_
  rintro sv H' G' ⟨⟨r3, rfl, n1⟩, rfl, rfl⟩ -
  refine ⟨Nat.le_of_ble_eq_true rfl, ?_⟩
  repeat' ((fail_if_success with_reducible refine Stop.mk ?_);(conv=>whnf);with_reducible refine stop ?_)
  all_goals refine Stop.mk ?_
  refine fin_id hE 0 rfl rfl rfl rfl ⟨⟨_, rfl, fun h => ?_⟩, rfl, rfl⟩
  obtain ⟨n1, n2⟩ := n1 h
  exact ⟨k1, k2, k3, m1, m2, m3, m4, n1, n2⟩
/-- The encoding. -/
def encCrt (x : Crt) : List Int := [82, 67, 1] ++ packB [1, 2, 3] [wFn x.s, wMFn x.t, encI x.w]
end Go.Proofs.YtchebkpcgglllaaGreat.Cu
