/- Certificates: what the reference says of middling ones, and how it writes them. -/
import Derived.Test.YtchebkpcgglllaaGreatCcy
import Derived.Test.YtchebkpcgglllaaGreatSXc
namespace Go.Proofs.YtchebkpcgglllaaGreat.Cu
open Go Go.SX Go.Proofs.YtchebkpcgglllaaGreat.VT
set_option maxRecDepth 100000
set_option linter.unusedVariables false
set_option linter.unusedSimpArgs false
/-- Not too large. -/
structure MidC (x : Crt) : Prop where
  s1 : x.s.blocks.length ≤ 100000
  s3 : totB x.s.blocks ≤ 100000
  t1 : x.t.blocks.length ≤ 100000
  t4 : totMB x.t.blocks ≤ 100000
  w1 : x.w.length ≤ 100000
  w2 : ∀ y ∈ x.w, y.length ≤ 100000
  q1 : (wBs x.s.blocks).length ≤ 100000
  q2 : (wMBs x.t.blocks).length ≤ 100000
  q3 : (encI x.w).length ≤ 100000
  q4 : (wFn x.s).length ≤ 100000
  q5 : (wMFn x.t).length ≤ 100000
theorem encL_ge {α σ : Type} (enc : σ → α → List Int) (nx : σ → α → σ) (h : ∀ s x, 1 ≤ (enc s x).length) : ∀ (l : List α) (s : σ), l.length ≤ (encL enc nx s l).length
  | [], s => by simp
  | x :: l, s => by
    have h1 := encL_ge enc nx h l (nx s x)
    have h2 := h s x
    simp only [encL, List.length_append, List.length_cons]
    omega
theorem wBs_geC : ∀ (l : List Blk), l.length + totB l ≤ (wBs l).length
  | [] => by simp [wBs, totB]
  | b :: l => by
    have h1 := wBs_geC l
    have h2 : b.code.length ≤ (encCode b.code).length := encL_ge _ _ (fun _ x => (putInsB_len x).1) _ _
    have h4 := (putTrmB_len b.term).1
    have h5 : (encB b).length = (putB b.code.length).length + (encCode b.code).length + (putTrmB b.term).length := by unfold encB; simp only [List.length_append]
    unfold wBs at *
    simp only [List.map_cons, List.flatten_cons, List.length_append, List.length_cons, totB]
    omega
theorem wMBs_geC : ∀ (l : List MBlk), l.length + totMB l ≤ (wMBs l).length
  | [] => by simp [wMBs, totMB]
  | b :: l => by
    have h1 := wMBs_geC l
    have h2 : b.code.length ≤ (encMCode b.code).length := encL_ge _ _ (fun _ x => (putMacB_len x).1) _ _
    have h4 := (putTrmB_len b.term).1
    have h5 : (encMB b).length = (putB b.code.length).length + (encMCode b.code).length + (putTrmB b.term).length := by unfold encMB; simp only [List.length_append]
    unfold wMBs at *
    simp only [List.map_cons, List.flatten_cons, List.length_append, List.length_cons, totMB]
    omega
theorem encBlk_ge (t : Int) (l : List Pr) : 1 + l.length ≤ (encBlk t l).length := by
  have h1 := encL_ge encPr nxP (fun s x => by have := encPr_len s x; omega) l ps0
  have h2 : 0 < (putB l.length).length := vput_len_pos 9 _
  unfold encBlk encPrs
  rw [List.length_append]
  omega
theorem encInv_ge : ∀ (l : List (List Pr)) (t : Int), l.length ≤ (encL encBlk nxT t l).length ∧ ∀ y ∈ l, y.length ≤ (encL encBlk nxT t l).length
  | [], t => by simp
  | x :: l, t => by
    obtain ⟨h1, h2⟩ := encInv_ge l (nxT t x)
    have h3 := encBlk_ge t x
    simp only [encL, List.length_append, List.length_cons]
    refine ⟨by omega, fun y hy => ?_⟩
    rcases List.mem_cons.1 hy with rfl | hy
    · omega
    · have := h2 y hy; omega
theorem mid_of {x : Crt} (h : (encCrt x).length ≤ 100000) : MidC x := by
  have h1 := wBs_geC x.s.blocks
  have h2 := wMBs_geC x.t.blocks
  obtain ⟨h3, h4⟩ := encInv_ge x.w 0
  rw [show encL encBlk nxT 0 x.w = encI x.w from encInv_eq x.w] at h3 h4
  have h5 : (wBs x.s.blocks).length ≤ (wFn x.s).length := by unfold wFn; simp only [List.length_append]; omega
  have h6 : (wMBs x.t.blocks).length ≤ (wMFn x.t).length := by unfold wMFn; simp only [List.length_append]; omega
  have h7 : (encCrt x).length = 3 + (packB [1, 2, 3] [wFn x.s, wMFn x.t, encI x.w]).length := by unfold encCrt; rw [List.length_append]; rfl
  simp only [packB, List.length_cons, List.length_append, List.length_nil] at h7
  exact ⟨by omega, by omega, by omega, by omega, by omega, fun y hy => by have := h4 y hy; omega, by omega, by omega, by omega, by omega, by omega⟩
set_option maxHeartbeats 8000000 in
theorem validM_fn {G : Gh} {A B C : Option Addr} {a b c : Nat} {x : Crt} (h : CrtG G A B C a b c x) (hM : MidC x) :
    Ct Tryz.prog 16 [crtS A B C a b c x] [] G fun sv H' G' => ∃ e : Int, sv = .v (.int .i64 e) ∧ (e = 0 ↔ okCrt x) ∧ H' = [] ∧ G' = G := by
  obtain ⟨⟨fa, fr, fb⟩, ⟨ga, gr, gs, gb⟩, w⟩ := x
  obtain ⟨hs, ht, hw⟩ := h
  obtain ⟨k1, k3, m1, m4, n1, n2, q1, q2, q3, q4, q5⟩ := hM
  dsimp only at hs ht hw k1 k3 m1 m4 n1 n2 q1 q2 q3 q4 q5
  refine fn_of follows [] Tryz.func16 rfl rfl fun E hE => ?_
  unfold crtS
  dsimp only
  repeat' ((fail_if_success with_reducible refine Stop.mk ?_);(conv=>whnf);with_reducible first|refine br_t ?_|refine br_f ?_|refine br_nn ?_|refine br_ns ?_|refine br_not ?_|refine br_d (fun h=>?_) fun h=>?_|refine br_e (fun h=>?_) fun h=>?_|refine br_n (fun h=>?_) fun h=>?_|refine drw_fast (by kernel_rfl) ?_|refine chk (by kernel_rfl) ?_|refine stop ?_)
  all_goals refine Stop.mk ?_
  refine call_fn [] (check7_fn _ A a ⟨fa, fr, fb⟩ hs (by dsimp only; omega) (by dsimp only; omega)) rfl trivial (by decide) ?_
  rintro sv H' G' ⟨e1, rfl, hk, rfl, rfl⟩ -
  refine ⟨Nat.le_of_ble_eq_true rfl, ?_⟩
  repeat' ((fail_if_success with_reducible refine Stop.mk ?_);(conv=>whnf);with_reducible first|refine br_t ?_|refine br_f ?_|refine br_nn ?_|refine br_ns ?_|refine br_not ?_|refine br_d (fun h=>?_) fun h=>?_|refine br_e (fun h=>?_) fun h=>?_|refine br_n (fun h=>?_) fun h=>?_|refine drw_fast (by kernel_rfl) ?_|refine chk (by kernel_rfl) ?_|refine stop ?_)
  all_goals refine Stop.mk ?_
  rotate_left
  · refine fin_id hE 0 rfl rfl rfl rfl ⟨_, rfl, ⟨fun h9 => absurd h9 (by assumption), fun h9 => ?_⟩, rfl, rfl⟩
    exact absurd (hk.2 h9.1) (by assumption)
  have hk0 := hk.1 (by assumption)
  clear hk h
  refine call_fn [] (check8_fn _ B b ⟨ga, gr, gs, gb⟩ ht (by dsimp only; omega) (by dsimp only; omega)) rfl trivial (by decide) ?_
  rintro sv H' G' ⟨e2, rfl, hm, rfl, rfl⟩ -
  refine ⟨Nat.le_of_ble_eq_true rfl, ?_⟩
  repeat' ((fail_if_success with_reducible refine Stop.mk ?_);(conv=>whnf);with_reducible first|refine br_t ?_|refine br_f ?_|refine br_nn ?_|refine br_ns ?_|refine br_not ?_|refine br_d (fun h=>?_) fun h=>?_|refine br_e (fun h=>?_) fun h=>?_|refine br_n (fun h=>?_) fun h=>?_|refine drw_fast (by kernel_rfl) ?_|refine chk (by kernel_rfl) ?_|refine stop ?_)
  all_goals refine Stop.mk ?_
  all_goals try
    refine fin_id hE 0 rfl rfl rfl rfl ⟨_, rfl, ⟨fun h9 => absurd h9 (by first | assumption | decide), fun h9 => ?_⟩, rfl, rfl⟩
    first
      | exact absurd (hm.2 h9.2.1) (by assumption)
      | (have h8 := h9.2.2.1.1; dsimp only at h8; exact absurd (show (fb.length : Int) = gb.length by omega) (by assumption))
      | (have h8 := h9.2.2.1.2; dsimp only at h8; exact absurd h8 (by assumption))
  have hm0 := hm.1 (by assumption)
  clear hm
  have hlen : fb.length = gb.length := by omega
  have harg : fa = ga := by assumption
  refine call_fn [] (valid15_fn _ C c w fb.length fr gr gs hw ⟨by omega, fun y hy => by have := n2 y hy; omega⟩) rfl trivial (by decide) ?_
  rintro sv H' G' ⟨e3, rfl, hv, rfl, rfl⟩ -
  refine ⟨Nat.le_of_ble_eq_true rfl, ?_⟩
  repeat' ((fail_if_success with_reducible refine Stop.mk ?_);(conv=>whnf);with_reducible first|refine br_t ?_|refine br_f ?_|refine br_nn ?_|refine br_ns ?_|refine br_not ?_|refine br_d (fun h=>?_) fun h=>?_|refine br_e (fun h=>?_) fun h=>?_|refine br_n (fun h=>?_) fun h=>?_|refine drw_fast (by kernel_rfl) ?_|refine chk (by kernel_rfl) ?_|refine stop ?_)
  all_goals refine Stop.mk ?_
  exact fin_id hE 0 rfl rfl rfl rfl ⟨_, rfl, ⟨fun h9 => ⟨hk0, hm0, ⟨hlen, harg⟩, hv.1 h9⟩, fun h9 => hv.2 h9.2.2.2⟩, rfl, rfl⟩
set_option maxHeartbeats 8000000 in
theorem rencodeM_fn {G : Gh} {A B C : Option Addr} {a b c : Nat} {x : Crt} (hG : CrtG G A B C a b c x) (hM : MidC x) :
    Ct Tryz.prog 13 [crtS A B C a b c x] [] G fun sv H' G' => (okCrt x ∧ sv = .tup [.s 0, .v (.int .i64 0)] ∧ H' = [rowB (encCrt x)]) ∨ (¬ okCrt x ∧ ∃ e : Int, e ≠ 0 ∧ sv = .tup [.v (.slice none 0 0), .v (.int .i64 e)] ∧ H' = []) := by
  refine fn_of follows [(5, (.cons 0 [] (.cons 2 [] (.cons 3 [] (.cons 5 [] (.cons 6 [] (.cons 8 [] (.cons 9 [] (.alt (.cons 1 [] (.cons 4 [] (.cons 7 [] (.cons 10 [] (.cons 11 [] (.cons 12 [] (.cons 13 [] (.cons 14 [] (.cons 15 [] .nil))))))))) (.cons 4 [] (.alt (.cons 1 [] (.cons 7 [] (.cons 10 [] (.cons 11 [] (.cons 12 [] (.cons 13 [] (.cons 14 [] (.cons 15 [] .nil)))))))) (.cons 7 [] (.alt (.cons 1 [] (.cons 10 [] (.cons 11 [] (.cons 12 [] (.cons 13 [] (.cons 14 [] (.cons 15 [] .nil))))))) (.cons 10 [] (.alt (.cons 1 [] (.cons 11 [] (.cons 12 [] (.cons 13 [] (.cons 14 [] (.cons 15 [] .nil)))))) (.cons 11 [] (.cons 1 [] (.cons 12 [] (.cons 13 [] (.cons 14 [] (.cons 15 [] .nil)))))))))))))))))))))] Tryz.func13 rfl rfl fun E hE => ?_
  unfold crtS
  repeat' ((fail_if_success with_reducible refine Stop.mk ?_);(conv=>whnf);with_reducible first|refine br_t ?_|refine br_f ?_|refine br_nn ?_|refine br_ns ?_|refine br_not ?_|refine br_d (fun h=>?_) fun h=>?_|refine br_e (fun h=>?_) fun h=>?_|refine br_n (fun h=>?_) fun h=>?_|refine drw_fast (by kernel_rfl) ?_|refine chk (by kernel_rfl) ?_|refine stop ?_)
  all_goals refine Stop.mk ?_
  refine call_fn [] (validM_fn hG hM) rfl trivial (by decide) ?_
  rintro sv H' G' ⟨e, rfl, hv, rfl, rfl⟩ -
  refine ⟨Nat.le_of_ble_eq_true rfl, ?_⟩
  repeat' ((fail_if_success with_reducible refine Stop.mk ?_);(conv=>whnf);with_reducible first|refine br_t ?_|refine br_f ?_|refine br_nn ?_|refine br_ns ?_|refine br_not ?_|refine br_d (fun h=>?_) fun h=>?_|refine br_e (fun h=>?_) fun h=>?_|refine br_n (fun h=>?_) fun h=>?_|refine drw_fast (by kernel_rfl) ?_|refine chk (by kernel_rfl) ?_|refine stop ?_)
  all_goals refine Stop.mk ?_
  rotate_right
  · exact fin_id hE 0 rfl rfl rfl rfl (.inr ⟨fun h9 => absurd (hv.2 h9) (by assumption), _, by assumption, rfl, rfl⟩)
  have hok := hv.1 (by assumption)
  clear hv
  obtain ⟨⟨fa, fr, fb⟩, ⟨ga, gr, gs, gb⟩, w⟩ := x
  obtain ⟨hs, ht, hw⟩ := hG
  obtain ⟨k1, k3, m1, m4, n1, n2, q1, q2, q3, q4, q5⟩ := hM
  dsimp only at hs ht hw k1 k3 m1 m4 n1 n2 q1 q2 q3 q4 q5
  have b1 := wFn_isb hok.1
  have b2 := wMFn_isb hok.2.1
  have b3 := encI_isb w (fun y hy => by have := n2 y hy; omega)
  have hops := okFn_ops hok.1
  dsimp only at b1 b2 hops
  dsimp only
  refine And.intro ?_ ?_
  all_goals
    repeat' ((fail_if_success with_reducible refine Stop.mk ?_);(conv=>whnf);with_reducible first|refine br_t ?_|refine br_f ?_|refine br_nn ?_|refine br_ns ?_|refine br_not ?_|refine br_d (fun h=>?_) fun h=>?_|refine br_e (fun h=>?_) fun h=>?_|refine br_n (fun h=>?_) fun h=>?_|refine drw_fast (by kernel_rfl) ?_|refine chk (by kernel_rfl) ?_|refine stop ?_)
    all_goals refine Stop.mk ?_
  all_goals
    refine call_fn [] (rputFunc_fn _ A a ⟨fa, fr, fb⟩ hs (by dsimp only; omega) (by dsimp only; omega) hops) rfl trivial (by decide) ?_
    rintro sv H' G' ⟨⟨A1, c1, rfl, hs1⟩, rfl⟩ hg
    replace ht := ht.to hg
    replace hw := hw.to hg
    clear hg hs
    refine ⟨Nat.le_of_ble_eq_true rfl, ?_⟩
    repeat' ((fail_if_success with_reducible refine Stop.mk ?_);(conv=>whnf);with_reducible first|refine br_t ?_|refine br_f ?_|refine br_nn ?_|refine br_ns ?_|refine br_not ?_|refine br_d (fun h=>?_) fun h=>?_|refine br_e (fun h=>?_) fun h=>?_|refine br_n (fun h=>?_) fun h=>?_|refine drw_fast (by kernel_rfl) ?_|refine chk (by kernel_rfl) ?_|refine stop ?_)
    all_goals refine Stop.mk ?_
  all_goals try refine And.intro ?_ ?_
  all_goals try
    repeat' ((fail_if_success with_reducible refine Stop.mk ?_);(conv=>whnf);with_reducible first|refine br_t ?_|refine br_f ?_|refine br_nn ?_|refine br_ns ?_|refine br_not ?_|refine br_d (fun h=>?_) fun h=>?_|refine br_e (fun h=>?_) fun h=>?_|refine br_n (fun h=>?_) fun h=>?_|refine drw_fast (by kernel_rfl) ?_|refine chk (by kernel_rfl) ?_|refine stop ?_)
    all_goals refine Stop.mk ?_
  all_goals
    refine call_fn [] (rputMFunc_fn _ B b ⟨ga, gr, gs, gb⟩ ht (by dsimp only; omega) (by dsimp only; omega)) rfl trivial (by decide) ?_
    rintro sv H' G' ⟨⟨A2, c2, rfl, hs2⟩, rfl⟩ hg
    replace hw := hw.to hg
    replace hs1 := Sl.to hg hs1
    clear hg ht
    refine ⟨Nat.le_of_ble_eq_true rfl, ?_⟩
    repeat' ((fail_if_success with_reducible refine Stop.mk ?_);(conv=>whnf);with_reducible first|refine br_t ?_|refine br_f ?_|refine br_nn ?_|refine br_ns ?_|refine br_not ?_|refine br_d (fun h=>?_) fun h=>?_|refine br_e (fun h=>?_) fun h=>?_|refine br_n (fun h=>?_) fun h=>?_|refine drw_fast (by kernel_rfl) ?_|refine chk (by kernel_rfl) ?_|refine stop ?_)
    all_goals refine Stop.mk ?_
  all_goals try refine And.intro ?_ ?_
  all_goals try
    repeat' ((fail_if_success with_reducible refine Stop.mk ?_);(conv=>whnf);with_reducible first|refine br_t ?_|refine br_f ?_|refine br_nn ?_|refine br_ns ?_|refine br_not ?_|refine br_d (fun h=>?_) fun h=>?_|refine br_e (fun h=>?_) fun h=>?_|refine br_n (fun h=>?_) fun h=>?_|refine drw_fast (by kernel_rfl) ?_|refine chk (by kernel_rfl) ?_|refine stop ?_)
    all_goals refine Stop.mk ?_
  all_goals
    refine call_fn [] (rput_inv_fn _ C c w hw (by omega) (by omega)) rfl trivial (by decide) ?_
    rintro sv H' G' ⟨⟨A3, c3, rfl, hs3⟩, rfl⟩ hg
    replace hs1 := Sl.to hg hs1
    replace hs2 := Sl.to hg hs2
    clear hg hw
    refine ⟨Nat.le_of_ble_eq_true rfl, ?_⟩
    repeat' ((fail_if_success with_reducible refine Stop.mk ?_);(conv=>whnf);with_reducible first|refine br_t ?_|refine br_f ?_|refine br_nn ?_|refine br_ns ?_|refine br_not ?_|refine br_d (fun h=>?_) fun h=>?_|refine br_e (fun h=>?_) fun h=>?_|refine br_n (fun h=>?_) fun h=>?_|refine drw_fast (by kernel_rfl) ?_|refine chk (by kernel_rfl) ?_|refine stop ?_)
    all_goals refine Stop.mk ?_
  all_goals try refine And.intro ?_ ?_
  all_goals try
    repeat' ((fail_if_success with_reducible refine Stop.mk ?_);(conv=>whnf);with_reducible first|refine br_t ?_|refine br_f ?_|refine br_nn ?_|refine br_ns ?_|refine br_not ?_|refine br_d (fun h=>?_) fun h=>?_|refine br_e (fun h=>?_) fun h=>?_|refine br_n (fun h=>?_) fun h=>?_|refine drw_fast (by kernel_rfl) ?_|refine chk (by kernel_rfl) ?_|refine stop ?_)
    all_goals refine Stop.mk ?_
  rotate_right
  · skip
    refine call_fz 3 rfl (by simp [Value.oneCell']) (enters_of Tryz.func46 rfl rfl) fun Ax cx Gx hgx hsx => ?_
    (conv => whnf)
    refine call_fz 2 rfl (by simp [Value.oneCell']) (enters_of Tryz.func46 rfl rfl) fun Ay cy Gy hgy hsy => ?_
    (conv => whnf)
    have hids := kB_of [1, 2, 3] (Sl.to hgy hsx) rfl rfl rfl (by decide)
    have hg2 : ∀ (b : Nat) (o : Obj), _ → _ := fun b o h => hgy b o (hgx b o h)
    have hcs := kBs_of [wFn ⟨fa, fr, fb⟩, wMFn ⟨ga, gr, gs, gb⟩, encI w] hsy rfl rfl (cs3_of (Sl.to hg2 hs1) (Sl.to hg2 hs2) (Sl.to hg2 hs3) b1 b2 b3)
    refine call_fn [] (rpack_fn _ Ax Ay cx cy [1, 2, 3] [wFn ⟨fa, fr, fb⟩, wMFn ⟨ga, gr, gs, gb⟩, encI w] hids hcs rfl (by show 3 ≤ 10000; decide) (by simp only [total]; omega)) rfl trivial (by decide) ?_
    rintro sv H' G' ⟨rfl, rfl⟩ -
    refine ⟨Nat.le_of_ble_eq_true rfl, ?_⟩
    repeat' ((fail_if_success with_reducible refine Stop.mk ?_);(conv=>whnf);with_reducible first|refine br_t ?_|refine br_f ?_|refine br_nn ?_|refine br_ns ?_|refine br_not ?_|refine br_d (fun h=>?_) fun h=>?_|refine br_e (fun h=>?_) fun h=>?_|refine br_n (fun h=>?_) fun h=>?_|refine drw_fast (by kernel_rfl) ?_|refine chk (by kernel_rfl) ?_|refine stop ?_)
    all_goals refine Stop.mk ?_
    refine ⟨byts_one _, ⟨by show (3 + (packB [1, 2, 3] [wFn ⟨fa, fr, fb⟩, wMFn ⟨ga, gr, gs, gb⟩, encI w]).length) * 1 ≤ _; simp only [packB, List.length_cons, List.length_append, List.length_nil]; have := putB_len (wFn ⟨fa, fr, fb⟩).length; have := putB_len (wMFn ⟨ga, gr, gs, gb⟩).length; have := putB_len (encI w).length; omega, ?_⟩⟩
    repeat' ((fail_if_success with_reducible refine Stop.mk ?_);(conv=>whnf);with_reducible first|refine br_t ?_|refine br_f ?_|refine br_nn ?_|refine br_ns ?_|refine br_not ?_|refine br_d (fun h=>?_) fun h=>?_|refine br_e (fun h=>?_) fun h=>?_|refine br_n (fun h=>?_) fun h=>?_|refine drw_fast (by kernel_rfl) ?_|refine chk (by kernel_rfl) ?_|refine stop ?_)
    all_goals refine Stop.mk ?_
    refine fin_mk hE [1] (.tup [.s 0, .v (.int .i64 0)]) [rowB (encCrt ⟨⟨fa, fr, fb⟩, ⟨ga, gr, gs, gb⟩, w⟩)] rfl ⟨?_, trivial⟩ rfl (.inl ⟨hok, rfl, rfl⟩)
    show some _ = some _
    unfold encCrt
    rw [← rowB_app]
    rfl
  all_goals
    skip
    refine call_fz 2 rfl (by simp [Value.oneCell']) (enters_of Tryz.func46 rfl rfl) fun Ax cx Gx hgx hsx => ?_
    (conv => whnf)
    refine call_fz 3 rfl (by simp [Value.oneCell']) (enters_of Tryz.func46 rfl rfl) fun Ay cy Gy hgy hsy => ?_
    (conv => whnf)
    have hids := kB_of [1, 2, 3] (Sl.to hgy hsx) rfl rfl rfl (by decide)
    have hg2 : ∀ (b : Nat) (o : Obj), _ → _ := fun b o h => hgy b o (hgx b o h)
    have hcs := kBs_of [wFn ⟨fa, fr, fb⟩, wMFn ⟨ga, gr, gs, gb⟩, encI w] hsy rfl rfl (cs3_of (Sl.to hg2 hs1) (Sl.to hg2 hs2) (Sl.to hg2 hs3) b1 b2 b3)
    refine call_fn [] (rpack_fn _ Ax Ay cx cy [1, 2, 3] [wFn ⟨fa, fr, fb⟩, wMFn ⟨ga, gr, gs, gb⟩, encI w] hids hcs rfl (by show 3 ≤ 10000; decide) (by simp only [total]; omega)) rfl trivial (by decide) ?_
    rintro sv H' G' ⟨rfl, rfl⟩ -
    refine ⟨Nat.le_of_ble_eq_true rfl, ?_⟩
    repeat' ((fail_if_success with_reducible refine Stop.mk ?_);(conv=>whnf);with_reducible first|refine br_t ?_|refine br_f ?_|refine br_nn ?_|refine br_ns ?_|refine br_not ?_|refine br_d (fun h=>?_) fun h=>?_|refine br_e (fun h=>?_) fun h=>?_|refine br_n (fun h=>?_) fun h=>?_|refine drw_fast (by kernel_rfl) ?_|refine chk (by kernel_rfl) ?_|refine stop ?_)
    all_goals refine Stop.mk ?_
    refine ⟨byts_one _, ⟨by show (3 + (packB [1, 2, 3] [wFn ⟨fa, fr, fb⟩, wMFn ⟨ga, gr, gs, gb⟩, encI w]).length) * 1 ≤ _; simp only [packB, List.length_cons, List.length_append, List.length_nil]; have := putB_len (wFn ⟨fa, fr, fb⟩).length; have := putB_len (wMFn ⟨ga, gr, gs, gb⟩).length; have := putB_len (encI w).length; omega, ?_⟩⟩
    repeat' ((fail_if_success with_reducible refine Stop.mk ?_);(conv=>whnf);with_reducible first|refine br_t ?_|refine br_f ?_|refine br_nn ?_|refine br_ns ?_|refine br_not ?_|refine br_d (fun h=>?_) fun h=>?_|refine br_e (fun h=>?_) fun h=>?_|refine br_n (fun h=>?_) fun h=>?_|refine drw_fast (by kernel_rfl) ?_|refine chk (by kernel_rfl) ?_|refine stop ?_)
    all_goals refine Stop.mk ?_
    refine fin_mk hE [1] (.tup [.s 0, .v (.int .i64 0)]) [rowB (encCrt ⟨⟨fa, fr, fb⟩, ⟨ga, gr, gs, gb⟩, w⟩)] rfl ⟨?_, trivial⟩ rfl (.inl ⟨hok, rfl, rfl⟩)
    show some _ = some _
    unfold encCrt
    rw [← rowB_app]
    rfl
end Go.Proofs.YtchebkpcgglllaaGreat.Cu
