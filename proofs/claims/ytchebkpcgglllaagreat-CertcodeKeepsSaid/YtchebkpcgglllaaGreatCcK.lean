/- Certificates: the law that nothing is shared. -/
import Derived.Test.YtchebkpcgglllaaGreatCc9
import Derived.Test.YtchebkpcgglllaaGreatCcI
import Derived.Test.YtchebkpcgglllaaGreatCcJ
import Derived.Test.YtchebkpcgglllaaGreatSXc
namespace Go.Proofs.YtchebkpcgglllaaGreat.Cu
open Go Go.SX Go.Proofs.YtchebkpcgglllaaGreat.VT
set_option maxRecDepth 100000
set_option linter.unusedVariables false
set_option linter.unusedSimpArgs false
theorem codeP_new {G0 G1 : Gh} {l : List (List Pr)} {css : List (List Value)} (hR : All2 ((kOwnP G0).R G1) l css) : ∀ b, CodeB css b → G0 b = none ∧ ∃ o, G1 b = some o := by
  rintro b ⟨r, hr, a, n, c, rest, rfl, rfl⟩
  obtain ⟨i, hi⟩ := List.getElem?_of_mem hr
  obtain ⟨x, _, hx⟩ := hR.get' i _ hi
  obtain ⟨_, A, c', xs, he, hf, hw, _⟩ := hx
  simp only [List.cons.injEq, Value.slice.injEq] at he
  obtain ⟨⟨rfl, _, _⟩, _⟩ := he
  obtain ⟨_, _, cur, T, h3, _⟩ := hw a rfl
  exact ⟨hf a rfl, _, h3⟩
theorem decO_post {G0 : Gh} {b : List Int} {sv : SV} {H' : List Ob} {G' : Gh} (h : DecPostO G0 b sv H' G') (h0 : cErr b = 0) : ∃ A B C a b' c, sv = .tup [crtS A B C a b' c (dCrt b), .v (.int .i64 0)] ∧ H' = [] ∧ kBlk.S G' A a (dCrt b).s.blocks ∧ kMBlk.S G' B b' (dCrt b).t.blocks ∧ OwnP G0 G' C c (dCrt b).w := by
  obtain ⟨rfl, ⟨_, A, B, C, a, b', c, h1, h2, h3, h4⟩ | ⟨h1, _⟩⟩ := h
  · exact ⟨A, B, C, a, b', c, h1, rfl, h2, h3, h4⟩
  · exact absurd h0 h1
/-- A store into a known new block, as a fact. -/
theorem th_exB {E : Env} {G : Gh} {A : Option Addr} {ad : Addr} {xs : List Value} {j : Nat} (u : Value) (hW : Whl G A xs) (hE : ∀ a, A = some a → E.G0 a.block = none) (hadr : ∃ a0, A = some a0 ∧ ad = a0.add j) (hj : j < xs.length) (hu : u.oneCell' = true) :
    ∃ (a : Addr) (cs : Array Value) (T' : TypeId), A = some a ∧ G ad.block = some (.cells cs T' (0, 0)) ∧ E.G0 ad.block = none ∧ ad.spot = none ∧ ad.off < cs.size ∧
      Whl (putG G ad.block (.cells (cs.toList.set ad.off u).toArray T' (0, 0))) (some a) (xs.set j u) ∧ Off a.block G (putG G ad.block (.cells (cs.toList.set ad.off u).toArray T' (0, 0))) := by
  obtain ⟨a0, rfl, rfl⟩ := hadr
  obtain ⟨cs, T', h1, h2, h3, h4, _, h5⟩ := th_vc (ad := a0.add j) (fr := []) (Hs := []) (K := fun s => Whl s.G (some a0) (xs.set j u) ∧ Off a0.block G s.G) hW (hE a0 rfl) hj rfl hu (fun G' h6 h7 => ⟨h6, h7⟩)
  exact ⟨a0, cs, T', rfl, h1, h2, h3, h4, h5⟩
set_option maxHeartbeats 16000000 in
theorem ckeeps_fn {G : Gh} {A B C : Option Addr} {a b c : Nat} (x : Crt) (hG : CrtG G A B C a b c x) :
    Ct Tryz.prog 7 [crtS A B C a b c x] [] G fun sv H' G' => sv = .v (.bool true) ∧ H' = [] := by
  refine fn_ofG follows [] Tryz.func7 rfl rfl fun E hE hE0 => ?_
  unfold crtS
  repeat' ((fail_if_success with_reducible refine Stop.mk ?_);(conv=>whnf);with_reducible first|refine br_t ?_|refine br_f ?_|refine br_nn ?_|refine br_ns ?_|refine br_not ?_|refine br_d (fun h=>?_) fun h=>?_|refine br_e (fun h=>?_) fun h=>?_|refine br_n (fun h=>?_) fun h=>?_|refine drw_fast (by kernel_rfl) ?_|refine chk (by kernel_rfl) ?_|refine stop ?_)
  all_goals refine Stop.mk ?_
  refine call_fn [] (awake20_fn _) rfl trivial (by decide) ?_
  rintro sv H' G' ⟨rfl, rfl⟩ hg1
  refine ⟨Nat.le_of_ble_eq_true rfl, ?_⟩
  replace hG := hG.to hg1
  repeat' ((fail_if_success with_reducible refine Stop.mk ?_);(conv=>whnf);with_reducible first|refine br_t ?_|refine br_f ?_|refine br_nn ?_|refine br_ns ?_|refine br_not ?_|refine br_d (fun h=>?_) fun h=>?_|refine br_e (fun h=>?_) fun h=>?_|refine br_n (fun h=>?_) fun h=>?_|refine drw_fast (by kernel_rfl) ?_|refine chk (by kernel_rfl) ?_|refine stop ?_)
  all_goals refine Stop.mk ?_
  refine call_fn [] (few16_fn hG) rfl trivial (by decide) ?_
  rintro sv H' G1 ⟨⟨r, rfl, hfew⟩, rfl, rfl⟩ -
  refine ⟨Nat.le_of_ble_eq_true rfl, ?_⟩
  cases r
  ·
    repeat' ((fail_if_success with_reducible refine Stop.mk ?_);(conv=>whnf);with_reducible first|refine br_t ?_|refine br_f ?_|refine br_nn ?_|refine br_ns ?_|refine br_not ?_|refine br_d (fun h=>?_) fun h=>?_|refine br_e (fun h=>?_) fun h=>?_|refine br_n (fun h=>?_) fun h=>?_|refine drw_fast (by kernel_rfl) ?_|refine chk (by kernel_rfl) ?_|refine stop ?_)
    all_goals refine Stop.mk ?_
    refine call_fn [] (awake20_fn _) rfl trivial (by decide) ?_
    rintro sv H' G' ⟨rfl, rfl⟩ -
    refine ⟨Nat.le_of_ble_eq_true rfl, ?_⟩
    repeat' ((fail_if_success with_reducible refine Stop.mk ?_);(conv=>whnf);with_reducible first|refine br_t ?_|refine br_f ?_|refine br_nn ?_|refine br_ns ?_|refine br_not ?_|refine br_d (fun h=>?_) fun h=>?_|refine br_e (fun h=>?_) fun h=>?_|refine br_n (fun h=>?_) fun h=>?_|refine drw_fast (by kernel_rfl) ?_|refine chk (by kernel_rfl) ?_|refine stop ?_)
    all_goals refine Stop.mk ?_
    exact fin_id hE 0 rfl rfl rfl rfl ⟨rfl, rfl⟩
  have hS := hfew rfl
  clear hfew
  repeat' ((fail_if_success with_reducible refine Stop.mk ?_);(conv=>whnf);with_reducible first|refine br_t ?_|refine br_f ?_|refine br_nn ?_|refine br_ns ?_|refine br_not ?_|refine br_d (fun h=>?_) fun h=>?_|refine br_e (fun h=>?_) fun h=>?_|refine br_n (fun h=>?_) fun h=>?_|refine drw_fast (by kernel_rfl) ?_|refine chk (by kernel_rfl) ?_|refine stop ?_)
  all_goals refine Stop.mk ?_
  refine call_fn [] (copy16_fn hG hS) rfl trivial (by decide) ?_
  rintro sv H' G2 ⟨⟨A2, B2, C2, a2, b2, c2, rfl, hG2⟩, rfl⟩ hg2
  replace hG := hG.to hg2
  refine ⟨Nat.le_of_ble_eq_true rfl, ?_⟩
  unfold crtS
  repeat' ((fail_if_success with_reducible refine Stop.mk ?_);(conv=>whnf);with_reducible first|refine br_t ?_|refine br_f ?_|refine br_nn ?_|refine br_ns ?_|refine br_not ?_|refine br_d (fun h=>?_) fun h=>?_|refine br_e (fun h=>?_) fun h=>?_|refine br_n (fun h=>?_) fun h=>?_|refine drw_fast (by kernel_rfl) ?_|refine chk (by kernel_rfl) ?_|refine stop ?_)
  all_goals refine Stop.mk ?_
  refine call_fn [] (cencode_fn hG2 hS) rfl trivial (by decide) ?_
  intro sv H' G3 hp hg3
  replace hG := hG.to hg3
  replace hG2 := hG2.to hg3
  have hck := eCrt_ok hG
  by_cases h0 : eCrt x = 0
  case neg =>
    obtain ⟨_, rfl, rfl⟩ := hp.resolve_left (fun h => h0 h.1)
    refine ⟨Nat.le_of_ble_eq_true rfl, ?_⟩
    repeat' ((fail_if_success with_reducible refine Stop.mk ?_);(conv=>whnf);with_reducible first|refine br_t ?_|refine br_f ?_|refine br_nn ?_|refine br_ns ?_|refine br_not ?_|refine br_d (fun h=>?_) fun h=>?_|refine br_e (fun h=>?_) fun h=>?_|refine br_n (fun h=>?_) fun h=>?_|refine drw_fast (by kernel_rfl) ?_|refine chk (by kernel_rfl) ?_|refine stop ?_)
    all_goals refine Stop.mk ?_
    refine ⟨_, slB_nil _, ⟨by show (0 + 0) * 1 ≤ _; omega, ?_⟩⟩
    simp only [Nat.zero_add, List.nil_append]
    repeat' ((fail_if_success with_reducible refine Stop.mk ?_);(conv=>whnf);with_reducible first|refine br_t ?_|refine br_f ?_|refine br_nn ?_|refine br_ns ?_|refine br_not ?_|refine br_d (fun h=>?_) fun h=>?_|refine br_e (fun h=>?_) fun h=>?_|refine br_n (fun h=>?_) fun h=>?_|refine drw_fast (by kernel_rfl) ?_|refine chk (by kernel_rfl) ?_|refine stop ?_)
    all_goals refine Stop.mk ?_
    have hcE : cErr [] = 1 := rfl
    refine call_fn [] (cdecode_fn _ none 0 [] (by intro z hz; simp at hz) (slB_nil _) (by decide) (part_ok (by intro z hz; simp at hz) (by decide))) rfl trivial (by decide) ?_
    intro sv H' G4 hp4 hg4
    obtain ⟨rfl, rfl⟩ := dec_fail hp4 (by rw [hcE]; decide)
    rw [hcE]
    replace hG := hG.to hg4
    replace hG2 := hG2.to hg4
    refine ⟨Nat.le_of_ble_eq_true rfl, ?_⟩
    unfold crt0
    repeat' ((fail_if_success with_reducible refine Stop.mk ?_);(conv=>whnf);with_reducible first|refine br_t ?_|refine br_f ?_|refine br_nn ?_|refine br_ns ?_|refine br_not ?_|refine br_d (fun h=>?_) fun h=>?_|refine br_e (fun h=>?_) fun h=>?_|refine br_n (fun h=>?_) fun h=>?_|refine drw_fast (by kernel_rfl) ?_|refine chk (by kernel_rfl) ?_|refine stop ?_)
    all_goals refine Stop.mk ?_
    refine loop_unroll follows [] 1 ?_
    repeat' ((fail_if_success with_reducible refine Stop.mk ?_);(conv=>whnf);first|with_reducible refine br_t ?_|with_reducible refine br_f ?_|with_reducible refine br_nn ?_|with_reducible refine br_ns ?_|with_reducible refine br_not ?_|((with_reducible refine br_d (fun h=>?_) fun h=>?_) <;> try (exfalso; omega))|((with_reducible refine br_e (fun h=>?_) fun h=>?_) <;> try (exfalso; omega))|((with_reducible refine br_n (fun h=>?_) fun h=>?_) <;> try (exfalso; omega))|with_reducible refine drw_fast (by kernel_rfl) ?_|with_reducible refine chk (by kernel_rfl) ?_|with_reducible refine stop ?_)
    all_goals refine Stop.mk ?_
    refine call_fz 2 rfl (byts_one []) (enters_of Tryz.func15 rfl rfl) fun Av cv Gv hgv hsv => ?_
    (conv => whnf)
    refine call_fn [] (same_fn _ none Av 0 cv [] [] (slB_nil _) (SlB.of [] hsv rfl rfl rfl)) rfl trivial (by decide) ?_
    rintro sv H' G7 ⟨rfl, rfl, rfl⟩ -
    rw [decide_eq_true rfl]
    replace hG := hG.to hgv
    replace hG2 := hG2.to hgv
    replace hsv := Sl.to (fun _ _ h => h) hsv
    refine ⟨Nat.le_of_ble_eq_true rfl, ?_⟩
    repeat' ((fail_if_success with_reducible refine Stop.mk ?_);(conv=>whnf);with_reducible first|refine br_t ?_|refine br_f ?_|refine br_nn ?_|refine br_ns ?_|refine br_not ?_|refine br_d (fun h=>?_) fun h=>?_|refine br_e (fun h=>?_) fun h=>?_|refine br_n (fun h=>?_) fun h=>?_|refine drw_fast (by kernel_rfl) ?_|refine chk (by kernel_rfl) ?_|refine stop ?_)
    all_goals refine Stop.mk ?_
    refine loop_unroll follows [] 1 ?_
    repeat' ((fail_if_success with_reducible refine Stop.mk ?_);(conv=>whnf);first|with_reducible refine br_t ?_|with_reducible refine br_f ?_|with_reducible refine br_nn ?_|with_reducible refine br_ns ?_|with_reducible refine br_not ?_|((with_reducible refine br_d (fun h=>?_) fun h=>?_) <;> try (exfalso; omega))|((with_reducible refine br_e (fun h=>?_) fun h=>?_) <;> try (exfalso; omega))|((with_reducible refine br_n (fun h=>?_) fun h=>?_) <;> try (exfalso; omega))|with_reducible refine drw_fast (by kernel_rfl) ?_|with_reducible refine chk (by kernel_rfl) ?_|with_reducible refine stop ?_)
    all_goals refine Stop.mk ?_
    refine call_fn [] (cencode_fn hG2 hS) rfl trivial (by decide) ?_
    intro sv H' G9 hp9 hg9
    obtain ⟨_, rfl, rfl⟩ := hp9.resolve_left (fun h => h0 h.1)
    replace hG := hG.to hg9
    replace hG2 := hG2.to hg9
    replace hsv := Sl.to hg9 hsv
    refine ⟨Nat.le_of_ble_eq_true rfl, ?_⟩
    repeat' ((fail_if_success with_reducible refine Stop.mk ?_);(conv=>whnf);with_reducible first|refine br_t ?_|refine br_f ?_|refine br_nn ?_|refine br_ns ?_|refine br_not ?_|refine br_d (fun h=>?_) fun h=>?_|refine br_e (fun h=>?_) fun h=>?_|refine br_n (fun h=>?_) fun h=>?_|refine drw_fast (by kernel_rfl) ?_|refine chk (by kernel_rfl) ?_|refine stop ?_)
    all_goals refine Stop.mk ?_
    refine call_fn [] (same16_fn hG2 hG) rfl trivial (by decide) ?_
    rintro sv H' G10 ⟨rfl, rfl⟩ hg10
    rw [decide_eq_true (sameC_iff.2 rfl)]
    refine ⟨Nat.le_of_ble_eq_true rfl, ?_⟩
    repeat' ((fail_if_success with_reducible refine Stop.mk ?_);(conv=>whnf);with_reducible first|refine br_t ?_|refine br_f ?_|refine br_nn ?_|refine br_ns ?_|refine br_not ?_|refine br_d (fun h=>?_) fun h=>?_|refine br_e (fun h=>?_) fun h=>?_|refine br_n (fun h=>?_) fun h=>?_|refine drw_fast (by kernel_rfl) ?_|refine chk (by kernel_rfl) ?_|refine stop ?_)
    all_goals refine Stop.mk ?_
    refine call_fn [] (same_fn _ none Av 0 cv [] [] (slB_nil _) (SlB.of [] (Sl.to hg10 hsv) rfl rfl rfl)) rfl trivial (by decide) ?_
    rintro sv H' G11 ⟨rfl, rfl, rfl⟩ -
    rw [decide_eq_true rfl]
    refine ⟨Nat.le_of_ble_eq_true rfl, ?_⟩
    repeat' ((fail_if_success with_reducible refine Stop.mk ?_);(conv=>whnf);with_reducible first|refine br_t ?_|refine br_f ?_|refine br_nn ?_|refine br_ns ?_|refine br_not ?_|refine br_d (fun h=>?_) fun h=>?_|refine br_e (fun h=>?_) fun h=>?_|refine br_n (fun h=>?_) fun h=>?_|refine drw_fast (by kernel_rfl) ?_|refine chk (by kernel_rfl) ?_|refine stop ?_)
    all_goals refine Stop.mk ?_
    exact fin_id hE 0 rfl rfl rfl rfl ⟨rfl, rfl⟩
  obtain ⟨_, rfl, rfl⟩ := hp.resolve_right (fun h => h.1 h0)
  clear hp
  have hok := hck.1 h0
  have hF := fit_of hok hS
  have hdec := enc_ok hok hF
  have hl := hF.l
  have hbb := hF.b
  have hpos : 3 ≤ (encCrt x).length := by unfold encCrt; rw [List.length_append]; simp only [List.length_cons, List.length_nil]; omega
  have hGa := hG
  have hGb := hG2
  refine ⟨Nat.le_of_ble_eq_true rfl, ?_⟩
  generalize hpk : encCrt x = pk at *
  repeat' ((fail_if_success with_reducible refine Stop.mk ?_);(conv=>whnf);with_reducible first|refine br_t ?_|refine br_f ?_|refine br_nn ?_|refine br_ns ?_|refine br_not ?_|refine br_d (fun h=>?_) fun h=>?_|refine br_e (fun h=>?_) fun h=>?_|refine br_n (fun h=>?_) fun h=>?_|refine drw_fast (by kernel_rfl) ?_|refine chk (by kernel_rfl) ?_|refine stop ?_)
  all_goals refine Stop.mk ?_
  refine ⟨byts_one _, by show (0 + pk.length) * 1 ≤ _; omega, ?_⟩
  simp only [Nat.zero_add, List.nil_append]
  repeat' ((fail_if_success with_reducible refine Stop.mk ?_);(conv=>whnf);with_reducible first|refine br_t ?_|refine br_f ?_|refine br_nn ?_|refine br_ns ?_|refine br_not ?_|refine br_d (fun h=>?_) fun h=>?_|refine br_e (fun h=>?_) fun h=>?_|refine br_n (fun h=>?_) fun h=>?_|refine drw_fast (by kernel_rfl) ?_|refine chk (by kernel_rfl) ?_|refine stop ?_)
  all_goals refine Stop.mk ?_
  refine call_fzW 2 rfl (byts_one _) (enters_of Tryz.func10 rfl rfl) fun A4 c4 G4 hg4 hf4 hw4 hs4 => ?_
  (conv => whnf)
  replace hG := hG.to hg4
  replace hG2 := hG2.to hg4
  have hgE : Ghe E.G0 G3 := by rw [hE0]; exact fun b o h => hg3 b o (hg2 b o (hg1 b o h))
  have hgE4 : Ghe E.G0 G4 := fun b o h => hg4 b o (hgE b o h)
  have hlen4 : pk.length ≤ 1000000 := by omega
  refine call_fn [] (cdecodeO_fn _ A4 c4 pk hbb (SlB.of pk hs4 rfl rfl rfl) hlen4 (part_ok hbb hlen4)) rfl trivial (by decide) ?_
  intro sv H' G5 hp hg5
  obtain ⟨A5, B5, C5, a5, b5, c5, rfl, rfl, hs5, ht5, hw5⟩ := decO_post hp hdec.1
  rw [hdec.2] at hs5 ht5 hw5 ⊢
  clear hp
  refine ⟨Nat.le_of_ble_eq_true rfl, ?_⟩
  unfold crtS
  obtain ⟨css, Gc, hR, hSl, hg01, hg1', hfr⟩ := hw5
  have hrl : ∀ r ∈ css, r.length = 1 := (kOwnP _).rows_len hR
  have hcap := hSl.cap
  have hB := codeP_new hR
  have hE0' : ∀ b, CodeB css b → E.G0 b = none := fun b hb => by
    cases h : E.G0 b with
    | none => rfl
    | some o => exact absurd ((hB b hb).1.symm.trans (hgE4 b o h)) (by simp)
  have hout : ∀ ad, C5 = some ad → ¬ CodeB css ad.block := fun ad had hb => by
    obtain ⟨o, ho⟩ := (hB _ hb).2
    have := hfr ad had
    rw [ho] at this; cases this
  have hgg : ∀ Gk, Sim (CodeB css) G5 Gk → Ghe G4 Gk := fun Gk hs => hs.ghe hg5 (fun b hb => (hB b hb).1)
  repeat' ((fail_if_success with_reducible refine Stop.mk ?_);(conv=>whnf);with_reducible first|refine br_t ?_|refine br_f ?_|refine br_nn ?_|refine br_ns ?_|refine br_not ?_|refine br_d (fun h=>?_) fun h=>?_|refine br_e (fun h=>?_) fun h=>?_|refine br_n (fun h=>?_) fun h=>?_|refine drw_fast (by kernel_rfl) ?_|refine chk (by kernel_rfl) ?_|refine stop ?_)
  all_goals refine Stop.mk ?_
  refine loop_vars follows [] (α := Nat × Gh) (fun y => [(9, .v (.int .i64 y.1))])
    (fun y => [crtO A B C a b c x, crtO A2 B2 C2 a2 b2 c2 x, .gone, .row 5 1 pk.length (byts pk), crtO A5 B5 C5 a5 b5 c5 x]) (fun y => y.2)
    (fun y => y.1 ≤ x.w.length ∧ Sim (CodeB css) G5 y.2) (fun y => x.w.length - y.1) (0, _)
    ⟨Nat.zero_le _, Sim.refl _ _⟩ rfl rfl ?_ ?_
  ·
    refine ⟨?_⟩
    (conv => whnf)
    (repeat' (first | exact trivial | exact .inl rfl | exact .inr rfl | refine And.intro ?_ ?_))
  rintro ⟨i, Gi⟩ ⟨hi, hsi⟩
  dsimp only at hi hsi ⊢
  have hx40 := hS.w1
  have hw2 : IntKind.i64.wrap ((i : Int) + 1) = ((i + 1 : Nat) : Int) := by rw [i64_in (by omega) (by omega)]; simp
  unfold crtO
  repeat' ((fail_if_success with_reducible refine Stop.mk ?_);(conv=>whnf);with_reducible first|refine br_t ?_|refine br_f ?_|refine br_nn ?_|refine br_ns ?_|refine br_not ?_|refine br_d (fun h=>?_) fun h=>?_|refine br_e (fun h=>?_) fun h=>?_|refine br_n (fun h=>?_) fun h=>?_|refine drw_fast (by kernel_rfl) ?_|refine chk (by kernel_rfl) ?_|refine stop ?_)
  all_goals refine Stop.mk ?_
  · have hil : i < x.w.length := by omega
    obtain ⟨ps, hps⟩ : ∃ ps, x.w[i]? = some ps := ⟨_, List.getElem?_eq_getElem hil⟩
    obtain ⟨r, hr, hRb, Ai, ci, xs, rfl, hfA, hWA, hSA⟩ := hR.get i ps hps
    have hBi : ∀ a, Ai = some a → CodeB css a.block := fun a ha => ⟨_, List.mem_of_getElem? hr, a, _, _, _, by rw [ha], rfl⟩
    have hpl := hS.w2 ps (List.mem_of_getElem? hps)
    have hcapA := hSA.cap
    refine loop_opq fun K0 hK0 => ?_
    refine loop_vars follows [] (α := Nat × Gh) (fun y => [(10, .v (.int .i64 y.1))])
      (fun y => [crtO A B C a b c x, crtO A2 B2 C2 a2 b2 c2 x, .gone, .row 5 1 pk.length (byts pk), crtO A5 B5 C5 a5 b5 c5 x]) (fun y => y.2)
      (fun y => y.1 ≤ ps.length ∧ Sim (CodeB css) G5 y.2) (fun y => ps.length - y.1) (0, Gi)
      ⟨Nat.zero_le _, hsi⟩ rfl rfl ?_ ?_
    ·
      refine ⟨?_⟩
      (conv => whnf)
      (repeat' (first | exact trivial | exact .inl rfl | exact .inr rfl | refine And.intro ?_ ?_))
    rintro ⟨k, Gk⟩ ⟨hk, hsk⟩
    dsimp only at hk hsk ⊢
    have hw3 : IntKind.i64.wrap ((k : Int) + 1) = ((k + 1 : Nat) : Int) := by rw [i64_in (by omega) (by omega)]; simp
    have hSk := hsk.sl_off hSl hout
    obtain ⟨ys, hWy, hSy⟩ := hsk.sl (hWA.to hg1') (hSA.to hg1')
    unfold crtO
    repeat' ((fail_if_success with_reducible refine Stop.mk ?_);(conv=>whnf);with_reducible first|refine br_t ?_|refine br_f ?_|refine br_nn ?_|refine br_ns ?_|refine br_not ?_|refine br_d (fun h=>?_) fun h=>?_|refine br_e (fun h=>?_) fun h=>?_|refine br_n (fun h=>?_) fun h=>?_|refine drw_fast (by kernel_rfl) ?_|refine chk (by kernel_rfl) ?_|refine stop ?_)
    all_goals refine Stop.mk ?_
    refine ⟨⟨by omega, by omega⟩, _, hSk, fun ad1 had1 _ => ?_⟩
    rw [Int.toNat_natCast, fget css hrl i _ hr] at had1
    repeat' ((fail_if_success with_reducible refine Stop.mk ?_);(conv=>whnf);with_reducible first|refine br_t ?_|refine br_f ?_|refine br_nn ?_|refine br_ns ?_|refine br_not ?_|refine br_d (fun h=>?_) fun h=>?_|refine br_e (fun h=>?_) fun h=>?_|refine br_n (fun h=>?_) fun h=>?_|refine drw_fast (by kernel_rfl) ?_|refine chk (by kernel_rfl) ?_|refine stop ?_)
    all_goals refine Stop.mk ?_
    refine ⟨_, had1 0 _ rfl, ?_⟩
    repeat' ((fail_if_success with_reducible refine Stop.mk ?_);(conv=>whnf);with_reducible first|refine br_t ?_|refine br_f ?_|refine br_nn ?_|refine br_ns ?_|refine br_not ?_|refine br_d (fun h=>?_) fun h=>?_|refine br_e (fun h=>?_) fun h=>?_|refine br_n (fun h=>?_) fun h=>?_|refine drw_fast (by kernel_rfl) ?_|refine chk (by kernel_rfl) ?_|refine stop ?_)
    all_goals refine Stop.mk ?_
    · refine ⟨⟨by omega, by omega⟩, _, hSk, fun ad2 had2 _ => ?_⟩
      rw [Int.toNat_natCast, fget css hrl i _ hr] at had2
      repeat' ((fail_if_success with_reducible refine Stop.mk ?_);(conv=>whnf);with_reducible first|refine br_t ?_|refine br_f ?_|refine br_nn ?_|refine br_ns ?_|refine br_not ?_|refine br_d (fun h=>?_) fun h=>?_|refine br_e (fun h=>?_) fun h=>?_|refine br_n (fun h=>?_) fun h=>?_|refine drw_fast (by kernel_rfl) ?_|refine chk (by kernel_rfl) ?_|refine stop ?_)
      all_goals refine Stop.mk ?_
      refine ⟨_, had2 0 _ rfl, ?_⟩
      repeat' ((fail_if_success with_reducible refine Stop.mk ?_);(conv=>whnf);with_reducible first|refine br_t ?_|refine br_f ?_|refine br_nn ?_|refine br_ns ?_|refine br_not ?_|refine br_d (fun h=>?_) fun h=>?_|refine br_e (fun h=>?_) fun h=>?_|refine br_n (fun h=>?_) fun h=>?_|refine drw_fast (by kernel_rfl) ?_|refine chk (by kernel_rfl) ?_|refine stop ?_)
      all_goals refine Stop.mk ?_
      refine ⟨⟨by omega, by omega⟩, _, hSy, fun ad3 had3 hadr => ?_⟩
      rw [Int.toNat_natCast] at hadr
      repeat' ((fail_if_success with_reducible refine Stop.mk ?_);(conv=>whnf);with_reducible first|refine br_t ?_|refine br_f ?_|refine br_nn ?_|refine br_ns ?_|refine br_not ?_|refine br_d (fun h=>?_) fun h=>?_|refine br_e (fun h=>?_) fun h=>?_|refine br_n (fun h=>?_) fun h=>?_|refine drw_fast (by kernel_rfl) ?_|refine chk (by kernel_rfl) ?_|refine stop ?_)
      all_goals refine Stop.mk ?_
      obtain ⟨cs3, T3, hv1, hv2, hv3, hv4, hs'⟩ := th_simx (E := E) (.int .i64 (-1)) hsk (hWA.to hg1') hWy hBi hE0' hadr rfl (fld := 0) (by rw [hSy.len]; omega) rfl
      refine ⟨cs3, T3, hv1, hv2, hv3, hv4, rfl, ?_⟩
      clear hv1 hv2 hv3 hv4
      generalize putG _ _ _ = G6 at *
      repeat' ((fail_if_success with_reducible refine Stop.mk ?_);(conv=>whnf);with_reducible first|refine br_t ?_|refine br_f ?_|refine br_nn ?_|refine br_ns ?_|refine br_not ?_|refine br_d (fun h=>?_) fun h=>?_|refine br_e (fun h=>?_) fun h=>?_|refine br_n (fun h=>?_) fun h=>?_|refine drw_fast (by kernel_rfl) ?_|refine chk (by kernel_rfl) ?_|refine stop ?_)
      all_goals refine Stop.mk ?_
      rw [hw3]
      refine tell_here ⟨(k + 1, G6), ⟨by show k + 1 ≤ _; omega, hs'⟩, by show ps.length - (k + 1) < ps.length - k; omega, rfl, rfl, ?_⟩
      refine ⟨?_⟩
      (conv => whnf)
      (repeat' (first | exact trivial | exact .inl rfl | exact .inr rfl | refine And.intro ?_ ?_))
    · refine Stop.mk (hK0 _ _ ?_)
      clear hK0
      repeat' ((fail_if_success with_reducible refine Stop.mk ?_);(conv=>whnf);with_reducible first|refine br_t ?_|refine br_f ?_|refine br_nn ?_|refine br_ns ?_|refine br_not ?_|refine br_d (fun h=>?_) fun h=>?_|refine br_e (fun h=>?_) fun h=>?_|refine br_n (fun h=>?_) fun h=>?_|refine drw_fast (by kernel_rfl) ?_|refine chk (by kernel_rfl) ?_|refine stop ?_)
      all_goals refine Stop.mk ?_
      rw [hw2]
      refine tell_here ⟨(i + 1, Gk), ⟨by show i + 1 ≤ _; omega, hsk⟩, by show x.w.length - (i + 1) < x.w.length - i; omega, rfl, rfl, ?_⟩
      refine ⟨?_⟩
      (conv => whnf)
      (repeat' (first | exact trivial | exact .inl rfl | exact .inr rfl | refine And.intro ?_ ?_))
  have hgi := hgg _ hsi
  replace hG := hG.to hgi
  replace hG2 := hG2.to hgi
  replace hw4 := hw4.to hgi
  replace hs4 := Sl.to hgi hs4
  have hgE5 : Ghe G3 Gi := fun b o h => hgi b o (hg4 b o h)
  clear hsi hgi hgg hout hE0' hB hSl hR hs5 ht5 hg5 hi hw2
  refine call_fzW 3 rfl (byts_one _) (enters_of Tryz.func15 rfl rfl) fun A6 c6 G6 hg6 hf6 hw6 hs6 => ?_
  (conv => whnf)
  have hne := hw4.ne hf6
  replace hG := hG.to hg6
  replace hG2 := hG2.to hg6
  replace hw4 := hw4.to hg6
  replace hs4 := Sl.to hg6 hs4
  have hg36 : Ghe G3 G6 := fun b o h => hg6 b o (hgE5 b o h)
  refine call_fn [] (same_fn _ A4 A6 c4 c6 pk pk (SlB.of pk hs4 rfl rfl rfl) (SlB.of pk hs6 rfl rfl rfl)) rfl trivial (by decide) ?_
  rintro sv H' G7 ⟨rfl, rfl, rfl⟩ -
  rw [decide_eq_true rfl]
  refine ⟨Nat.le_of_ble_eq_true rfl, ?_⟩
  repeat' ((fail_if_success with_reducible refine Stop.mk ?_);(conv=>whnf);with_reducible first|refine br_t ?_|refine br_f ?_|refine br_nn ?_|refine br_ns ?_|refine br_not ?_|refine br_d (fun h=>?_) fun h=>?_|refine br_e (fun h=>?_) fun h=>?_|refine br_n (fun h=>?_) fun h=>?_|refine drw_fast (by kernel_rfl) ?_|refine chk (by kernel_rfl) ?_|refine stop ?_)
  all_goals refine Stop.mk ?_
  obtain ⟨a4, rfl⟩ : ∃ a, A4 = some a := by
    cases A4 with
    | none => have := (hs4.nil rfl).1; omega
    | some a => exact ⟨a, rfl⟩
  have hf4' := hf4 a4 rfl
  have hgE' : ∀ a, some a4 = some a → E.G0 a.block = none := fun a ha => fresh_of hgE hf4 a ha
  have hcap4 := hs4.cap
  have htop4 := hs4.top
  refine loop_vars follows [] (α := Nat × List Int × Gh) (fun y => [(12, .v (.int .i64 y.1))])
    (fun y => [crtO A B C a b c x, crtO A2 B2 C2 a2 b2 c2 x, .gone, .gone, crtO A5 B5 C5 a5 b5 c5 x]) (fun y => y.2.2)
    (fun y => y.1 ≤ pk.length ∧ y.2.1.length = pk.length ∧ isB y.2.1 ∧ Whl y.2.2 (some a4) (byts y.2.1) ∧ Off a4.block G7 y.2.2) (fun y => pk.length - y.1) (0, pk, _)
    ⟨Nat.zero_le _, rfl, hbb, hw4, Off.refl _ _⟩ rfl rfl ?_ ?_
  ·
    refine ⟨?_⟩
    (conv => whnf)
    (repeat' (first | exact trivial | exact .inl rfl | exact .inr rfl | refine And.intro ?_ ?_))
  rintro ⟨k, l, Gk⟩ ⟨hk, hll, hlb, hwk, hok'⟩
  dsimp only at hk hll hlb hwk hok' ⊢
  have hw3 : IntKind.i64.wrap ((k : Int) + 1) = ((k + 1 : Nat) : Int) := by rw [i64_in (by omega) (by omega)]; simp
  have hsk : Sl Gk (some a4) pk.length c4 1 (byts l) := hwk.sl (by rw [byts_length, hll]; omega) hcap4 htop4 (fun h => by cases h) (byts_one _)
  unfold crtO
  repeat' ((fail_if_success with_reducible refine Stop.mk ?_);(conv=>whnf);with_reducible first|refine br_t ?_|refine br_f ?_|refine br_nn ?_|refine br_ns ?_|refine br_not ?_|refine br_d (fun h=>?_) fun h=>?_|refine br_e (fun h=>?_) fun h=>?_|refine br_n (fun h=>?_) fun h=>?_|refine drw_fast (by kernel_rfl) ?_|refine chk (by kernel_rfl) ?_|refine stop ?_)
  all_goals refine Stop.mk ?_
  · refine ⟨⟨by omega, by omega⟩, _, hsk, fun ad1 had1 _ => ?_⟩
    repeat' ((fail_if_success with_reducible refine Stop.mk ?_);(conv=>whnf);with_reducible first|refine br_t ?_|refine br_f ?_|refine br_nn ?_|refine br_ns ?_|refine br_not ?_|refine br_d (fun h=>?_) fun h=>?_|refine br_e (fun h=>?_) fun h=>?_|refine br_n (fun h=>?_) fun h=>?_|refine drw_fast (by kernel_rfl) ?_|refine chk (by kernel_rfl) ?_|refine stop ?_)
    all_goals refine Stop.mk ?_
    refine ⟨_, el1 had1 (by omega), ?_⟩
    rw [Int.toNat_natCast]
    repeat' ((fail_if_success with_reducible refine Stop.mk ?_);(conv=>whnf);with_reducible first|refine br_t ?_|refine br_f ?_|refine br_nn ?_|refine br_ns ?_|refine br_not ?_|refine br_d (fun h=>?_) fun h=>?_|refine br_e (fun h=>?_) fun h=>?_|refine br_n (fun h=>?_) fun h=>?_|refine drw_fast (by kernel_rfl) ?_|refine chk (by kernel_rfl) ?_|refine stop ?_)
    all_goals refine Stop.mk ?_
    refine ⟨⟨by omega, by omega⟩, _, hsk, fun ad2 had2 hadr => ?_⟩
    rw [Int.toNat_natCast, Nat.mul_one] at hadr
    repeat' ((fail_if_success with_reducible refine Stop.mk ?_);(conv=>whnf);with_reducible first|refine br_t ?_|refine br_f ?_|refine br_nn ?_|refine br_ns ?_|refine br_not ?_|refine br_d (fun h=>?_) fun h=>?_|refine br_e (fun h=>?_) fun h=>?_|refine br_n (fun h=>?_) fun h=>?_|refine drw_fast (by kernel_rfl) ?_|refine chk (by kernel_rfl) ?_|refine stop ?_)
    all_goals refine Stop.mk ?_
    obtain ⟨a, cs3, T3, hA0, hv1, hv2, hv3, hv4, hW', hoff⟩ := th_exB (E := E) (.int .u8 (IntKind.u8.wrap (l.getD k 0 + 1))) hwk hgE' hadr (by rw [byts_length]; omega) rfl
    cases hA0
    refine ⟨cs3, T3, hv1, hv2, hv3, hv4, rfl, ?_⟩
    clear hv1 hv2 hv3 hv4
    generalize putG _ _ _ = G8 at *
    rw [byts_set] at hW'
    repeat' ((fail_if_success with_reducible refine Stop.mk ?_);(conv=>whnf);with_reducible first|refine br_t ?_|refine br_f ?_|refine br_nn ?_|refine br_ns ?_|refine br_not ?_|refine br_d (fun h=>?_) fun h=>?_|refine br_e (fun h=>?_) fun h=>?_|refine br_n (fun h=>?_) fun h=>?_|refine drw_fast (by kernel_rfl) ?_|refine chk (by kernel_rfl) ?_|refine stop ?_)
    all_goals refine Stop.mk ?_
    rw [hw3]
    refine tell_here ⟨(k + 1, l.set k (IntKind.u8.wrap (l.getD k 0 + 1)), G8), ⟨by show k + 1 ≤ _; omega, by show (l.set k _).length = _; rw [List.length_set]; exact hll, ?_, hW', hok'.trans hoff⟩, by show pk.length - (k + 1) < pk.length - k; omega, rfl, rfl, ?_⟩
    · intro z hz
      rcases List.mem_or_eq_of_mem_set hz with hz | rfl
      · exact hlb z hz
      · rw [IntKind.wrap_u8]; omega
    ·
      refine ⟨?_⟩
      (conv => whnf)
      (repeat' (first | exact trivial | exact .inl rfl | exact .inr rfl | refine And.intro ?_ ?_))
  have hgk : Ghe G3 Gk := hok'.ghe hg36 hf4'
  replace hGa := hGa.to hgk
  replace hGb := hGb.to hgk
  have hs6' := hok'.sl hs6 (fun ad h => (hne a4 ad rfl h).symm)
  refine call_fn [] (cencode_fn hGb hS) rfl trivial (by decide) ?_
  intro sv H' G9 hp hg9
  obtain ⟨_, rfl, rfl⟩ := hp.resolve_right (fun h => h.1 h0)
  replace hGa := hGa.to hg9
  replace hGb := hGb.to hg9
  replace hs6' := Sl.to hg9 hs6'
  rw [hpk]
  refine ⟨Nat.le_of_ble_eq_true rfl, ?_⟩
  repeat' ((fail_if_success with_reducible refine Stop.mk ?_);(conv=>whnf);with_reducible first|refine br_t ?_|refine br_f ?_|refine br_nn ?_|refine br_ns ?_|refine br_not ?_|refine br_d (fun h=>?_) fun h=>?_|refine br_e (fun h=>?_) fun h=>?_|refine br_n (fun h=>?_) fun h=>?_|refine drw_fast (by kernel_rfl) ?_|refine chk (by kernel_rfl) ?_|refine stop ?_)
  all_goals refine Stop.mk ?_
  refine call_fn [] (same16_fn hGb hGa) rfl trivial (by decide) ?_
  rintro sv H' G10 ⟨rfl, rfl⟩ hg10
  rw [decide_eq_true (sameC_iff.2 rfl)]
  refine ⟨Nat.le_of_ble_eq_true rfl, ?_⟩
  repeat' ((fail_if_success with_reducible refine Stop.mk ?_);(conv=>whnf);with_reducible first|refine br_t ?_|refine br_f ?_|refine br_nn ?_|refine br_ns ?_|refine br_not ?_|refine br_d (fun h=>?_) fun h=>?_|refine br_e (fun h=>?_) fun h=>?_|refine br_n (fun h=>?_) fun h=>?_|refine drw_fast (by kernel_rfl) ?_|refine chk (by kernel_rfl) ?_|refine stop ?_)
  all_goals refine Stop.mk ?_
  refine call_fz 5 rfl (byts_one _) (enters_of Tryz.func15 rfl rfl) fun Av cv Gv hgv hsv => ?_
  (conv => whnf)
  refine call_fn [] (same_fn _ Av A6 cv c6 pk pk (SlB.of pk hsv rfl rfl rfl) (Sl.to hgv (Sl.to hg10 hs6'))) rfl trivial (by decide) ?_
  rintro sv H' G11 ⟨rfl, rfl, rfl⟩ -
  rw [decide_eq_true rfl]
  refine ⟨Nat.le_of_ble_eq_true rfl, ?_⟩
  repeat' ((fail_if_success with_reducible refine Stop.mk ?_);(conv=>whnf);with_reducible first|refine br_t ?_|refine br_f ?_|refine br_nn ?_|refine br_ns ?_|refine br_not ?_|refine br_d (fun h=>?_) fun h=>?_|refine br_e (fun h=>?_) fun h=>?_|refine br_n (fun h=>?_) fun h=>?_|refine drw_fast (by kernel_rfl) ?_|refine chk (by kernel_rfl) ?_|refine stop ?_)
  all_goals refine Stop.mk ?_
  exact fin_id hE 0 rfl rfl rfl rfl ⟨rfl, rfl⟩
end Go.Proofs.YtchebkpcgglllaaGreat.Cu
