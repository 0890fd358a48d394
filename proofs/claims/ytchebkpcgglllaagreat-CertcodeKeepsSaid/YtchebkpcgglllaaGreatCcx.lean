/- Ccx: Cc1, Cc2, Cc3, Cc4, Cc5 in one text. -/
import Derived.Test.YtchebkpcgglllaaGreatSXc
import Derived.Test.YtchebkpcgglllaaGreatFu5
import Derived.Test.YtchebkpcgglllaaGreatFu7
import Derived.Test.YtchebkpcgglllaaGreatWi3
import Derived.Test.YtchebkpcgglllaaGreatSe2
namespace Go.Proofs.YtchebkpcgglllaaGreat.Cu
open Go Go.SX Go.Proofs.YtchebkpcgglllaaGreat.VT
set_option maxRecDepth 100000
set_option linter.unusedVariables false
set_option linter.unusedSimpArgs false
def failV (why : Int) : Value := .iface 68 (.agg #[.int .i64 why])
theorem ccheck_fn (G : Gh) : Ct Tryz.prog 26 [.v (.int .i64 0)] [] G fun sv H' G' => sv = .tup [] ∧ H' = [] ∧ G' = G := by
  refine fn_of follows [] Tryz.func26 rfl rfl fun E hE => ?_
  repeat' ((fail_if_success with_reducible refine Stop.mk ?_);(conv=>whnf);with_reducible first|refine br_n (fun h=>?_) fun h=>?_|refine stop ?_)
  all_goals refine Stop.mk ?_
  all_goals first
    | exact absurd rfl (by assumption)
    | exact fin_all ⟨rfl, rfl, rfl⟩
theorem ccheck_pn (G : Gh) (why : Int) (hw : why ≠ 0) : CtP Tryz.prog 26 [.v (.int .i64 why)] [] G fun x H' G' => x = failV why ∧ H' = [] ∧ G' = G := by
  refine fn_ofP follows [] Tryz.func26 rfl rfl fun E hE hpan => ?_
  repeat' ((fail_if_success with_reducible refine Stop.mk ?_);(conv=>whnf);with_reducible first|refine br_n (fun h=>?_) fun h=>?_|refine stop ?_)
  all_goals refine Stop.mk ?_
  all_goals first
    | exact absurd (by assumption) hw
    | exact hpan _ _ _ (fin_id hE 0 rfl rfl rfl rfl ⟨rfl, rfl, rfl, rfl⟩)
/-- The error of the header. -/
def eStart (b : List Int) : Int := if b.length < 2 then 1 else if b.getD 0 0 ≠ 82 ∨ b.getD 1 0 ≠ 67 then 4 else if b.length < 3 then 1 else if b.getD 2 0 ≠ 1 then 5 else 0
theorem cstart_fn (G : Gh) (A : Option Addr) (c : Nat) (b : List Int) (hb : SlB G A c b) (h0 : eStart b = 0) :
    Ct Tryz.prog 23 [.v (.slice A b.length c)] [] G fun sv H' G' => sv = .tup [] ∧ H' = [] ∧ G' = G := by
  have hcap := hb.cap
  have h3 : ¬ b.length < 2 := fun h => by unfold eStart at h0; rw [if_pos h] at h0; simp at h0
  have h4 : ¬ (b.getD 0 0 ≠ 82 ∨ b.getD 1 0 ≠ 67) := fun h => by unfold eStart at h0; rw [if_neg h3, if_pos h] at h0; simp at h0
  have h5 : ¬ b.length < 3 := fun h => by unfold eStart at h0; rw [if_neg h3, if_neg h4, if_pos h] at h0; simp at h0
  have h6 : ¬ b.getD 2 0 ≠ 1 := fun h => by unfold eStart at h0; rw [if_neg h3, if_neg h4, if_neg h5, if_pos h] at h0; simp at h0
  have e0 : b.getD 0 0 = 82 := Classical.byContradiction fun h => h4 (.inl h)
  have e1 : b.getD 1 0 = 67 := Classical.byContradiction fun h => h4 (.inr h)
  have e2 : b.getD 2 0 = 1 := Classical.byContradiction fun h => h6 h
  have hs0 := hb
  unfold SlB at hs0
  refine fn_of follows [] Tryz.func23 rfl rfl fun E hE => ?_
  repeat' ((fail_if_success with_reducible refine Stop.mk ?_);(conv=>whnf);first|((with_reducible refine br_d (fun h=>?_) fun h=>?_) <;> try (exfalso; omega))|with_reducible refine stop ?_)
  all_goals refine Stop.mk ?_
  refine ⟨⟨by omega, by omega⟩, _, hs0, fun ad had hadr => ?_⟩
  repeat' ((fail_if_success with_reducible refine Stop.mk ?_);(conv=>whnf);with_reducible refine stop ?_)
  all_goals refine Stop.mk ?_
  refine ⟨_, el1 had (by show 0 < b.length; omega), ?_⟩
  rw [show b.getD (Int.toNat 0) 0 = 82 from e0]
  repeat' ((fail_if_success with_reducible refine Stop.mk ?_);(conv=>whnf);first|((with_reducible refine br_n (fun h=>?_) fun h=>?_) <;> try (exfalso; omega))|with_reducible refine stop ?_)
  all_goals refine Stop.mk ?_
  all_goals try (exfalso; first | exact h rfl | exact h (by decide))
  refine ⟨⟨by omega, by omega⟩, _, hs0, fun ad2 had2 hadr2 => ?_⟩
  repeat' ((fail_if_success with_reducible refine Stop.mk ?_);(conv=>whnf);with_reducible refine stop ?_)
  all_goals refine Stop.mk ?_
  refine ⟨_, el1 had2 (by show 1 < b.length; omega), ?_⟩
  rw [show b.getD (Int.toNat 1) 0 = 67 from e1]
  repeat' ((fail_if_success with_reducible refine Stop.mk ?_);(conv=>whnf);first|((with_reducible refine br_d (fun h=>?_) fun h=>?_) <;> try (exfalso; omega))|((with_reducible refine br_n (fun h=>?_) fun h=>?_) <;> try (exfalso; omega))|with_reducible refine stop ?_)
  all_goals refine Stop.mk ?_
  all_goals try (exfalso; first | exact h rfl | exact h (by decide))
  refine ⟨⟨by omega, by omega⟩, _, hs0, fun ad3 had3 hadr3 => ?_⟩
  repeat' ((fail_if_success with_reducible refine Stop.mk ?_);(conv=>whnf);with_reducible refine stop ?_)
  all_goals refine Stop.mk ?_
  refine ⟨_, el1 had3 (by show 2 < b.length; omega), ?_⟩
  rw [show b.getD (Int.toNat 2) 0 = 1 from e2]
  repeat' ((fail_if_success with_reducible refine Stop.mk ?_);(conv=>whnf);first|((with_reducible refine br_n (fun h=>?_) fun h=>?_) <;> try (exfalso; omega))|with_reducible refine stop ?_)
  all_goals refine Stop.mk ?_
  all_goals try (exfalso; first | exact h rfl | exact h (by decide))
  exact fin_id hE 0 rfl rfl rfl rfl ⟨rfl, rfl, rfl⟩
end Go.Proofs.YtchebkpcgglllaaGreat.Cu

namespace Go.Proofs.YtchebkpcgglllaaGreat.Cu
open Go Go.SX Go.Proofs.YtchebkpcgglllaaGreat.VT
set_option maxRecDepth 100000
set_option linter.unusedVariables false
set_option linter.unusedSimpArgs false
theorem cstart_pn (G : Gh) (A : Option Addr) (c : Nat) (b : List Int) (hb : SlB G A c b) (h0 : eStart b ≠ 0) :
    CtP Tryz.prog 23 [.v (.slice A b.length c)] [] G fun x H' G' => x = failV (eStart b) ∧ H' = [] ∧ G' = G := by
  have hcap := hb.cap
  have hs0 := hb
  unfold SlB at hs0
  have he : eStart b = if b.length < 2 then 1 else if b.getD 0 0 ≠ 82 ∨ b.getD 1 0 ≠ 67 then 4 else if b.length < 3 then 1 else if b.getD 2 0 ≠ 1 then 5 else 0 := rfl
  have hg0 : b.getD (Int.toNat 0) 0 = b.getD 0 0 := rfl
  have hg1 : b.getD (Int.toNat 1) 0 = b.getD 1 0 := rfl
  have hg2 : b.getD (Int.toNat 2) 0 = b.getD 2 0 := rfl
  have E0 : 1 < b.length → ∀ {ad : Addr}, Gat G ad (((byts b).drop (Int.toNat 0 * 1)).take 1) → Gcell G ad = some (.int .u8 (b.getD 0 0)) := fun h _ h9 => el1 h9 (by show 0 < b.length; omega)
  have E1 : 1 < b.length → ∀ {ad : Addr}, Gat G ad (((byts b).drop (Int.toNat 1 * 1)).take 1) → Gcell G ad = some (.int .u8 (b.getD 1 0)) := fun h _ h9 => el1 h9 (by show 1 < b.length; omega)
  have E2 : 2 < b.length → ∀ {ad : Addr}, Gat G ad (((byts b).drop (Int.toNat 2 * 1)).take 1) → Gcell G ad = some (.int .u8 (b.getD 2 0)) := fun h _ h9 => el1 h9 (by show 2 < b.length; omega)
  generalize b.getD 0 0 = x0 at *
  generalize b.getD 1 0 = x1 at *
  generalize b.getD 2 0 = x2 at *
  generalize eStart b = e at *
  refine fn_ofP follows [] Tryz.func23 rfl rfl fun E hE hpan => ?_
  repeat' ((fail_if_success with_reducible refine Stop.mk ?_);(conv=>whnf);first|((with_reducible refine br_d (fun h=>?_) fun h=>?_) <;> try (exfalso; omega))|with_reducible refine stop ?_)
  all_goals refine Stop.mk ?_
  · have h1 : e = 1 := by rw [he, if_pos (by omega)]
    subst h1
    refine call_pn [] (ccheck_pn _ 1 (by decide)) rfl trivial (by decide) ?_
    rintro x H' G' ⟨rfl, rfl, rfl⟩ -
    exact ⟨Nat.le_of_ble_eq_true rfl, hpan _ _ _ (fin_id hE 0 rfl rfl rfl rfl ⟨rfl, rfl, rfl, rfl⟩)⟩
  rw [if_neg (by omega)] at he
  refine ⟨⟨by omega, by omega⟩, _, hs0, fun ad had hadr => ?_⟩
  repeat' ((fail_if_success with_reducible refine Stop.mk ?_);(conv=>whnf);with_reducible refine stop ?_)
  all_goals refine Stop.mk ?_
  refine ⟨_, E0 (by omega) had, ?_⟩
  repeat' ((fail_if_success with_reducible refine Stop.mk ?_);(conv=>whnf);first|with_reducible refine br_t ?_|((with_reducible refine br_n (fun h=>?_) fun h=>?_) <;> try (exfalso; omega))|with_reducible refine stop ?_)
  all_goals refine Stop.mk ?_
  rotate_right
  · have h4 : e = 4 := by rw [he, if_pos (.inl (by assumption))]
    subst h4
    refine call_pn [] (ccheck_pn _ 4 (by decide)) rfl trivial (by decide) ?_
    rintro x H' G' ⟨rfl, rfl, rfl⟩ -
    exact ⟨Nat.le_of_ble_eq_true rfl, hpan _ _ _ (fin_id hE 0 rfl rfl rfl rfl ⟨rfl, rfl, rfl, rfl⟩)⟩
  refine ⟨⟨by omega, by omega⟩, _, hs0, fun ad had hadr => ?_⟩
  repeat' ((fail_if_success with_reducible refine Stop.mk ?_);(conv=>whnf);with_reducible refine stop ?_)
  all_goals refine Stop.mk ?_
  refine ⟨_, E1 (by omega) had, ?_⟩
  repeat' ((fail_if_success with_reducible refine Stop.mk ?_);(conv=>whnf);first|((with_reducible refine br_d (fun h=>?_) fun h=>?_) <;> try (exfalso; omega))|((with_reducible refine br_n (fun h=>?_) fun h=>?_) <;> try (exfalso; omega))|with_reducible refine stop ?_)
  all_goals refine Stop.mk ?_
  rotate_right
  · have h4 : e = 4 := by rw [he, if_pos (.inr (by assumption))]
    subst h4
    refine call_pn [] (ccheck_pn _ 4 (by decide)) rfl trivial (by decide) ?_
    rintro x H' G' ⟨rfl, rfl, rfl⟩ -
    exact ⟨Nat.le_of_ble_eq_true rfl, hpan _ _ _ (fin_id hE 0 rfl rfl rfl rfl ⟨rfl, rfl, rfl, rfl⟩)⟩
  · rw [if_neg (by omega)] at he
    have h1 : e = 1 := by rw [he, if_pos (by omega)]
    subst h1
    refine call_pn [] (ccheck_pn _ 1 (by decide)) rfl trivial (by decide) ?_
    rintro x H' G' ⟨rfl, rfl, rfl⟩ -
    exact ⟨Nat.le_of_ble_eq_true rfl, hpan _ _ _ (fin_id hE 0 rfl rfl rfl rfl ⟨rfl, rfl, rfl, rfl⟩)⟩
  rw [if_neg (by omega), if_neg (by omega)] at he
  refine ⟨⟨by omega, by omega⟩, _, hs0, fun ad had hadr => ?_⟩
  repeat' ((fail_if_success with_reducible refine Stop.mk ?_);(conv=>whnf);with_reducible refine stop ?_)
  all_goals refine Stop.mk ?_
  refine ⟨_, E2 (by omega) had, ?_⟩
  repeat' ((fail_if_success with_reducible refine Stop.mk ?_);(conv=>whnf);first|((with_reducible refine br_n (fun h=>?_) fun h=>?_) <;> try (exfalso; omega))|with_reducible refine stop ?_)
  all_goals refine Stop.mk ?_
  rotate_right
  · have h5 : e = 5 := by rw [he, if_pos (by assumption)]
    subst h5
    refine call_pn [] (ccheck_pn _ 5 (by decide)) rfl trivial (by decide) ?_
    rintro x H' G' ⟨rfl, rfl, rfl⟩ -
    exact ⟨Nat.le_of_ble_eq_true rfl, hpan _ _ _ (fin_id hE 0 rfl rfl rfl rfl ⟨rfl, rfl, rfl, rfl⟩)⟩
/-- What Decode builds. -/
def outL (A B C : Option Addr) (a b c n : Nat) (s : Fn) (t : MFn) : Ob := .cells 31 [.v (.int .i64 s.args), .v (.int .i64 s.regs), .v (.slice A s.blocks.length a), .v (.int .i64 t.args), .v (.int .i64 t.regs), .v (.int .i64 t.slots), .v (.slice B t.blocks.length b), .v (.slice C n c)]
theorem cids_fn (G : Gh) : Ct Tryz.prog 25 [] [] G fun sv H' G' => (∃ A c, sv = .v (.slice A 3 c) ∧ kB.S G' A c [1, 2, 3]) ∧ H' = [] := by
  refine fn_of follows [] Tryz.func25 rfl rfl fun E hE => ?_
  repeat' ((fail_if_success with_reducible refine Stop.mk ?_);(conv=>whnf);with_reducible refine stop ?_)
  all_goals refine Stop.mk ?_
  refine fin_fz 0 rfl (by simp [Value.oneCell']) fun Ax cx Gx hgx hsx => ?_
  (conv => whnf)
  exact fin_id hE 0 rfl rfl rfl rfl ⟨⟨Ax, cx, rfl, S_kB (SlB.of [1, 2, 3] hsx rfl rfl rfl) (by decide)⟩, rfl⟩
set_option maxHeartbeats 8000000 in
theorem cdecS_fn {G : Gh} {A : Option Addr} {bs : List Int} {c : Nat} {p : Ps} {A1 A2 A3 : Option Addr} {c1 c2 c3 n : Nat} {s : Fn} {t : MFn} (hC : CurOK G A c bs p)  :
    Ct Tryz.prog 28 [.p 0 0, .p 1 0] [curL A bs c p, outL A1 A2 A3 c1 c2 c3 n s t] G fun sv H' G' => sv = .tup [] ∧ ∃ B d, H' = [curL A bs c (sFnR p).2, outL B A2 A3 d c2 c3 n (sFnR p).1 t] ∧ kBlk.S G' B d (sFnR p).1.blocks := by
  refine fn_of follows [] Tryz.func28 rfl rfl fun E hE => ?_
  unfold outL
  repeat' ((fail_if_success with_reducible refine Stop.mk ?_);(conv=>whnf);with_reducible refine stop ?_)
  all_goals refine Stop.mk ?_
  refine call_fn [0] (func_fn hC) rfl ⟨rfl, trivial⟩ (by decide) ?_
  rintro sv H' G2 ⟨B, d, rfl, hS, rfl⟩ hg
  unfold fnS
  refine ⟨Nat.le_of_ble_eq_true rfl, ?_⟩
  repeat' ((fail_if_success with_reducible refine Stop.mk ?_);(conv=>whnf);with_reducible refine stop ?_)
  all_goals refine Stop.mk ?_
  exact fin_id hE 2 rfl rfl rfl rfl ⟨rfl, B, d, rfl, hS⟩
/-- What a section comes to: its value and its error. -/
def secS  (bs : List Int) := ((sFnR (bs, 0)).1, (sEnd (sFnR (bs, 0)).2).2)
set_option maxHeartbeats 8000000 in
theorem cwholeS_fn {G : Gh} {A : Option Addr} {bs : List Int} {c : Nat} {A1 A2 A3 : Option Addr} {c1 c2 c3 n : Nat} {s : Fn} {t : MFn} (hb : isB bs) (hs : SlB G A c bs) (hlen : bs.length ≤ 1000000)  (he : (secS bs).2 = 0) :
    Ct Tryz.prog 27 [.v (.slice A bs.length c), .f (.func 28) [] [.p 0 0]] [outL A1 A2 A3 c1 c2 c3 n s t] G fun sv H' G' => sv = .tup [] ∧ ∃ B d, H' = [outL B A2 A3 d c2 c3 n (sFnR (bs, 0)).1 t] ∧ kBlk.S G' B d (sFnR (bs, 0)).1.blocks := by
  refine fn_of follows [] Tryz.func27 rfl rfl fun E hE => ?_
  unfold outL
  repeat' ((fail_if_success with_reducible refine Stop.mk ?_);(conv=>whnf);with_reducible refine stop ?_)
  all_goals refine Stop.mk ?_
  refine call_fn [] (pnew_fn G A bs c hb hs (by omega)) rfl trivial (by decide) ?_
  rintro sv H' G' ⟨A', c', rfl, rfl, hC⟩ hg
  refine ⟨Nat.le_of_ble_eq_true rfl, ?_⟩
  unfold curL curO
  repeat' ((fail_if_success with_reducible refine Stop.mk ?_);(conv=>whnf);with_reducible refine stop ?_)
  all_goals refine Stop.mk ?_
  refine call_fn [1, 0] (cdecS_fn (n := n) (s := s) (t := t) (A1 := A1) (A2 := A2) (A3 := A3) (c1 := c1) (c2 := c2) (c3 := c3) hC) rfl ⟨rfl, rfl, trivial⟩ (by decide) ?_
  rintro sv H' G2 ⟨rfl, B, d, rfl, hS⟩ hg2
  refine ⟨Nat.le_of_ble_eq_true rfl, ?_⟩
  have hC2 : CurOK G2 A' c' bs (sFnR (bs, 0)).2 := (hC.to hg2).next ((sBody_suf _ _).trans (sHead_suf (bs, 0)))
  unfold curL curO outL
  repeat' ((fail_if_success with_reducible refine Stop.mk ?_);(conv=>whnf);with_reducible refine stop ?_)
  all_goals refine Stop.mk ?_
  refine call_fn [1] (pend_fn hC2) rfl ⟨rfl, trivial⟩ (by decide) ?_
  rintro sv H' G3 ⟨rfl, rfl, rfl⟩ -
  refine ⟨Nat.le_of_ble_eq_true rfl, ?_⟩
  unfold curL curO
  repeat' ((fail_if_success with_reducible refine Stop.mk ?_);(conv=>whnf);with_reducible refine stop ?_)
  all_goals refine Stop.mk ?_
  refine call_fn [1] (perr_fn (p := sEnd (sFnR (bs, 0)).2) (A := A') (bs := bs) (c := c')) rfl ⟨rfl, trivial⟩ (by decide) ?_
  rintro sv H' G4 ⟨rfl, rfl, rfl⟩ -
  refine ⟨Nat.le_of_ble_eq_true rfl, ?_⟩
  unfold curL curO
  repeat' ((fail_if_success with_reducible refine Stop.mk ?_);(conv=>whnf);with_reducible refine stop ?_)
  all_goals refine Stop.mk ?_
  rw [show (sEnd (sFnR (bs, 0)).2).2 = 0 from he]
  refine call_fn [] (ccheck_fn _) rfl trivial (by decide) ?_
  rintro sv H' G5 ⟨rfl, rfl, rfl⟩ -
  refine ⟨Nat.le_of_ble_eq_true rfl, ?_⟩
  repeat' ((fail_if_success with_reducible refine Stop.mk ?_);(conv=>whnf);with_reducible refine stop ?_)
  all_goals refine Stop.mk ?_
  exact fin_id hE 1 rfl rfl rfl rfl ⟨rfl, B, d, rfl, hS⟩
set_option maxHeartbeats 8000000 in
theorem cwholeS_pn {G : Gh} {A : Option Addr} {bs : List Int} {c : Nat} {A1 A2 A3 : Option Addr} {c1 c2 c3 n : Nat} {s : Fn} {t : MFn} (hb : isB bs) (hs : SlB G A c bs) (hlen : bs.length ≤ 1000000)  (he : (secS bs).2 ≠ 0) :
    CtP Tryz.prog 27 [.v (.slice A bs.length c), .f (.func 28) [] [.p 0 0]] [outL A1 A2 A3 c1 c2 c3 n s t] G fun x H' G' => x = failV (secS bs).2 ∧ ∃ B d, H' = [outL B A2 A3 d c2 c3 n (sFnR (bs, 0)).1 t] := by
  refine fn_ofP follows [] Tryz.func27 rfl rfl fun E hE hpan => ?_
  unfold outL
  repeat' ((fail_if_success with_reducible refine Stop.mk ?_);(conv=>whnf);with_reducible refine stop ?_)
  all_goals refine Stop.mk ?_
  refine call_fn [] (pnew_fn G A bs c hb hs (by omega)) rfl trivial (by decide) ?_
  rintro sv H' G' ⟨A', c', rfl, rfl, hC⟩ hg
  refine ⟨Nat.le_of_ble_eq_true rfl, ?_⟩
  unfold curL curO
  repeat' ((fail_if_success with_reducible refine Stop.mk ?_);(conv=>whnf);with_reducible refine stop ?_)
  all_goals refine Stop.mk ?_
  refine call_fn [1, 0] (cdecS_fn (n := n) (s := s) (t := t) (A1 := A1) (A2 := A2) (A3 := A3) (c1 := c1) (c2 := c2) (c3 := c3) hC) rfl ⟨rfl, rfl, trivial⟩ (by decide) ?_
  rintro sv H' G2 ⟨rfl, B, d, rfl, hS⟩ hg2
  refine ⟨Nat.le_of_ble_eq_true rfl, ?_⟩
  have hC2 : CurOK G2 A' c' bs (sFnR (bs, 0)).2 := (hC.to hg2).next ((sBody_suf _ _).trans (sHead_suf (bs, 0)))
  unfold curL curO outL
  repeat' ((fail_if_success with_reducible refine Stop.mk ?_);(conv=>whnf);with_reducible refine stop ?_)
  all_goals refine Stop.mk ?_
  refine call_fn [1] (pend_fn hC2) rfl ⟨rfl, trivial⟩ (by decide) ?_
  rintro sv H' G3 ⟨rfl, rfl, rfl⟩ -
  refine ⟨Nat.le_of_ble_eq_true rfl, ?_⟩
  unfold curL curO
  repeat' ((fail_if_success with_reducible refine Stop.mk ?_);(conv=>whnf);with_reducible refine stop ?_)
  all_goals refine Stop.mk ?_
  refine call_fn [1] (perr_fn (p := sEnd (sFnR (bs, 0)).2) (A := A') (bs := bs) (c := c')) rfl ⟨rfl, trivial⟩ (by decide) ?_
  rintro sv H' G4 ⟨rfl, rfl, rfl⟩ -
  refine ⟨Nat.le_of_ble_eq_true rfl, ?_⟩
  unfold curL curO
  repeat' ((fail_if_success with_reducible refine Stop.mk ?_);(conv=>whnf);with_reducible refine stop ?_)
  all_goals refine Stop.mk ?_
  refine call_pn [] (ccheck_pn _ _ he) rfl trivial (by decide) ?_
  rintro x H' G5 ⟨rfl, rfl, rfl⟩ -
  exact ⟨Nat.le_of_ble_eq_true rfl, hpan _ _ _ (fin_id hE 1 rfl rfl rfl rfl ⟨rfl, rfl, B, d, rfl⟩)⟩
end Go.Proofs.YtchebkpcgglllaaGreat.Cu

namespace Go.Proofs.YtchebkpcgglllaaGreat.Cu
open Go Go.SX Go.Proofs.YtchebkpcgglllaaGreat.VT
set_option maxRecDepth 100000
set_option linter.unusedVariables false
set_option linter.unusedSimpArgs false
set_option maxHeartbeats 8000000 in
theorem cdecT_fn {G : Gh} {A : Option Addr} {bs : List Int} {c : Nat} {p : Ps} {A1 A2 A3 : Option Addr} {c1 c2 c3 n : Nat} {s : Fn} {t : MFn} (hC : CurOK G A c bs p)  :
    Ct Tryz.prog 30 [.p 0 0, .p 1 0] [curL A bs c p, outL A1 A2 A3 c1 c2 c3 n s t] G fun sv H' G' => sv = .tup [] ∧ ∃ B d, H' = [curL A bs c (sMFnR p).2, outL A1 B A3 c1 d c3 n s (sMFnR p).1] ∧ kMBlk.S G' B d (sMFnR p).1.blocks := by
  refine fn_of follows [] Tryz.func30 rfl rfl fun E hE => ?_
  unfold outL
  repeat' ((fail_if_success with_reducible refine Stop.mk ?_);(conv=>whnf);with_reducible refine stop ?_)
  all_goals refine Stop.mk ?_
  refine call_fn [0] (mfunc_fn hC) rfl ⟨rfl, trivial⟩ (by decide) ?_
  rintro sv H' G2 ⟨B, d, rfl, hS, rfl⟩ hg
  unfold mfnS
  refine ⟨Nat.le_of_ble_eq_true rfl, ?_⟩
  repeat' ((fail_if_success with_reducible refine Stop.mk ?_);(conv=>whnf);with_reducible refine stop ?_)
  all_goals refine Stop.mk ?_
  exact fin_id hE 2 rfl rfl rfl rfl ⟨rfl, B, d, rfl, hS⟩
/-- What a section comes to: its value and its error. -/
def secT  (bs : List Int) := ((sMFnR (bs, 0)).1, (sEnd (sMFnR (bs, 0)).2).2)
set_option maxHeartbeats 8000000 in
theorem cwholeT_fn {G : Gh} {A : Option Addr} {bs : List Int} {c : Nat} {A1 A2 A3 : Option Addr} {c1 c2 c3 n : Nat} {s : Fn} {t : MFn} (hb : isB bs) (hs : SlB G A c bs) (hlen : bs.length ≤ 1000000)  (he : (secT bs).2 = 0) :
    Ct Tryz.prog 27 [.v (.slice A bs.length c), .f (.func 30) [] [.p 0 0]] [outL A1 A2 A3 c1 c2 c3 n s t] G fun sv H' G' => sv = .tup [] ∧ ∃ B d, H' = [outL A1 B A3 c1 d c3 n s (sMFnR (bs, 0)).1] ∧ kMBlk.S G' B d (sMFnR (bs, 0)).1.blocks := by
  refine fn_of follows [] Tryz.func27 rfl rfl fun E hE => ?_
  unfold outL
  repeat' ((fail_if_success with_reducible refine Stop.mk ?_);(conv=>whnf);with_reducible refine stop ?_)
  all_goals refine Stop.mk ?_
  refine call_fn [] (pnew_fn G A bs c hb hs (by omega)) rfl trivial (by decide) ?_
  rintro sv H' G' ⟨A', c', rfl, rfl, hC⟩ hg
  refine ⟨Nat.le_of_ble_eq_true rfl, ?_⟩
  unfold curL curO
  repeat' ((fail_if_success with_reducible refine Stop.mk ?_);(conv=>whnf);with_reducible refine stop ?_)
  all_goals refine Stop.mk ?_
  refine call_fn [1, 0] (cdecT_fn (n := n) (s := s) (t := t) (A1 := A1) (A2 := A2) (A3 := A3) (c1 := c1) (c2 := c2) (c3 := c3) hC) rfl ⟨rfl, rfl, trivial⟩ (by decide) ?_
  rintro sv H' G2 ⟨rfl, B, d, rfl, hS⟩ hg2
  refine ⟨Nat.le_of_ble_eq_true rfl, ?_⟩
  have hC2 : CurOK G2 A' c' bs (sMFnR (bs, 0)).2 := (hC.to hg2).next ((sMBody_suf _ _ _).trans (sMHead_suf (bs, 0)))
  unfold curL curO outL
  repeat' ((fail_if_success with_reducible refine Stop.mk ?_);(conv=>whnf);with_reducible refine stop ?_)
  all_goals refine Stop.mk ?_
  refine call_fn [1] (pend_fn hC2) rfl ⟨rfl, trivial⟩ (by decide) ?_
  rintro sv H' G3 ⟨rfl, rfl, rfl⟩ -
  refine ⟨Nat.le_of_ble_eq_true rfl, ?_⟩
  unfold curL curO
  repeat' ((fail_if_success with_reducible refine Stop.mk ?_);(conv=>whnf);with_reducible refine stop ?_)
  all_goals refine Stop.mk ?_
  refine call_fn [1] (perr_fn (p := sEnd (sMFnR (bs, 0)).2) (A := A') (bs := bs) (c := c')) rfl ⟨rfl, trivial⟩ (by decide) ?_
  rintro sv H' G4 ⟨rfl, rfl, rfl⟩ -
  refine ⟨Nat.le_of_ble_eq_true rfl, ?_⟩
  unfold curL curO
  repeat' ((fail_if_success with_reducible refine Stop.mk ?_);(conv=>whnf);with_reducible refine stop ?_)
  all_goals refine Stop.mk ?_
  rw [show (sEnd (sMFnR (bs, 0)).2).2 = 0 from he]
  refine call_fn [] (ccheck_fn _) rfl trivial (by decide) ?_
  rintro sv H' G5 ⟨rfl, rfl, rfl⟩ -
  refine ⟨Nat.le_of_ble_eq_true rfl, ?_⟩
  repeat' ((fail_if_success with_reducible refine Stop.mk ?_);(conv=>whnf);with_reducible refine stop ?_)
  all_goals refine Stop.mk ?_
  exact fin_id hE 1 rfl rfl rfl rfl ⟨rfl, B, d, rfl, hS⟩
set_option maxHeartbeats 8000000 in
theorem cwholeT_pn {G : Gh} {A : Option Addr} {bs : List Int} {c : Nat} {A1 A2 A3 : Option Addr} {c1 c2 c3 n : Nat} {s : Fn} {t : MFn} (hb : isB bs) (hs : SlB G A c bs) (hlen : bs.length ≤ 1000000)  (he : (secT bs).2 ≠ 0) :
    CtP Tryz.prog 27 [.v (.slice A bs.length c), .f (.func 30) [] [.p 0 0]] [outL A1 A2 A3 c1 c2 c3 n s t] G fun x H' G' => x = failV (secT bs).2 ∧ ∃ B d, H' = [outL A1 B A3 c1 d c3 n s (sMFnR (bs, 0)).1] := by
  refine fn_ofP follows [] Tryz.func27 rfl rfl fun E hE hpan => ?_
  unfold outL
  repeat' ((fail_if_success with_reducible refine Stop.mk ?_);(conv=>whnf);with_reducible refine stop ?_)
  all_goals refine Stop.mk ?_
  refine call_fn [] (pnew_fn G A bs c hb hs (by omega)) rfl trivial (by decide) ?_
  rintro sv H' G' ⟨A', c', rfl, rfl, hC⟩ hg
  refine ⟨Nat.le_of_ble_eq_true rfl, ?_⟩
  unfold curL curO
  repeat' ((fail_if_success with_reducible refine Stop.mk ?_);(conv=>whnf);with_reducible refine stop ?_)
  all_goals refine Stop.mk ?_
  refine call_fn [1, 0] (cdecT_fn (n := n) (s := s) (t := t) (A1 := A1) (A2 := A2) (A3 := A3) (c1 := c1) (c2 := c2) (c3 := c3) hC) rfl ⟨rfl, rfl, trivial⟩ (by decide) ?_
  rintro sv H' G2 ⟨rfl, B, d, rfl, hS⟩ hg2
  refine ⟨Nat.le_of_ble_eq_true rfl, ?_⟩
  have hC2 : CurOK G2 A' c' bs (sMFnR (bs, 0)).2 := (hC.to hg2).next ((sMBody_suf _ _ _).trans (sMHead_suf (bs, 0)))
  unfold curL curO outL
  repeat' ((fail_if_success with_reducible refine Stop.mk ?_);(conv=>whnf);with_reducible refine stop ?_)
  all_goals refine Stop.mk ?_
  refine call_fn [1] (pend_fn hC2) rfl ⟨rfl, trivial⟩ (by decide) ?_
  rintro sv H' G3 ⟨rfl, rfl, rfl⟩ -
  refine ⟨Nat.le_of_ble_eq_true rfl, ?_⟩
  unfold curL curO
  repeat' ((fail_if_success with_reducible refine Stop.mk ?_);(conv=>whnf);with_reducible refine stop ?_)
  all_goals refine Stop.mk ?_
  refine call_fn [1] (perr_fn (p := sEnd (sMFnR (bs, 0)).2) (A := A') (bs := bs) (c := c')) rfl ⟨rfl, trivial⟩ (by decide) ?_
  rintro sv H' G4 ⟨rfl, rfl, rfl⟩ -
  refine ⟨Nat.le_of_ble_eq_true rfl, ?_⟩
  unfold curL curO
  repeat' ((fail_if_success with_reducible refine Stop.mk ?_);(conv=>whnf);with_reducible refine stop ?_)
  all_goals refine Stop.mk ?_
  refine call_pn [] (ccheck_pn _ _ he) rfl trivial (by decide) ?_
  rintro x H' G5 ⟨rfl, rfl, rfl⟩ -
  exact ⟨Nat.le_of_ble_eq_true rfl, hpan _ _ _ (fin_id hE 1 rfl rfl rfl rfl ⟨rfl, rfl, B, d, rfl⟩)⟩
end Go.Proofs.YtchebkpcgglllaaGreat.Cu

namespace Go.Proofs.YtchebkpcgglllaaGreat.Cu
open Go Go.SX Go.Proofs.YtchebkpcgglllaaGreat.VT
set_option maxRecDepth 100000
set_option linter.unusedVariables false
set_option linter.unusedSimpArgs false
theorem sInv_suf (vregs regs slots n : Int) (p : Ps) : (sInv vregs regs slots n p).2.1 <:+ p.1 := rep_suf (fun t p => sBlk_suf vregs regs slots t p) (nx := nxT) n.toNat 0 p
def sInvC (s : Fn) (t : MFn) (p : Ps) := sInv s.regs t.regs t.slots s.blocks.length p
def sInvL (s : Fn) (t : MFn) (p : Ps) : List (List Pr) := if (sInvC s t p).2.2 = 0 then (sInvC s t p).1 else []
theorem sInvC_suf (s : Fn) (t : MFn) (p : Ps) : (sInvC s t p).2.1 <:+ p.1 := sInv_suf _ _ _ _ p
set_option maxHeartbeats 8000000 in
theorem cdecW_fn {G : Gh} {A : Option Addr} {bs : List Int} {c : Nat} {p : Ps} {A1 A2 A3 : Option Addr} {c1 c2 c3 n : Nat} {s : Fn} {t : MFn} (hC : CurOK G A c bs p) (hvr : (0 ≤ (s.blocks.length : Int) ∧ (s.blocks.length : Int) ≤ 2000000) ∧ (0 ≤ s.regs ∧ s.regs ≤ 1000000000) ∧ t.regs ≤ 1000000000 ∧ t.slots ≤ 1000000000) :
    Ct Tryz.prog 32 [.p 0 0, .p 1 0] [curL A bs c p, outL A1 A2 A3 c1 c2 c3 n s t] G fun sv H' G' => sv = .tup [] ∧ ∃ B d, H' = [curL A bs c (sInvC s t p).2, outL A1 A2 B c1 c2 d (sInvL s t p).length s t] ∧ kPrs.S G' B d (sInvL s t p) := by
  refine fn_of follows [] Tryz.func32 rfl rfl fun E hE => ?_
  unfold outL
  repeat' ((fail_if_success with_reducible refine Stop.mk ?_);(conv=>whnf);with_reducible refine stop ?_)
  all_goals refine Stop.mk ?_
  refine call_fn [0] (get_inv_fn s.blocks.length s.regs t.regs t.slots hC hvr.1 hvr.2.1 hvr.2.2.1 hvr.2.2.2) rfl ⟨rfl, trivial⟩ (by decide) ?_
  rintro sv H' G2 ⟨⟨B, d, rfl, hS⟩, rfl⟩ hg
  refine ⟨Nat.le_of_ble_eq_true rfl, ?_⟩
  repeat' ((fail_if_success with_reducible refine Stop.mk ?_);(conv=>whnf);with_reducible refine stop ?_)
  all_goals refine Stop.mk ?_
  exact fin_id hE 2 rfl rfl rfl rfl ⟨rfl, B, d, rfl, hS⟩
/-- What a section comes to: its value and its error. -/
def secW (s : Fn) (t : MFn) (bs : List Int) := ((sInvC s t (bs, 0)).1, (sEnd (sInvC s t (bs, 0)).2).2)
set_option maxHeartbeats 8000000 in
theorem cwholeW_fn {G : Gh} {A : Option Addr} {bs : List Int} {c : Nat} {A1 A2 A3 : Option Addr} {c1 c2 c3 n : Nat} {s : Fn} {t : MFn} (hb : isB bs) (hs : SlB G A c bs) (hlen : bs.length ≤ 1000000) (hvr : (0 ≤ (s.blocks.length : Int) ∧ (s.blocks.length : Int) ≤ 2000000) ∧ (0 ≤ s.regs ∧ s.regs ≤ 1000000000) ∧ t.regs ≤ 1000000000 ∧ t.slots ≤ 1000000000) (he : (secW s t bs).2 = 0) :
    Ct Tryz.prog 27 [.v (.slice A bs.length c), .f (.func 32) [] [.p 0 0]] [outL A1 A2 A3 c1 c2 c3 n s t] G fun sv H' G' => sv = .tup [] ∧ ∃ B d, H' = [outL A1 A2 B c1 c2 d (sInvL s t (bs, 0)).length s t] ∧ kPrs.S G' B d (sInvL s t (bs, 0)) := by
  refine fn_of follows [] Tryz.func27 rfl rfl fun E hE => ?_
  unfold outL
  repeat' ((fail_if_success with_reducible refine Stop.mk ?_);(conv=>whnf);with_reducible refine stop ?_)
  all_goals refine Stop.mk ?_
  refine call_fn [] (pnew_fn G A bs c hb hs (by omega)) rfl trivial (by decide) ?_
  rintro sv H' G' ⟨A', c', rfl, rfl, hC⟩ hg
  refine ⟨Nat.le_of_ble_eq_true rfl, ?_⟩
  unfold curL curO
  repeat' ((fail_if_success with_reducible refine Stop.mk ?_);(conv=>whnf);with_reducible refine stop ?_)
  all_goals refine Stop.mk ?_
  refine call_fn [1, 0] (cdecW_fn (n := n) (s := s) (t := t) (A1 := A1) (A2 := A2) (A3 := A3) (c1 := c1) (c2 := c2) (c3 := c3) hC hvr) rfl ⟨rfl, rfl, trivial⟩ (by decide) ?_
  rintro sv H' G2 ⟨rfl, B, d, rfl, hS⟩ hg2
  refine ⟨Nat.le_of_ble_eq_true rfl, ?_⟩
  have hC2 : CurOK G2 A' c' bs (sInvC s t (bs, 0)).2 := (hC.to hg2).next (sInvC_suf s t (bs, 0))
  unfold curL curO outL
  repeat' ((fail_if_success with_reducible refine Stop.mk ?_);(conv=>whnf);with_reducible refine stop ?_)
  all_goals refine Stop.mk ?_
  refine call_fn [1] (pend_fn hC2) rfl ⟨rfl, trivial⟩ (by decide) ?_
  rintro sv H' G3 ⟨rfl, rfl, rfl⟩ -
  refine ⟨Nat.le_of_ble_eq_true rfl, ?_⟩
  unfold curL curO
  repeat' ((fail_if_success with_reducible refine Stop.mk ?_);(conv=>whnf);with_reducible refine stop ?_)
  all_goals refine Stop.mk ?_
  refine call_fn [1] (perr_fn (p := sEnd (sInvC s t (bs, 0)).2) (A := A') (bs := bs) (c := c')) rfl ⟨rfl, trivial⟩ (by decide) ?_
  rintro sv H' G4 ⟨rfl, rfl, rfl⟩ -
  refine ⟨Nat.le_of_ble_eq_true rfl, ?_⟩
  unfold curL curO
  repeat' ((fail_if_success with_reducible refine Stop.mk ?_);(conv=>whnf);with_reducible refine stop ?_)
  all_goals refine Stop.mk ?_
  rw [show (sEnd (sInvC s t (bs, 0)).2).2 = 0 from he]
  refine call_fn [] (ccheck_fn _) rfl trivial (by decide) ?_
  rintro sv H' G5 ⟨rfl, rfl, rfl⟩ -
  refine ⟨Nat.le_of_ble_eq_true rfl, ?_⟩
  repeat' ((fail_if_success with_reducible refine Stop.mk ?_);(conv=>whnf);with_reducible refine stop ?_)
  all_goals refine Stop.mk ?_
  exact fin_id hE 1 rfl rfl rfl rfl ⟨rfl, B, d, rfl, hS⟩
set_option maxHeartbeats 8000000 in
theorem cwholeW_pn {G : Gh} {A : Option Addr} {bs : List Int} {c : Nat} {A1 A2 A3 : Option Addr} {c1 c2 c3 n : Nat} {s : Fn} {t : MFn} (hb : isB bs) (hs : SlB G A c bs) (hlen : bs.length ≤ 1000000) (hvr : (0 ≤ (s.blocks.length : Int) ∧ (s.blocks.length : Int) ≤ 2000000) ∧ (0 ≤ s.regs ∧ s.regs ≤ 1000000000) ∧ t.regs ≤ 1000000000 ∧ t.slots ≤ 1000000000) (he : (secW s t bs).2 ≠ 0) :
    CtP Tryz.prog 27 [.v (.slice A bs.length c), .f (.func 32) [] [.p 0 0]] [outL A1 A2 A3 c1 c2 c3 n s t] G fun x H' G' => x = failV (secW s t bs).2 ∧ ∃ B d, H' = [outL A1 A2 B c1 c2 d (sInvL s t (bs, 0)).length s t] := by
  refine fn_ofP follows [] Tryz.func27 rfl rfl fun E hE hpan => ?_
  unfold outL
  repeat' ((fail_if_success with_reducible refine Stop.mk ?_);(conv=>whnf);with_reducible refine stop ?_)
  all_goals refine Stop.mk ?_
  refine call_fn [] (pnew_fn G A bs c hb hs (by omega)) rfl trivial (by decide) ?_
  rintro sv H' G' ⟨A', c', rfl, rfl, hC⟩ hg
  refine ⟨Nat.le_of_ble_eq_true rfl, ?_⟩
  unfold curL curO
  repeat' ((fail_if_success with_reducible refine Stop.mk ?_);(conv=>whnf);with_reducible refine stop ?_)
  all_goals refine Stop.mk ?_
  refine call_fn [1, 0] (cdecW_fn (n := n) (s := s) (t := t) (A1 := A1) (A2 := A2) (A3 := A3) (c1 := c1) (c2 := c2) (c3 := c3) hC hvr) rfl ⟨rfl, rfl, trivial⟩ (by decide) ?_
  rintro sv H' G2 ⟨rfl, B, d, rfl, hS⟩ hg2
  refine ⟨Nat.le_of_ble_eq_true rfl, ?_⟩
  have hC2 : CurOK G2 A' c' bs (sInvC s t (bs, 0)).2 := (hC.to hg2).next (sInvC_suf s t (bs, 0))
  unfold curL curO outL
  repeat' ((fail_if_success with_reducible refine Stop.mk ?_);(conv=>whnf);with_reducible refine stop ?_)
  all_goals refine Stop.mk ?_
  refine call_fn [1] (pend_fn hC2) rfl ⟨rfl, trivial⟩ (by decide) ?_
  rintro sv H' G3 ⟨rfl, rfl, rfl⟩ -
  refine ⟨Nat.le_of_ble_eq_true rfl, ?_⟩
  unfold curL curO
  repeat' ((fail_if_success with_reducible refine Stop.mk ?_);(conv=>whnf);with_reducible refine stop ?_)
  all_goals refine Stop.mk ?_
  refine call_fn [1] (perr_fn (p := sEnd (sInvC s t (bs, 0)).2) (A := A') (bs := bs) (c := c')) rfl ⟨rfl, trivial⟩ (by decide) ?_
  rintro sv H' G4 ⟨rfl, rfl, rfl⟩ -
  refine ⟨Nat.le_of_ble_eq_true rfl, ?_⟩
  unfold curL curO
  repeat' ((fail_if_success with_reducible refine Stop.mk ?_);(conv=>whnf);with_reducible refine stop ?_)
  all_goals refine Stop.mk ?_
  refine call_pn [] (ccheck_pn _ _ he) rfl trivial (by decide) ?_
  rintro x H' G5 ⟨rfl, rfl, rfl⟩ -
  exact ⟨Nat.le_of_ble_eq_true rfl, hpan _ _ _ (fin_id hE 1 rfl rfl rfl rfl ⟨rfl, rfl, B, d, rfl⟩)⟩
end Go.Proofs.YtchebkpcgglllaaGreat.Cu

namespace Go.Proofs.YtchebkpcgglllaaGreat.Cu
open Go Go.SX Go.Proofs.YtchebkpcgglllaaGreat.VT
set_option maxRecDepth 100000
set_option linter.unusedVariables false
set_option linter.unusedSimpArgs false
def cPart (b : List Int) (k : Nat) : List Int := (splitR [1, 2, 3] (b.drop 3)).1.getD k []
def cS (b : List Int) : Fn := (secS (cPart b 0)).1
def cT (b : List Int) : MFn := (secT (cPart b 1)).1
def cW (b : List Int) : List (List Pr) := sInvL (cS b) (cT b) (cPart b 2, 0)
/-- The error of a decoding. -/
def cErr (b : List Int) : Int :=
  if eStart b ≠ 0 then eStart b else
  if (splitR [1, 2, 3] (b.drop 3)).2 ≠ 0 then (splitR [1, 2, 3] (b.drop 3)).2 else
  if (secS (cPart b 0)).2 ≠ 0 then (secS (cPart b 0)).2 else
  if (secT (cPart b 1)).2 ≠ 0 then (secT (cPart b 1)).2 else
  if (cS b).blocks.length ≠ (cT b).blocks.length ∨ (cS b).args ≠ (cT b).args then 14 else (secW (cS b) (cT b) (cPart b 2)).2
def crtSV (A B C : Option Addr) (a b c n : Nat) (s : Fn) (t : MFn) : SV := .agg [.v (.int .i64 s.args), .v (.int .i64 s.regs), .v (.slice A s.blocks.length a), .v (.int .i64 t.args), .v (.int .i64 t.regs), .v (.int .i64 t.slots), .v (.slice B t.blocks.length b), .v (.slice C n c)]
def crt0 : SV := .agg [.v (.int .i64 0), .v (.int .i64 0), .v (.slice none 0 0), .v (.int .i64 0), .v (.int .i64 0), .v (.int .i64 0), .v (.slice none 0 0), .v (.slice none 0 0)]
def DecPost (b : List Int) (sv : SV) (H' : List Ob) (G' : Gh) : Prop := H' = [] ∧
  ((cErr b = 0 ∧ ∃ A B C a b' c, sv = .tup [crtSV A B C a b' c (cW b).length (cS b) (cT b), .v (.int .i64 0)] ∧ kBlk.S G' A a (cS b).blocks ∧ kMBlk.S G' B b' (cT b).blocks ∧ kPrs.S G' C c (cW b)) ∨
   (cErr b ≠ 0 ∧ sv = .tup [crt0, .v (.int .i64 (cErr b))]))
/-- Where a decoding fails. -/
def DecPan (b : List Int) (x : Value) (H : List Ob) (G : Gh) : Prop := cErr b ≠ 0 ∧ x = failV (cErr b) ∧ ∃ (v0 v1 v2 v3 v4 v5 v6 v7 v8 : Value), H = [.cells 31 [.v v0, .v v1, .v v2, .v v3, .v v4, .v v5, .v v6, .v v7], .cells 34 [.v v8]]
theorem splitR3 (b : List Int) : ∃ x y z, (splitR [1, 2, 3] b).1 = [x, y, z] := ⟨_, _, _, rfl⟩
theorem kBs3 {G : Gh} {x y z : List Int} {vals : List Value} (h : kBs.Cs G [x, y, z] vals) : ∃ A1 c1 A2 c2 A3 c3, vals = [.slice A1 x.length c1, .slice A2 y.length c2, .slice A3 z.length c3] ∧ (SlB G A1 c1 x ∧ isB x) ∧ (SlB G A2 c2 y ∧ isB y) ∧ (SlB G A3 c3 z ∧ isB z) := by
  obtain ⟨css, h1, rfl⟩ := h
  match css, h1 with
  | [r1, r2, r3], ⟨h1, h2, h3, _⟩ =>
    obtain ⟨A1, c1, rfl, s1, b1⟩ := kBs_R h1
    obtain ⟨A2, c2, rfl, s2, b2⟩ := kBs_R h2
    obtain ⟨A3, c3, rfl, s3, b3⟩ := kBs_R h3
    exact ⟨A1, c1, A2, c2, A3, c3, rfl, ⟨s1, b1⟩, ⟨s2, b2⟩, s3, b3⟩
/-- Sections are no longer than what they were cut from, and what they hold is small. -/
structure PartOK (b : List Int) : Prop where
  l0 : (splitR [1, 2, 3] (b.drop 3)).2 = 0 → (cPart b 0).length ≤ 1000000
  l1 : (splitR [1, 2, 3] (b.drop 3)).2 = 0 → (cPart b 1).length ≤ 1000000
  l2 : (splitR [1, 2, 3] (b.drop 3)).2 = 0 → (cPart b 2).length ≤ 1000000
  vr : (splitR [1, 2, 3] (b.drop 3)).2 = 0 → (secS (cPart b 0)).2 = 0 → (secT (cPart b 1)).2 = 0 → (0 ≤ ((cS b).blocks.length : Int) ∧ ((cS b).blocks.length : Int) ≤ 2000000) ∧ (0 ≤ (cS b).regs ∧ (cS b).regs ≤ 1000000000) ∧ (cT b).regs ≤ 1000000000 ∧ (cT b).slots ≤ 1000000000
set_option maxHeartbeats 16000000 in
theorem cdecode_fn (G : Gh) (A : Option Addr) (c : Nat) (b : List Int) (hbb : isB b) (hb : SlB G A c b) (hlen : b.length ≤ 1000000) (hP : PartOK b) :
    Ct Tryz.prog 10 [.v (.slice A b.length c)] [] G (DecPost b) := by
  have herr : cErr b = if eStart b ≠ 0 then eStart b else
    if (splitR [1, 2, 3] (b.drop 3)).2 ≠ 0 then (splitR [1, 2, 3] (b.drop 3)).2 else
    if (secS (cPart b 0)).2 ≠ 0 then (secS (cPart b 0)).2 else
    if (secT (cPart b 1)).2 ≠ 0 then (secT (cPart b 1)).2 else
    if (cS b).blocks.length ≠ (cT b).blocks.length ∨ (cS b).args ≠ (cT b).args then 14 else (secW (cS b) (cT b) (cPart b 2)).2 := rfl
  refine fn_ofD (PanD := DecPan b) follows [(3, (.cons 0 [] (.cons 1 [] (.cons 2 [] (.cons 3 [] (.cons 4 [] (.cons 5 [] (.cons 6 [] (.cons 7 [] (.cons 8 [] .nil))))))))))] [(5, (.cons 0 [] (.cons 1 [] (.cons 2 [] (.cons 3 [] (.cons 4 [2] .nil))))))] Tryz.func10 rfl rfl rfl rfl rfl rfl rfl rfl rfl (by decide) (by decide) (by decide) (by decide +kernel)
    Tryz.func22 rfl rfl rfl rfl rfl rfl rfl rfl rfl (by decide) (fun E0 hE0 => ?_) (fun E p q G => ?_) (fun E0 E hE0 hE x H2 G2 hp => ?_)
  ·
    repeat' ((fail_if_success with_reducible refine Stop.mk ?_);(conv=>whnf);with_reducible refine stop ?_)
    all_goals refine Stop.mk ?_
    refine ⟨rfl, rfl, ⟨_, _, _, _, rfl⟩, rfl, fun E1 hE1 hpan => ?_⟩
    repeat' ((fail_if_success with_reducible refine Stop.mk ?_);(conv=>whnf);with_reducible refine stop ?_)
    all_goals refine Stop.mk ?_
    by_cases h1 : eStart b = 0
    case neg =>
      rw [if_pos h1] at herr
      refine call_pn [] (cstart_pn _ A c b hb h1) rfl trivial (by decide) ?_
      rintro x H' G' ⟨rfl, rfl, rfl⟩ -
      exact ⟨Nat.le_of_ble_eq_true rfl, hpan _ _ _ (fin_id hE1 2 rfl rfl rfl rfl ⟨rfl, by rw [herr]; exact h1, by rw [herr], _, _, _, _, _, _, _, _, _, rfl⟩)⟩
    rw [if_neg (not_not_intro h1)] at herr
    have hl3 : 3 ≤ b.length := Classical.byContradiction fun h => by
      unfold eStart at h1
      split at h1
      · simp at h1
      split at h1
      · simp at h1
      rw [if_pos (by omega)] at h1
      simp at h1
    refine call_fn [] (cstart_fn _ A c b hb h1) rfl trivial (by decide) ?_
    rintro sv H' G' ⟨rfl, rfl, rfl⟩ -
    refine ⟨Nat.le_of_ble_eq_true rfl, ?_⟩
    repeat' ((fail_if_success with_reducible refine Stop.mk ?_);(conv=>whnf);with_reducible first|refine drw (by kernel_rfl) ?_|refine stop ?_)
    all_goals refine Stop.mk ?_
    refine ⟨⟨by omega, by omega⟩, fun A2 hA2 => ?_⟩
    have hs2 := slB_drop hb 3 hl3 hA2
    have hbd : isB (b.drop 3) := isB_drop hbb 3
    have hdl : b.length - Int.toNat 3 = (b.drop 3).length := by rw [List.length_drop]; rfl
    have hcl : c - Int.toNat 3 = c - 3 := rfl
    rw [hdl, hcl]
    clear hA2
    repeat' ((fail_if_success with_reducible refine Stop.mk ?_);(conv=>whnf);with_reducible refine stop ?_)
    all_goals refine Stop.mk ?_
    refine call_fn [] (cids_fn _) rfl trivial (by decide) ?_
    rintro sv H' G2 ⟨⟨A3, c3, rfl, hi3⟩, rfl⟩ hg2
    refine ⟨Nat.le_of_ble_eq_true rfl, ?_⟩
    repeat' ((fail_if_success with_reducible refine Stop.mk ?_);(conv=>whnf);with_reducible refine stop ?_)
    all_goals refine Stop.mk ?_
    refine call_fn [] (split_fn _ A2 A3 (c - 3) c3 (b.drop 3) [1, 2, 3] hbd (Sl.to hg2 hs2) hi3 (by decide) (by rw [List.length_drop]; omega)) rfl trivial (by decide) ?_
    intro sv H' G3 hp hg3
    unfold SplitPost at hp
    by_cases h2 : (splitR [1, 2, 3] (b.drop 3)).2 = 0
    case neg =>
      rw [if_neg h2] at hp
      rw [if_pos h2] at herr
      obtain ⟨rfl, rfl⟩ := hp
      refine ⟨Nat.le_of_ble_eq_true rfl, ?_⟩
      repeat' ((fail_if_success with_reducible refine Stop.mk ?_);(conv=>whnf);with_reducible refine stop ?_)
      all_goals refine Stop.mk ?_
      refine call_pn [] (ccheck_pn _ _ h2) rfl trivial (by decide) ?_
      rintro x H' G' ⟨rfl, rfl, rfl⟩ -
      exact ⟨Nat.le_of_ble_eq_true rfl, hpan _ _ _ (fin_id hE1 2 rfl rfl rfl rfl ⟨rfl, by rw [herr]; exact h2, by rw [herr], _, _, _, _, _, _, _, _, _, rfl⟩)⟩
    rw [if_pos h2] at hp
    rw [if_neg (not_not_intro h2)] at herr
    obtain ⟨x, y, z, hxyz⟩ := splitR3 (b.drop 3)
    have e0 : cPart b 0 = x := by unfold cPart; rw [hxyz]; rfl
    have e1 : cPart b 1 = y := by unfold cPart; rw [hxyz]; rfl
    have e2 : cPart b 2 = z := by unfold cPart; rw [hxyz]; rfl
    rw [hxyz] at hp
    obtain ⟨vals, rfl, rfl, hv⟩ := hp
    obtain ⟨B1, d1, B2, d2, B3, d3, rfl, ⟨s1, b1⟩, ⟨s2, b2⟩, s3, b3⟩ := kBs3 hv
    refine ⟨Nat.le_of_ble_eq_true rfl, ?_⟩
    have hl0 := hP.l0 h2
    have hl1 := hP.l1 h2
    have hl2 := hP.l2 h2
    have hvr := hP.vr h2
    rw [e0] at hl0 herr hvr
    rw [e1] at hl1 herr hvr
    rw [e2] at hl2 herr
    repeat' ((fail_if_success with_reducible refine Stop.mk ?_);(conv=>whnf);with_reducible refine stop ?_)
    all_goals refine Stop.mk ?_
    refine call_fn [] (ccheck_fn _) rfl trivial (by decide) ?_
    rintro sv H' G4 ⟨rfl, rfl, rfl⟩ -
    refine ⟨Nat.le_of_ble_eq_true rfl, ?_⟩
    repeat' ((fail_if_success with_reducible refine Stop.mk ?_);(conv=>whnf);first|refine lit_ix (by rfl) (by rfl) ?_|refine ldrow1 ?_|with_reducible refine stop ?_)
    all_goals refine Stop.mk ?_
    -- the source function
    have hS : cS b = (sFnR (x, 0)).1 := by unfold cS secS; rw [e0]
    have hT : cT b = (sMFnR (y, 0)).1 := by unfold cT secT; rw [e1]
    have hW : cW b = sInvL (cS b) (cT b) (z, 0) := by unfold cW; rw [e2]
    by_cases h3 : (secS x).2 = 0
    case neg =>
      rw [if_pos h3] at herr
      refine call_pn [0] (cwholeS_pn (A1 := none) (A2 := none) (A3 := none) (c1 := 0) (c2 := 0) (c3 := 0) (n := 0) (s := fn0) (t := mfn0) b1 s1 hl0 h3) rfl ⟨rfl, trivial⟩ (by decide) ?_
      rintro x' H' G' ⟨rfl, B, d, rfl⟩ -
      exact ⟨Nat.le_of_ble_eq_true rfl, hpan _ _ _ (fin_id hE1 2 rfl rfl rfl rfl ⟨rfl, by rw [herr]; exact h3, by rw [herr], _, _, _, _, _, _, _, _, _, rfl⟩)⟩
    rw [if_neg (not_not_intro h3)] at herr
    refine call_fn [0] (cwholeS_fn (A1 := none) (A2 := none) (A3 := none) (c1 := 0) (c2 := 0) (c3 := 0) (n := 0) (s := fn0) (t := mfn0) b1 s1 hl0 h3) rfl ⟨rfl, trivial⟩ (by decide) ?_
    rintro sv H' G5 ⟨rfl, B4, d4, rfl, hsS⟩ hg5
    refine ⟨Nat.le_of_ble_eq_true rfl, ?_⟩
    rw [← hS] at hsS ⊢
    replace s2 := Sl.to hg5 s2
    replace s3 := Sl.to hg5 s3
    unfold outL
    repeat' ((fail_if_success with_reducible refine Stop.mk ?_);(conv=>whnf);first|refine lit_ix (by rfl) (by rfl) ?_|refine ldrow1 ?_|with_reducible refine stop ?_)
    all_goals refine Stop.mk ?_
    -- the allocated function
    by_cases h4 : (secT y).2 = 0
    case neg =>
      rw [if_pos h4] at herr
      refine call_pn [0] (cwholeT_pn (A1 := B4) (A2 := none) (A3 := none) (c1 := d4) (c2 := 0) (c3 := 0) (n := 0) (s := cS b) (t := mfn0) b2 s2 hl1 h4) rfl ⟨rfl, trivial⟩ (by decide) ?_
      rintro x' H' G' ⟨rfl, B, d, rfl⟩ -
      exact ⟨Nat.le_of_ble_eq_true rfl, hpan _ _ _ (fin_id hE1 2 rfl rfl rfl rfl ⟨rfl, by rw [herr]; exact h4, by rw [herr], _, _, _, _, _, _, _, _, _, rfl⟩)⟩
    rw [if_neg (not_not_intro h4)] at herr
    refine call_fn [0] (cwholeT_fn (A1 := B4) (A2 := none) (A3 := none) (c1 := d4) (c2 := 0) (c3 := 0) (n := 0) (s := cS b) (t := mfn0) b2 s2 hl1 h4) rfl ⟨rfl, trivial⟩ (by decide) ?_
    rintro sv H' G6 ⟨rfl, B5, d5, rfl, hsT⟩ hg6
    refine ⟨Nat.le_of_ble_eq_true rfl, ?_⟩
    rw [← hT] at hsT ⊢
    replace hsS := hsS.to hg6
    replace s3 := Sl.to hg6 s3
    replace hvr := hvr h3 h4
    unfold outL
    by_cases h5 : (cS b).blocks.length ≠ (cT b).blocks.length ∨ (cS b).args ≠ (cT b).args
    case pos =>
      rw [if_pos h5] at herr
      repeat' ((fail_if_success with_reducible refine Stop.mk ?_);(conv=>whnf);first|with_reducible refine br_t ?_|((with_reducible refine br_n (fun h=>?_) fun h=>?_) <;> try (exfalso; omega))|with_reducible refine stop ?_)
      all_goals refine Stop.mk ?_
      all_goals
        refine call_pn [] (ccheck_pn _ 14 (by decide)) rfl trivial (by decide) ?_
        rintro x' H' G' ⟨rfl, rfl, rfl⟩ -
        exact ⟨Nat.le_of_ble_eq_true rfl, hpan _ _ _ (fin_id hE1 2 rfl rfl rfl rfl ⟨rfl, by rw [herr]; exact (by decide), by rw [herr], _, _, _, _, _, _, _, _, _, rfl⟩)⟩
    rw [if_neg h5] at herr
    repeat' ((fail_if_success with_reducible refine Stop.mk ?_);(conv=>whnf);first|((with_reducible refine br_n (fun h=>?_) fun h=>?_) <;> try (exfalso; omega))|refine lit_ix (by rfl) (by rfl) ?_|refine ldrow1 ?_|with_reducible refine stop ?_)
    all_goals refine Stop.mk ?_
    -- the invariants
    by_cases h6 : (secW (cS b) (cT b) z).2 = 0
    case neg =>
      refine call_pn [0] (cwholeW_pn (A1 := B4) (A2 := B5) (A3 := none) (c1 := d4) (c2 := d5) (c3 := 0) (n := 0) (s := cS b) (t := cT b) b3 s3 hl2 hvr h6) rfl ⟨rfl, trivial⟩ (by decide) ?_
      rintro x' H' G' ⟨rfl, B, d, rfl⟩ -
      exact ⟨Nat.le_of_ble_eq_true rfl, hpan _ _ _ (fin_id hE1 2 rfl rfl rfl rfl ⟨rfl, by rw [herr]; exact h6, by rw [herr], _, _, _, _, _, _, _, _, _, rfl⟩)⟩
    refine call_fn [0] (cwholeW_fn (A1 := B4) (A2 := B5) (A3 := none) (c1 := d4) (c2 := d5) (c3 := 0) (n := 0) (s := cS b) (t := cT b) b3 s3 hl2 hvr h6) rfl ⟨rfl, trivial⟩ (by decide) ?_
    rintro sv H' G7 ⟨rfl, B6, d6, rfl, hsW⟩ hg7
    refine ⟨Nat.le_of_ble_eq_true rfl, ?_⟩
    rw [← hW] at hsW ⊢
    unfold outL
    repeat' ((fail_if_success with_reducible refine Stop.mk ?_);(conv=>whnf);with_reducible refine stop ?_)
    all_goals refine Stop.mk ?_
    exact fin_id hE0 0 rfl rfl rfl rfl ⟨rfl, .inl ⟨by rw [herr]; exact h6, B4, B5, B6, d4, d5, d6, rfl, hsS.to hg7, hsT.to hg7, hsW⟩⟩
  ·
    repeat' ((fail_if_success with_reducible refine Stop.mk ?_);(conv=>whnf);with_reducible first|refine br_f ?_|refine stop ?_)
    all_goals refine Stop.mk ?_
    trivial
  · obtain ⟨he, rfl, v0, v1, v2, v3, v4, v5, v6, v7, v8, rfl⟩ := hp
    unfold failV
    repeat' ((fail_if_success with_reducible refine Stop.mk ?_);(conv=>whnf);with_reducible first|refine br_t ?_|refine br_f ?_|refine br_not ?_|refine drw (by kernel_rfl) ?_|refine stop ?_)
    all_goals refine Stop.mk ?_
    exact fin_id hE0 0 rfl rfl rfl rfl ⟨rfl, .inr ⟨he, rfl⟩⟩
end Go.Proofs.YtchebkpcgglllaaGreat.Cu
