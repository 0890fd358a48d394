/- Wix: Wi2, Wi3, Wi4, Wi5, Wi6, Wi7 in one text. -/
import Derived.Test.YtkhajngpcgmpnaaWi1
import Derived.Test.YtkhajngpcgmpnaaSe1
import Derived.Test.YtkhajngpcgmpnaaSXg
namespace Go.Proofs.Ytkhajngpcgmpnaa.Cu
open Go Go.SX Go.Proofs.Ytkhajngpcgmpnaa.VT
set_option maxRecDepth 100000
set_option linter.unusedVariables false
set_option linter.unusedSimpArgs false

def prO (q : Pr) : Ob := .cells 127 [.v (.int .i64 q.v), .v (.int .i64 q.l)]
def blO (b : Bool) : Ob := .cells 4 [.v (.bool b)]
/-- What the reader holds, but for the cursor. -/
def decL (vregs regs slots : Int) (s : PS) : List Ob := [.cells 64 [.p 0 0], .cells 3 [.v (.int .i64 vregs)], .cells 3 [.v (.int .i64 regs)], .cells 3 [.v (.int .i64 slots)], prO s.2, blO s.1]
theorem mkPr_t (q : Pr) (dv dl : Int) : mkPr (true, q) dv dl = ⟨q.v + dv, dl⟩ := by unfold mkPr; rw [if_pos (.inl rfl)]
theorem mkPr_1 (q : Pr) (dv dl : Int) (h : dv ≠ 0) : mkPr (false, q) dv dl = ⟨q.v + dv, dl⟩ := by unfold mkPr; rw [if_pos (.inr h)]
theorem mkPr_2 (q : Pr) (dv dl : Int) (h : dv = 0) : mkPr (false, q) dv dl = ⟨q.v + dv, q.l + (dl + 1)⟩ := by
  unfold mkPr
  rw [if_neg (by rintro (h1 | h1)
                 · exact absurd (show false = true from h1) (by decide)
                 · exact h1 h)]
  congr 1
  dsimp only
  omega
/-- The state after a pair. -/
def stP (vregs : Int) (s : PS) (p : Ps) (x : Pr) : PS := if (sDl (sDv vregs s p).2).2.2 ≠ 0 then s else (false, x)
end Go.Proofs.Ytkhajngpcgmpnaa.Cu

namespace Go.Proofs.Ytkhajngpcgmpnaa.Cu
open Go Go.SX Go.Proofs.Ytkhajngpcgmpnaa.VT
set_option maxRecDepth 100000
set_option linter.unusedVariables false
set_option linter.unusedSimpArgs false

def prv (x : Pr) : List Value := [.int .i64 x.v, .int .i64 x.l]
def kPr : Kd Pr where
  sz := 2
  R _ x cs := cs = prv x ∧ in64 x.v ∧ in64 x.l
  len h := by rw [h.1]; rfl
  one h := by rw [h.1]; intro v hv; simp [prv] at hv; rcases hv with rfl | rfl <;> rfl
  mono _ h := h
def kPrs : Kd (List Pr) := kS kPr
/-- What a reader of invariants comes to. -/
def InvPost (l : List (List Pr)) (sv : SV) (G' : Gh) : Prop := ∃ A c, sv = .v (.slice A l.length c) ∧ kPrs.S G' A c l
theorem sNum_rng2 {bound why : Int} {p : Ps} (hb : isB p.1) : 0 ≤ (sNum bound why p).1 ∧ ((sNum bound why p).1 < bound ∨ (sNum bound why p).1 = 0) := by
  have h := sUint_range (most := maxU) hb
  unfold sNum
  split
  · exact ⟨Int.le_refl _, .inr rfl⟩
  · exact ⟨h.1, .inl (by omega)⟩
/-- A pair that was read without an error. -/
theorem sPr_rng {vregs regs slots : Int} {s : PS} {p : Ps} (hb : isB p.1) (hv : vregs ≤ 1000000000) (hr : regs ≤ 1000000000) (hs : slots ≤ 1000000000) (hg : goodS vregs s) (hl : s.2.l ≤ 3000000000) :
    (in64 (sPr vregs regs slots s p).1.v ∧ in64 (sPr vregs regs slots s p).1.l) ∧ ((sPr vregs regs slots s p).2.2 = 0 → (goodS vregs (false, (sPr vregs regs slots s p).1) ∧ (sPr vregs regs slots s p).1.l ≤ 3000000000) ∧ stP vregs s p (sPr vregs regs slots s p).1 = nxP s (sPr vregs regs slots s p).1) := by
  obtain ⟨g1, g2, g3⟩ := hg
  have h1 := sNum_rng2 (bound := vregs - s.2.v) (why := 9) hb
  have hb2 : isB (sNum (vregs - s.2.v) 9 p).2.1 := fun x hx => hb x ((sNum_suf _ _ _).subset hx)
  have h2 := sNum_rng2 (bound := 1099511627777) (why := 10) hb2
  unfold sPr stP sDv sDl
  dsimp only
  generalize sNum (vregs - s.2.v) 9 p = a at *
  generalize sNum 1099511627777 10 a.2 = d at *
  by_cases hd : d.2.2 = 0
  · rw [if_neg (by rw [hd]; simp)]
    dsimp only
    have hm : (mkPr s a.1 d.1).v = s.2.v + a.1 ∧ 0 ≤ (mkPr s a.1 d.1).l ∧ (mkPr s a.1 d.1).l ≤ 3000000000 + 1 + 1099511627777 := by
      unfold mkPr
      dsimp only
      refine ⟨rfl, ?_⟩
      split <;> omega
    refine ⟨⟨by unfold in64; omega, by unfold in64; omega⟩, ?_⟩
    split
    · rename_i hin
      have hin2 : (mkPr s a.1 d.1).l ≤ 3000000000 := by unfold inRange at hin; omega
      intro _
      refine ⟨⟨⟨?_, ?_, hin.1⟩, hin2⟩, ?_⟩
      · dsimp only; omega
      · dsimp only; omega
      · rw [if_neg (by rw [hd]; simp)]; rfl
    · intro h; exact absurd h (sFail_ne (by decide))
  · rw [if_pos hd]
    exact ⟨⟨by unfold in64 pr0; simp, by unfold in64 pr0; simp⟩, fun h => absurd h hd⟩
theorem ps0_l : ps0.2.l ≤ 3000000000 := by unfold ps0 pr0; decide
theorem sBlk_suf (vregs regs slots t : Int) (p : Ps) : (sBlk vregs regs slots t p).2.1 <:+ p.1 := (rep_suf (fun s p => sPr_suf _ _ _ s p) _ _ _).trans (cntC_suf _ _ _ _ _)
end Go.Proofs.Ytkhajngpcgmpnaa.Cu

namespace Go.Proofs.Ytkhajngpcgmpnaa.Cu
open Go Go.SX Go.Proofs.Ytkhajngpcgmpnaa.VT
set_option maxRecDepth 100000
set_option linter.unusedVariables false
set_option linter.unusedSimpArgs false

def encI : List (List Pr) → List Int
  | [] => []
  | x :: xs => (putB x.length ++ encPrs x) ++ encI xs
theorem encI_eq : ∀ (t : Int) (l : List (List Pr)), encL encBlk nxT t l = encI l
  | t, [] => rfl
  | t, x :: xs => by simp only [encL, encI, encBlk]; rw [encI_eq]
theorem encI_take : ∀ (l : List (List Pr)) (k : Nat) (x : List Pr), l[k]? = some x → encI (l.take (k + 1)) = encI (l.take k) ++ (putB x.length ++ encPrs x)
  | [], k, x, h => by simp at h
  | y :: l, 0, x, h => by simp at h; subst h; simp [encI]
  | y :: l, k + 1, x, h => by
    have := encI_take l k x (by simpa using h)
    simp only [List.take_succ_cons, encI, this, List.append_assoc]
theorem encL_snoc {σ α : Type} {enc : σ → α → List Int} {nx : σ → α → σ} : ∀ (s : σ) (l : List α) (x : α), encL enc nx s (l ++ [x]) = encL enc nx s l ++ enc (foldS nx s l) x
  | s, [], x => by simp [encL, foldS]
  | s, y :: l, x => by simp only [List.cons_append, encL, foldS]; rw [encL_snoc]; simp
/-- The state after k pairs. -/
def stK (ps : List Pr) (k : Nat) : PS := if k = 0 then ps0 else (false, ps.getD (k - 1) pr0)
theorem foldS_take : ∀ (ps : List Pr) (s : PS) (k : Nat), k ≤ ps.length → foldS nxP s (ps.take k) = if k = 0 then s else (false, ps.getD (k - 1) pr0)
  | ps, s, 0, _ => by simp [foldS]
  | [], s, k + 1, h => by simp at h
  | p :: ps, s, 1, h => by simp [foldS, nxP]
  | p :: ps, s, k + 2, h => by
    have := foldS_take ps (nxP s p) (k + 1) (by simpa using h)
    rw [List.take_succ_cons, foldS, this]
    simp
theorem encPrs_take (ps : List Pr) (k : Nat) (x : Pr) (h : ps[k]? = some x) : encPrs (ps.take (k + 1)) = encPrs (ps.take k) ++ encPr (stK ps k) x := by
  have hk : k < ps.length := (List.getElem?_eq_some_iff.1 h).1
  unfold encPrs
  rw [List.take_add_one, h]
  show encL encPr nxP ps0 (ps.take k ++ [x]) = _
  rw [encL_snoc, foldS_take _ _ _ (by omega)]
  rfl
theorem encPr_le (s : PS) (x : Pr) : (encPr s x).length ≤ 20 := by
  have h1 := pU_len (x.v - s.2.v)
  have h2 := pU_len x.l
  have h3 := pU_len (x.l - s.2.l - 1)
  unfold encPr
  split <;> simp only [List.length_append] <;> omega
theorem encL_le {σ α : Type} {enc : σ → α → List Int} {nx : σ → α → σ} (b : Nat) (h : ∀ s x, (enc s x).length ≤ b) : ∀ s l, (encL enc nx s l).length ≤ b * l.length
  | s, [] => by simp [encL]
  | s, x :: xs => by
    have h1 := encL_le (nx := nx) b h (nx s x) xs
    have h2 := h s x
    simp only [encL, List.length_append, List.length_cons, Nat.mul_add]
    omega
theorem encPrs_le (ps : List Pr) : (encPrs ps).length ≤ 20 * ps.length := encL_le 20 encPr_le _ _
theorem encI_le (b : Nat) : ∀ (l : List (List Pr)), (∀ x ∈ l, x.length ≤ b) → (encI l).length ≤ (10 + 20 * b) * l.length
  | [], _ => by simp [encI]
  | x :: xs, h => by
    have h1 := encI_le b xs (fun y hy => h y (by simp [hy]))
    have h2 := encPrs_le x
    have h3 := h x (by simp)
    have h4 := putB_len x.length
    simp only [encI, List.length_append, List.length_cons, Nat.mul_add]
    omega
theorem kPrs_R {G : Gh} {l : List Pr} {cs : List Value} (h : kPrs.R G l cs) : ∃ A c, cs = [.slice A l.length c] ∧ kPr.S G A c l := h
theorem stK_next (ps : List Pr) (j : Nat) (p : Pr) (h : ps[j]? = some p) : stK ps (j + 1) = (false, p) := by
  unfold stK
  rw [if_neg (by omega), List.getD_eq_getElem?_getD, Nat.add_sub_cancel, h]
  rfl
theorem stK_first (ps : List Pr) (j : Nat) : (stK ps j).1 = true ↔ j = 0 := by
  unfold stK
  split
  · simp [ps0, *]
  · simp [*]
theorem wrap_sub2 (a b : Int) : IntKind.u64.wrap (IntKind.i64.wrap (IntKind.i64.wrap (a - b) - 1)) = IntKind.u64.wrap (a - b - 1) := by rw [IntKind.wrap_i64, IntKind.wrap_i64, IntKind.wrap_u64, IntKind.wrap_u64]; omega
theorem wrap_sub (a b : Int) : IntKind.u64.wrap (IntKind.i64.wrap (a - b)) = IntKind.u64.wrap (a - b) := by rw [IntKind.wrap_i64, IntKind.wrap_u64, IntKind.wrap_u64]; omega
end Go.Proofs.Ytkhajngpcgmpnaa.Cu

namespace Go.Proofs.Ytkhajngpcgmpnaa.Cu
open Go Go.SX Go.Proofs.Ytkhajngpcgmpnaa.VT
set_option maxRecDepth 100000
set_option linter.unusedVariables false
set_option linter.unusedSimpArgs false

theorem r19put_fn (G : Gh) (l : List Int) (n : Int) (hl : l.length ≤ 1000000) :
    Ct Try.prog 73 [.s 0, .v (.int .i64 n)] [rowB l] G fun sv H' G' => sv = .s 0 ∧ H' = [rowB (l ++ pU n)] ∧ G' = G := by
  have hp := pU_len n
  have hn := pU_nat n
  have hrp := rput_fn G (IntKind.u64.wrap n).toNat (by omega)
  rw [Int.toNat_of_nonneg hn.1] at hrp
  refine fn_of follows [] Try.func73 rfl rfl fun E hE => ?_
  repeat' ((fail_if_success with_reducible refine Stop.mk ?_); (conv => whnf); with_reducible first | refine br_t ?_ | refine br_f ?_ | refine br_nn ?_ | refine br_ns ?_ | refine br_not ?_ | refine br_d (fun h => ?_) (fun h => ?_) | refine br_e (fun h => ?_) (fun h => ?_) | refine br_n (fun h => ?_) (fun h => ?_) | refine drw (by kernel_rfl) ?_ | refine chk (by kernel_rfl) ?_ | refine stop ?_)
  all_goals refine Stop.mk ?_
  refine call_fn [] (hrp) rfl trivial (by decide) ?_
  rintro sv H' G' ⟨rfl, rfl, rfl⟩ -
  refine ⟨Nat.le_of_ble_eq_true rfl, ?_⟩
  repeat' ((fail_if_success with_reducible refine Stop.mk ?_); (conv => whnf); with_reducible first | refine br_t ?_ | refine br_f ?_ | refine br_nn ?_ | refine br_ns ?_ | refine br_not ?_ | refine br_d (fun h => ?_) (fun h => ?_) | refine br_e (fun h => ?_) (fun h => ?_) | refine br_n (fun h => ?_) (fun h => ?_) | refine drw (by kernel_rfl) ?_ | refine chk (by kernel_rfl) ?_ | refine stop ?_)
  all_goals refine Stop.mk ?_
  refine ⟨byts_one _, ⟨by show (l.length + (pU n).length) * 1 ≤ _; omega, ?_⟩⟩
  repeat' ((fail_if_success with_reducible refine Stop.mk ?_); (conv => whnf); with_reducible first | refine br_t ?_ | refine br_f ?_ | refine br_nn ?_ | refine br_ns ?_ | refine br_not ?_ | refine br_d (fun h => ?_) (fun h => ?_) | refine br_e (fun h => ?_) (fun h => ?_) | refine br_n (fun h => ?_) (fun h => ?_) | refine drw (by kernel_rfl) ?_ | refine chk (by kernel_rfl) ?_ | refine stop ?_)
  all_goals refine Stop.mk ?_
  refine fin_id hE 1 rfl rfl rfl rfl ⟨rfl, ?_, rfl⟩
  rw [← rowB_app']; rfl
theorem encI_mono : ∀ (l : List (List Pr)) (k : Nat), (encI (l.take k)).length ≤ (encI l).length
  | [], k => by simp
  | x :: l, 0 => by simp [encI]
  | x :: l, k + 1 => by have := encI_mono l k; simp only [List.take_succ_cons, encI, List.length_append]; omega
theorem encL_mono {σ α : Type} {enc : σ → α → List Int} {nx : σ → α → σ} : ∀ (s : σ) (l : List α) (k : Nat), (encL enc nx s (l.take k)).length ≤ (encL enc nx s l).length
  | s, [], k => by simp
  | s, x :: l, 0 => by simp [encL]
  | s, x :: l, k + 1 => by have := encL_mono (enc := enc) (nx := nx) (nx s x) l k; simp only [List.take_succ_cons, encL, List.length_append]; omega
theorem encPrs_mono (ps : List Pr) (k : Nat) : (encPrs (ps.take k)).length ≤ (encPrs ps).length := encL_mono _ _ _
theorem pU_nat' (n : Nat) (h : n < 18446744073709551616) : pU (n : Int) = putB n := by unfold pU; rw [u64_in (by omega) (by omega)]; simp
theorem pU_wrap (a : Int) : pU (IntKind.i64.wrap a) = pU a := by
  unfold pU
  congr 2
  rw [IntKind.wrap_i64, IntKind.wrap_u64, IntKind.wrap_u64]; omega
theorem pU_wrap2 (a : Int) : pU (IntKind.i64.wrap (IntKind.i64.wrap a - 1)) = pU (a - 1) := by
  unfold pU
  congr 2
  rw [IntKind.wrap_i64, IntKind.wrap_i64, IntKind.wrap_u64, IntKind.wrap_u64]; omega
set_option maxHeartbeats 8000000 in
theorem rput_inv_fn (G : Gh) (A : Option Addr) (c : Nat) (l : List (List Pr)) (hl : kPrs.S G A c l) (h1 : l.length ≤ 1000000) (hE0 : (encI l).length ≤ 700000) :
    Ct Try.prog 41 [.v (.slice A l.length c)] [] G fun sv H' G' => (∃ A c, sv = .v (.slice A (encI l).length c) ∧ SlB G' A c (encI l)) ∧ H' = [] := by
  refine fn_of follows [(11, (.cons 0 [] (.cons 1 [] (.cons 2 [] (.cons 4 [] (.cons 5 [] (.cons 3 [2] (.cons 6 [2, 5] (.cons 7 [] .nil)))))))))] Try.func41 rfl rfl fun E hE => ?_
  have hcap := hl.cap
  repeat' ((fail_if_success with_reducible refine Stop.mk ?_); (conv => whnf); with_reducible first | refine br_t ?_ | refine br_f ?_ | refine br_nn ?_ | refine br_ns ?_ | refine br_not ?_ | refine br_d (fun h => ?_) (fun h => ?_) | refine br_e (fun h => ?_) (fun h => ?_) | refine br_n (fun h => ?_) (fun h => ?_) | refine drw (by kernel_rfl) ?_ | refine chk (by kernel_rfl) ?_ | refine stop ?_)
  all_goals refine Stop.mk ?_
  refine loop_gh (gh_birth 3 5 1 rfl) ?_
  rintro _ _ ⟨rfl, rfl⟩
  refine loop_vars follows [(11, (.cons 0 [] (.cons 1 [] (.cons 2 [] (.cons 4 [] (.cons 5 [] (.cons 3 [2] (.cons 6 [2, 5] (.cons 7 [] .nil)))))))))] (α := Nat × Gh) (fun x => [(3, .s 0), (4, .v (.int .i64 x.1))]) (fun x => [.row 5 1 (encI (l.take x.1)).length (byts (encI (l.take x.1)))]) (fun x => x.2) (fun x => x.1 ≤ l.length ∧ kPrs.S x.2 A c l) (fun x => l.length - x.1) (0, G)
    ⟨Nat.zero_le _, hl⟩ rfl rfl ?_ ?_
  ·
    refine ⟨?_⟩
    (conv => whnf)
    (repeat' (first | exact trivial | exact .inl rfl | exact .inr rfl | refine And.intro ?_ ?_))
  clear hl
  rintro ⟨k, Gk⟩ ⟨hk, hl⟩
  dsimp only at hk hl ⊢
  have hw2 : IntKind.i64.wrap ((k : Int) + 1) = ((k + 1 : Nat) : Int) := by rw [i64_in (by omega) (by omega)]; simp
  have hlen : (encI (l.take k)).length ≤ 700000 := Nat.le_trans (encI_mono l k) hE0
  have hstep := encI_take l k
  repeat' ((fail_if_success with_reducible refine Stop.mk ?_); (conv => whnf); with_reducible first | refine br_t ?_ | refine br_f ?_ | refine br_nn ?_ | refine br_ns ?_ | refine br_not ?_ | refine br_d (fun h => ?_) (fun h => ?_) | refine br_e (fun h => ?_) (fun h => ?_) | refine br_n (fun h => ?_) (fun h => ?_) | refine drw (by kernel_rfl) ?_ | refine chk (by kernel_rfl) ?_ | refine stop ?_)
  all_goals refine Stop.mk ?_
  ·
    obtain ⟨_, hs_, hat_⟩ := hl.at (sz := 1) rfl
    refine ⟨⟨by omega, by omega⟩, _, hs_, fun ad had => ?_⟩
    obtain ⟨ps, cells, hps, hRps, hGps⟩ := hat_ k (by omega) ad (by first | exact had | (rw [Int.toNat_natCast] at had; exact had))
    clear had hat_ hs_
    obtain ⟨A', c', rfl, hS⟩ := kPrs_R hRps
    have hcap2 := hS.cap
    replace hstep := hstep ps hps
    have hall := Nat.le_trans (encI_mono l (k + 1)) hE0
    rw [hstep, List.length_append, List.length_append] at hall
    have hpl : 2 * ps.length ≤ (encPrs ps).length := encL_len 2 encPr_len ps0 ps
    repeat' ((fail_if_success with_reducible refine Stop.mk ?_); (conv => whnf); with_reducible first | refine br_t ?_ | refine br_f ?_ | refine br_nn ?_ | refine br_ns ?_ | refine br_not ?_ | refine br_d (fun h => ?_) (fun h => ?_) | refine br_e (fun h => ?_) (fun h => ?_) | refine br_n (fun h => ?_) (fun h => ?_) | refine drw (by kernel_rfl) ?_ | refine chk (by kernel_rfl) ?_ | refine stop ?_)
    all_goals refine Stop.mk ?_
    refine ⟨_, ld1 hGps, ?_⟩
    repeat' ((fail_if_success with_reducible refine Stop.mk ?_); (conv => whnf); with_reducible first | refine br_t ?_ | refine br_f ?_ | refine br_nn ?_ | refine br_ns ?_ | refine br_not ?_ | refine br_d (fun h => ?_) (fun h => ?_) | refine br_e (fun h => ?_) (fun h => ?_) | refine br_n (fun h => ?_) (fun h => ?_) | refine drw (by kernel_rfl) ?_ | refine chk (by kernel_rfl) ?_ | refine stop ?_)
    all_goals refine Stop.mk ?_
    refine call_fn [0] (r19put_fn _ (encI (l.take k)) ps.length (by omega)) rfl ⟨rfl, trivial⟩ (by decide) ?_
    rintro sv H' G' ⟨rfl, rfl, rfl⟩ -
    refine ⟨Nat.le_of_ble_eq_true rfl, ?_⟩
    rw [pU_nat' _ (by omega)]
    have hpl2 := putB_len ps.length
    generalize hW : encI (l.take k) ++ putB ps.length = W at *
    have hWl : W.length + (encPrs ps).length ≤ 700000 := by rw [← hW, List.length_append]; omega
    repeat' ((fail_if_success with_reducible refine Stop.mk ?_); (conv => whnf); with_reducible first | refine br_t ?_ | refine br_f ?_ | refine br_nn ?_ | refine br_ns ?_ | refine br_not ?_ | refine br_d (fun h => ?_) (fun h => ?_) | refine br_e (fun h => ?_) (fun h => ?_) | refine br_n (fun h => ?_) (fun h => ?_) | refine drw (by kernel_rfl) ?_ | refine chk (by kernel_rfl) ?_ | refine stop ?_)
    all_goals refine Stop.mk ?_
    refine loop_opq fun K0 hK0 => ?_
    refine loop_vars follows [(11, (.cons 0 [] (.cons 1 [] (.cons 2 [] (.cons 4 [] (.cons 5 [] (.cons 3 [2] (.cons 6 [2, 5] (.cons 7 [] .nil)))))))))] (α := Nat) (fun x => [(3, .s 0), (5, .v (.int .i64 x)), (20, .dead)]) (fun x => [.row 5 1 (W ++ encPrs (ps.take x)).length (byts (W ++ encPrs (ps.take x)))]) (fun x => G') (fun x => x ≤ ps.length) (fun x => ps.length - x) 0
      (Nat.zero_le _) (by simp [encPrs, encL]) rfl ?_ ?_
    ·
      refine ⟨?_⟩
      (conv => whnf)
      (repeat' (first | exact trivial | exact .inl rfl | exact .inr rfl | refine And.intro ?_ ?_))
    intro j hj
    have hw3 : IntKind.i64.wrap ((j : Int) + 1) = ((j + 1 : Nat) : Int) := by rw [i64_in (by omega) (by omega)]; simp
    have hpre := encPrs_take ps j
    have hpl3 : (W ++ encPrs (ps.take j)).length ≤ 720010 := by
      have := encPrs_mono ps j
      rw [List.length_append]; omega
    generalize hV : W ++ encPrs (ps.take j) = V at *
    repeat' ((fail_if_success with_reducible refine Stop.mk ?_); (conv => whnf); with_reducible first | refine br_t ?_ | refine br_f ?_ | refine br_nn ?_ | refine br_ns ?_ | refine br_not ?_ | refine br_d (fun h => ?_) (fun h => ?_) | refine br_e (fun h => ?_) (fun h => ?_) | refine br_n (fun h => ?_) (fun h => ?_) | refine drw (by kernel_rfl) ?_ | refine chk (by kernel_rfl) ?_ | refine stop ?_)
    all_goals refine Stop.mk ?_
    obtain ⟨_, hs_, hat_⟩ := hl.at (sz := 1) rfl
    refine ⟨⟨by omega, by omega⟩, _, hs_, fun ad had => ?_⟩
    obtain ⟨u, cells, hu, hRu, hGu⟩ := hat_ k (by omega) ad (by first | exact had | (rw [Int.toNat_natCast] at had; exact had))
    clear had hat_ hs_
    obtain ⟨Au, cu, rfl, Su⟩ := kPrs_R hRu
    obtain rfl := Option.some.inj (hps.symm.trans hu)
    repeat' ((fail_if_success with_reducible refine Stop.mk ?_); (conv => whnf); with_reducible first | refine br_t ?_ | refine br_f ?_ | refine br_nn ?_ | refine br_ns ?_ | refine br_not ?_ | refine br_d (fun h => ?_) (fun h => ?_) | refine br_e (fun h => ?_) (fun h => ?_) | refine br_n (fun h => ?_) (fun h => ?_) | refine drw (by kernel_rfl) ?_ | refine chk (by kernel_rfl) ?_ | refine stop ?_)
    all_goals refine Stop.mk ?_
    refine ⟨_, ld1 hGu, ?_⟩
    repeat' ((fail_if_success with_reducible refine Stop.mk ?_); (conv => whnf); with_reducible first | refine br_t ?_ | refine br_f ?_ | refine br_nn ?_ | refine br_ns ?_ | refine br_not ?_ | refine br_d (fun h => ?_) (fun h => ?_) | refine br_e (fun h => ?_) (fun h => ?_) | refine br_n (fun h => ?_) (fun h => ?_) | refine drw (by kernel_rfl) ?_ | refine chk (by kernel_rfl) ?_ | refine stop ?_)
    all_goals refine Stop.mk ?_
    ·
      obtain ⟨_, hs_, hat_⟩ := hl.at (sz := 1) rfl
      refine ⟨⟨by omega, by omega⟩, _, hs_, fun ad had => ?_⟩
      obtain ⟨w, cells, hw, hRw, hGw⟩ := hat_ k (by omega) ad (by first | exact had | (rw [Int.toNat_natCast] at had; exact had))
      clear had hat_ hs_
      obtain ⟨Aw, cw, rfl, Sw⟩ := kPrs_R hRw
      obtain rfl := Option.some.inj (hps.symm.trans hw)
      repeat' ((fail_if_success with_reducible refine Stop.mk ?_); (conv => whnf); with_reducible first | refine br_t ?_ | refine br_f ?_ | refine br_nn ?_ | refine br_ns ?_ | refine br_not ?_ | refine br_d (fun h => ?_) (fun h => ?_) | refine br_e (fun h => ?_) (fun h => ?_) | refine br_n (fun h => ?_) (fun h => ?_) | refine drw (by kernel_rfl) ?_ | refine chk (by kernel_rfl) ?_ | refine stop ?_)
      all_goals refine Stop.mk ?_
      refine ⟨_, ld1 hGw, ?_⟩
      repeat' ((fail_if_success with_reducible refine Stop.mk ?_); (conv => whnf); with_reducible first | refine br_t ?_ | refine br_f ?_ | refine br_nn ?_ | refine br_ns ?_ | refine br_not ?_ | refine br_d (fun h => ?_) (fun h => ?_) | refine br_e (fun h => ?_) (fun h => ?_) | refine br_n (fun h => ?_) (fun h => ?_) | refine drw (by kernel_rfl) ?_ | refine chk (by kernel_rfl) ?_ | refine stop ?_)
      all_goals refine Stop.mk ?_
      obtain ⟨_, hs_, hat_⟩ := Sw.at (sz := 2) rfl
      refine ⟨⟨by omega, by omega⟩, _, hs_, fun ad had => ?_⟩
      obtain ⟨p, cells, hp, hRp, hGp⟩ := hat_ j (by omega) ad (by first | exact had | (rw [Int.toNat_natCast] at had; exact had))
      clear had hat_ hs_
      obtain ⟨rfl, hp1, hp2⟩ := hRp
      replace hpre := hpre p hp
      have hnxt := stK_next ps j p hp
      have hcap3 := Sw.cap
      repeat' ((fail_if_success with_reducible refine Stop.mk ?_); (conv => whnf); with_reducible first | refine br_t ?_ | refine br_f ?_ | refine br_nn ?_ | refine br_ns ?_ | refine br_not ?_ | refine br_d (fun h => ?_) (fun h => ?_) | refine br_e (fun h => ?_) (fun h => ?_) | refine br_n (fun h => ?_) (fun h => ?_) | refine drw (by kernel_rfl) ?_ | refine chk (by kernel_rfl) ?_ | refine stop ?_)
      all_goals refine Stop.mk ?_
      refine ⟨_, rfl, hGp, ?_⟩
      repeat' ((fail_if_success with_reducible refine Stop.mk ?_); (conv => whnf); with_reducible first | refine br_t ?_ | refine br_f ?_ | refine br_nn ?_ | refine br_ns ?_ | refine br_not ?_ | refine br_d (fun h => ?_) (fun h => ?_) | refine br_e (fun h => ?_) (fun h => ?_) | refine br_n (fun h => ?_) (fun h => ?_) | refine drw (by kernel_rfl) ?_ | refine chk (by kernel_rfl) ?_ | refine stop ?_)
      all_goals refine Stop.mk ?_
      · have hj0 : j = 0 := by omega
        subst hj0
        refine call_fn [0] (r19put_fn _ V p.v (by omega)) rfl ⟨rfl, trivial⟩ (by decide) ?_
        rintro sv H' G' ⟨rfl, rfl, rfl⟩ -
        refine ⟨Nat.le_of_ble_eq_true rfl, ?_⟩
        have hplv := pU_len p.v
        repeat' ((fail_if_success with_reducible refine Stop.mk ?_); (conv => whnf); with_reducible first | refine br_t ?_ | refine br_f ?_ | refine br_nn ?_ | refine br_ns ?_ | refine br_not ?_ | refine br_d (fun h => ?_) (fun h => ?_) | refine br_e (fun h => ?_) (fun h => ?_) | refine br_n (fun h => ?_) (fun h => ?_) | refine drw (by kernel_rfl) ?_ | refine chk (by kernel_rfl) ?_ | refine stop ?_)
        all_goals refine Stop.mk ?_
        refine call_fn [0] (r19put_fn _ (V ++ pU p.v) p.l (by rw [List.length_append]; omega)) rfl ⟨rfl, trivial⟩ (by decide) ?_
        rintro sv H' G' ⟨rfl, rfl, rfl⟩ -
        refine ⟨Nat.le_of_ble_eq_true rfl, ?_⟩
        repeat' ((fail_if_success with_reducible refine Stop.mk ?_); (conv => whnf); with_reducible first | refine br_t ?_ | refine br_f ?_ | refine br_nn ?_ | refine br_ns ?_ | refine br_not ?_ | refine br_d (fun h => ?_) (fun h => ?_) | refine br_e (fun h => ?_) (fun h => ?_) | refine br_n (fun h => ?_) (fun h => ?_) | refine drw (by kernel_rfl) ?_ | refine chk (by kernel_rfl) ?_ | refine stop ?_)
        all_goals refine Stop.mk ?_
        rw [hw3]
        refine tell_gc hE [0] rfl rfl ?_
        (conv => whnf)
        refine tell_here ⟨0 + 1, by show 0 + 1 ≤ _; omega, by show ps.length - (0 + 1) < ps.length - 0; omega, ?_, rfl, ?_⟩
        · have e : W ++ (encPrs (ps.take 0) ++ encPr (stK ps 0) p) = V ++ pU p.v ++ pU p.l := by
            rw [← hV]
            simp [encPr, stK, ps0, pr0]
          rw [hpre, e]
        ·
          refine ⟨?_⟩
          (conv => whnf)
          (repeat' (first | exact trivial | exact .inl rfl | exact .inr rfl | refine And.intro ?_ ?_))
      · obtain ⟨j', rfl⟩ : ∃ j', j = j' + 1 := ⟨j - 1, by omega⟩
        have hw4 : IntKind.i64.wrap (((j' + 1 : Nat) : Int) - 1) = (j' : Int) := by rw [i64_in (by omega) (by omega)]; omega
        obtain ⟨_, hs_, hat_⟩ := hl.at (sz := 1) rfl
        refine ⟨⟨by omega, by omega⟩, _, hs_, fun ad had => ?_⟩
        obtain ⟨z, cells, hz, hRz, hGz⟩ := hat_ k (by omega) ad (by first | exact had | (rw [Int.toNat_natCast] at had; exact had))
        clear had hat_ hs_
        obtain ⟨Az, cz, rfl, Sz⟩ := kPrs_R hRz
        obtain rfl := Option.some.inj (hps.symm.trans hz)
        repeat' ((fail_if_success with_reducible refine Stop.mk ?_); (conv => whnf); with_reducible first | refine br_t ?_ | refine br_f ?_ | refine br_nn ?_ | refine br_ns ?_ | refine br_not ?_ | refine br_d (fun h => ?_) (fun h => ?_) | refine br_e (fun h => ?_) (fun h => ?_) | refine br_n (fun h => ?_) (fun h => ?_) | refine drw (by kernel_rfl) ?_ | refine chk (by kernel_rfl) ?_ | refine stop ?_)
        all_goals refine Stop.mk ?_
        refine ⟨_, ld1 hGz, ?_⟩
        repeat' ((fail_if_success with_reducible refine Stop.mk ?_); (conv => whnf); with_reducible first | refine br_t ?_ | refine br_f ?_ | refine br_nn ?_ | refine br_ns ?_ | refine br_not ?_ | refine br_d (fun h => ?_) (fun h => ?_) | refine br_e (fun h => ?_) (fun h => ?_) | refine br_n (fun h => ?_) (fun h => ?_) | refine drw (by kernel_rfl) ?_ | refine chk (by kernel_rfl) ?_ | refine stop ?_)
        all_goals refine Stop.mk ?_
        rw [hw4]
        obtain ⟨_, hs_, hat_⟩ := Sz.at (sz := 2) rfl
        refine ⟨⟨by omega, by omega⟩, _, hs_, fun ad had => ?_⟩
        obtain ⟨q, cells, hq, hRq, hGq⟩ := hat_ j' (by omega) ad (by first | exact had | (rw [Int.toNat_natCast] at had; exact had))
        clear had hat_ hs_
        obtain ⟨rfl, hq1, hq2⟩ := hRq
        have hst := stK_next ps j' q hq
        rw [hst] at hpre
        repeat' ((fail_if_success with_reducible refine Stop.mk ?_); (conv => whnf); with_reducible first | refine br_t ?_ | refine br_f ?_ | refine br_nn ?_ | refine br_ns ?_ | refine br_not ?_ | refine br_d (fun h => ?_) (fun h => ?_) | refine br_e (fun h => ?_) (fun h => ?_) | refine br_n (fun h => ?_) (fun h => ?_) | refine drw (by kernel_rfl) ?_ | refine chk (by kernel_rfl) ?_ | refine stop ?_)
        all_goals refine Stop.mk ?_
        refine ⟨_, rfl, hGq, ?_⟩
        repeat' ((fail_if_success with_reducible refine Stop.mk ?_); (conv => whnf); with_reducible first | refine br_t ?_ | refine br_f ?_ | refine br_nn ?_ | refine br_ns ?_ | refine br_not ?_ | refine br_d (fun h => ?_) (fun h => ?_) | refine br_e (fun h => ?_) (fun h => ?_) | refine br_n (fun h => ?_) (fun h => ?_) | refine drw (by kernel_rfl) ?_ | refine chk (by kernel_rfl) ?_ | refine stop ?_)
        all_goals refine Stop.mk ?_
        refine call_fn [0] (r19put_fn _ V (IntKind.i64.wrap (p.v - q.v)) (by omega)) rfl ⟨rfl, trivial⟩ (by decide) ?_
        rintro sv H' G' ⟨rfl, rfl, rfl⟩ -
        refine ⟨Nat.le_of_ble_eq_true rfl, ?_⟩
        rw [pU_wrap]
        have hplv := pU_len (p.v - q.v)
        repeat' ((fail_if_success with_reducible refine Stop.mk ?_); (conv => whnf); with_reducible first | refine br_t ?_ | refine br_f ?_ | refine br_nn ?_ | refine br_ns ?_ | refine br_not ?_ | refine br_d (fun h => ?_) (fun h => ?_) | refine br_e (fun h => ?_) (fun h => ?_) | refine br_n (fun h => ?_) (fun h => ?_) | refine drw (by kernel_rfl) ?_ | refine chk (by kernel_rfl) ?_ | refine stop ?_)
        all_goals refine Stop.mk ?_
        · have hvq : p.v = q.v := by assumption
          refine call_fn [0] (r19put_fn _ (V ++ pU (p.v - q.v)) _ (by rw [List.length_append]; omega)) rfl ⟨rfl, trivial⟩ (by decide) ?_
          rintro sv H' G' ⟨rfl, rfl, rfl⟩ -
          refine ⟨Nat.le_of_ble_eq_true rfl, ?_⟩
          rw [pU_wrap2]
          repeat' ((fail_if_success with_reducible refine Stop.mk ?_); (conv => whnf); with_reducible first | refine br_t ?_ | refine br_f ?_ | refine br_nn ?_ | refine br_ns ?_ | refine br_not ?_ | refine br_d (fun h => ?_) (fun h => ?_) | refine br_e (fun h => ?_) (fun h => ?_) | refine br_n (fun h => ?_) (fun h => ?_) | refine drw (by kernel_rfl) ?_ | refine chk (by kernel_rfl) ?_ | refine stop ?_)
          all_goals refine Stop.mk ?_
          rw [hw3]
          refine tell_gc hE [0] rfl rfl ?_
          (conv => whnf)
          refine tell_here ⟨j' + 1 + 1, by show j' + 1 + 1 ≤ _; omega, by show ps.length - (j' + 1 + 1) < ps.length - (j' + 1); omega, ?_, rfl, ?_⟩
          · have e : W ++ (encPrs (ps.take (j' + 1)) ++ encPr (false, q) p) = V ++ pU (p.v - q.v) ++ pU (p.l - q.l - 1) := by
              rw [← hV]
              unfold encPr
              dsimp only
              rw [if_neg (by rintro (h9 | h9)
                             · exact absurd h9 (by decide)
                             · exact h9 hvq)]
              simp only [List.append_assoc]
            rw [hpre, e]
          ·
            refine ⟨?_⟩
            (conv => whnf)
            (repeat' (first | exact trivial | exact .inl rfl | exact .inr rfl | refine And.intro ?_ ?_))
        · have hvq : p.v ≠ q.v := by assumption
          refine call_fn [0] (r19put_fn _ (V ++ pU (p.v - q.v)) _ (by rw [List.length_append]; omega)) rfl ⟨rfl, trivial⟩ (by decide) ?_
          rintro sv H' G' ⟨rfl, rfl, rfl⟩ -
          refine ⟨Nat.le_of_ble_eq_true rfl, ?_⟩
          repeat' ((fail_if_success with_reducible refine Stop.mk ?_); (conv => whnf); with_reducible first | refine br_t ?_ | refine br_f ?_ | refine br_nn ?_ | refine br_ns ?_ | refine br_not ?_ | refine br_d (fun h => ?_) (fun h => ?_) | refine br_e (fun h => ?_) (fun h => ?_) | refine br_n (fun h => ?_) (fun h => ?_) | refine drw (by kernel_rfl) ?_ | refine chk (by kernel_rfl) ?_ | refine stop ?_)
          all_goals refine Stop.mk ?_
          rw [hw3]
          refine tell_gc hE [0] rfl rfl ?_
          (conv => whnf)
          refine tell_here ⟨j' + 1 + 1, by show j' + 1 + 1 ≤ _; omega, by show ps.length - (j' + 1 + 1) < ps.length - (j' + 1); omega, ?_, rfl, ?_⟩
          · have e : W ++ (encPrs (ps.take (j' + 1)) ++ encPr (false, q) p) = V ++ pU (p.v - q.v) ++ pU p.l := by
              rw [← hV]
              unfold encPr
              dsimp only
              rw [if_pos (.inr hvq)]
              simp only [List.append_assoc]
            rw [hpre, e]
          ·
            refine ⟨?_⟩
            (conv => whnf)
            (repeat' (first | exact trivial | exact .inl rfl | exact .inr rfl | refine And.intro ?_ ?_))
    · obtain rfl : j = ps.length := by omega
      refine Stop.mk (hK0 _ _ ?_)
      clear hK0
      repeat' ((fail_if_success with_reducible refine Stop.mk ?_); (conv => whnf); with_reducible first | refine br_t ?_ | refine br_f ?_ | refine br_nn ?_ | refine br_ns ?_ | refine br_not ?_ | refine br_d (fun h => ?_) (fun h => ?_) | refine br_e (fun h => ?_) (fun h => ?_) | refine br_n (fun h => ?_) (fun h => ?_) | refine drw (by kernel_rfl) ?_ | refine chk (by kernel_rfl) ?_ | refine stop ?_)
      all_goals refine Stop.mk ?_
      rw [hw2]
      refine tell_gc hE [0] rfl rfl ?_
      (conv => whnf)
      refine tell_here ⟨(k + 1, _), ⟨by show k + 1 ≤ _; omega, hl⟩, by show l.length - (k + 1) < l.length - k; omega, ?_, rfl, ?_⟩
      · dsimp only
        rw [hstep, ← hV, ← hW, List.take_length]
        simp only [List.append_assoc]
      ·
        refine ⟨?_⟩
        (conv => whnf)
        (repeat' (first | exact trivial | exact .inl rfl | exact .inr rfl | refine And.intro ?_ ?_))
  · obtain rfl : k = l.length := by omega
    rw [List.take_length]
    refine fin_done 0 rfl (byts_one _) fun A2 c2 G2 hg hs => fin_id hE 0 rfl rfl rfl rfl ⟨⟨A2, c2, rfl, hs⟩, rfl⟩
end Go.Proofs.Ytkhajngpcgmpnaa.Cu

namespace Go.Proofs.Ytkhajngpcgmpnaa.Cu
open Go Go.SX Go.Proofs.Ytkhajngpcgmpnaa.VT
set_option maxRecDepth 100000
set_option linter.unusedVariables false
set_option linter.unusedSimpArgs false

def ltP (a b : Pr) : Prop := a.v < b.v ∨ (a.v = b.v ∧ a.l < b.l)
instance (a b : Pr) : Decidable (ltP a b) := inferInstanceAs (Decidable (_ ∨ _))
def tot : List (List Pr) → Nat
  | [] => 0
  | x :: xs => x.length + tot xs
theorem tot_take : ∀ (l : List (List Pr)) (k : Nat) (x : List Pr), l[k]? = some x → tot (l.take (k + 1)) = tot (l.take k) + x.length
  | [], k, x, h => by simp at h
  | y :: l, 0, x, h => by simp at h; subst h; simp [tot]
  | y :: l, k + 1, x, h => by
    have := tot_take l k x (by simpa using h)
    simp only [List.take_succ_cons, tot, this]; omega
theorem tot_le : ∀ (l : List (List Pr)) (k : Nat), tot (l.take k) ≤ tot l
  | [], k => by simp
  | y :: l, 0 => by simp [tot]
  | y :: l, k + 1 => by have := tot_le l k; simp only [List.take_succ_cons, tot]; omega
theorem okInv_iff (vregs regs slots : Int) : ∀ (l : List (List Pr)) (t : Int), 0 ≤ t → (okL (okBlk vregs regs slots) nxT t l ↔ ((l = [] ∨ t + tot l ≤ 1048576) ∧ ∀ x ∈ l, okPrs vregs regs slots x))
  | [], t, _ => by simp [okL]
  | x :: l, t, ht => by
    have h := okInv_iff vregs regs slots l (nxT t x) (by unfold nxT; omega)
    simp only [okL, tot]
    rw [h]
    unfold okBlk nxT
    constructor
    · rintro ⟨⟨h1, h2⟩, h3, h4⟩
      refine ⟨.inr ?_, ?_⟩
      · rcases h3 with rfl | h3
        · simp [tot]; omega
        · push_cast; omega
      · intro y hy
        rcases List.mem_cons.1 hy with rfl | hy
        · exact h2
        · exact h4 y hy
    · rintro ⟨h1, h2⟩
      have h1' : t + ((x.length + tot l : Nat) : Int) ≤ 1048576 := by
        rcases h1 with h1 | h1
        · simp at h1
        · exact h1
      exact ⟨⟨by omega, h2 x (by simp)⟩, .inr (by omega), fun y hy => h2 y (by simp [hy])⟩
theorem okInv_tot (vregs regs slots : Int) (l : List (List Pr)) : okInv vregs regs slots l ↔ (tot l ≤ 1048576 ∧ ∀ x ∈ l, okPrs vregs regs slots x) := by
  unfold okInv
  rw [okInv_iff vregs regs slots l 0 (Int.le_refl _)]
  constructor
  · rintro ⟨h1, h2⟩
    refine ⟨?_, h2⟩
    rcases h1 with rfl | h1
    · simp [tot]
    · omega
  · rintro ⟨h1, h2⟩
    exact ⟨.inr (by omega), h2⟩
/-- What is checked of the pair at j. -/
def chkP (vregs regs slots : Int) (ps : List Pr) (j : Nat) (x : Pr) : Prop := (0 ≤ x.v ∧ x.v < vregs) ∧ inRange x.l regs slots ∧ (0 < j → ltP (ps.getD (j - 1) pr0) x)
theorem okL_ix {vregs regs slots : Int} : ∀ (ps : List Pr) (s : PS), okL (okPr vregs regs slots) nxP s ps ↔ ∀ j x, ps[j]? = some x → okPr vregs regs slots (if j = 0 then s else (false, ps.getD (j - 1) pr0)) x
  | [], s => by simp [okL]
  | p :: ps, s => by
    simp only [okL]
    rw [okL_ix ps (nxP s p)]
    constructor
    · rintro ⟨h1, h2⟩ j x hx
      cases j with
      | zero => simp at hx; subst hx; simpa using h1
      | succ j =>
        have := h2 j x (by simpa using hx)
        rw [if_neg (by omega)]
        cases j with
        | zero => simpa [nxP] using this
        | succ j => simpa using this
    · intro h
      refine ⟨by simpa using h 0 p (by simp), fun j x hx => ?_⟩
      have := h (j + 1) x (by simpa using hx)
      rw [if_neg (by omega)] at this
      cases j with
      | zero => simpa [nxP] using this
      | succ j => simpa using this
theorem okPrs_ix (vregs regs slots : Int) (ps : List Pr) : okPrs vregs regs slots ps ↔ ∀ j x, ps[j]? = some x → chkP vregs regs slots ps j x := by
  unfold okPrs
  rw [okL_ix]
  constructor
  · intro h
    have hv : ∀ (j : Nat) (x : Pr), ps[j]? = some x → 0 ≤ x.v := by
      intro j
      induction j with
      | zero =>
        intro x hx
        exact (h 0 x hx).1
      | succ j ih =>
        intro x hx
        have h1 := (h (j + 1) x hx).1
        rw [if_neg (by omega)] at h1
        have hj : j < ps.length := by have := (List.getElem?_eq_some_iff.1 hx).1; omega
        have h2 := ih ps[j] (List.getElem?_eq_getElem hj)
        have h3 : ps.getD (j + 1 - 1) pr0 = ps[j] := by rw [Nat.add_sub_cancel, List.getD_eq_getElem?_getD, List.getElem?_eq_getElem hj]; rfl
        rw [h3] at h1
        dsimp only at h1
        omega
    intro j x hx
    obtain ⟨h1, h2, h3, h4⟩ := h j x hx
    refine ⟨⟨hv j x hx, h2⟩, h3, fun hj => ?_⟩
    rw [if_neg (by omega)] at h1 h4
    dsimp only at h1 h4
    have h5 := h4 rfl
    unfold ltP
    rcases Int.lt_or_eq_of_le h1 with h6 | h6
    · exact .inl h6
    · exact .inr ⟨h6, h5 h6.symm⟩
  · intro h j x hx
    obtain ⟨⟨h1, h2⟩, h3, h4⟩ := h j x hx
    by_cases hj : j = 0
    · rw [if_pos hj]
      exact ⟨h1, h2, h3, fun h9 => absurd h9 (by decide)⟩
    · rw [if_neg hj]
      have h5 := h4 (by omega)
      unfold ltP at h5
      refine ⟨?_, h2, h3, fun _ h9 => ?_⟩ <;> dsimp only at * <;> omega
theorem rless_fn (G : Gh) (a b : Pr) : Ct Try.prog 95 [a.sv, b.sv] [] G fun sv H' G' => sv = .v (.bool (decide (ltP a b))) ∧ H' = [] ∧ G' = G := by
  refine fn_of follows [] Try.func95 rfl rfl fun E hE => ?_
  repeat' ((fail_if_success with_reducible refine Stop.mk ?_); (conv => whnf); with_reducible first | refine br_t ?_ | refine br_f ?_ | refine br_nn ?_ | refine br_ns ?_ | refine br_not ?_ | refine br_d (fun h => ?_) (fun h => ?_) | refine br_e (fun h => ?_) (fun h => ?_) | refine br_n (fun h => ?_) (fun h => ?_) | refine drw (by kernel_rfl) ?_ | refine chk (by kernel_rfl) ?_ | refine stop ?_)
  all_goals refine Stop.mk ?_
  all_goals
    refine fin_id hE 0 rfl rfl rfl rfl ⟨congrArg (fun b => SV.v (.bool b)) ?_, rfl, rfl⟩
    refine bdec ?_
    simp only [decide_eq_true_iff, ltP]
    omega
theorem rfew15_fn (G : Gh) (A : Option Addr) (c : Nat) (l : List (List Pr)) (hl : kPrs.S G A c l) :
    Ct Try.prog 36 [.v (.slice A l.length c)] [] G fun sv H' G' => (∃ r, sv = .v (.bool r) ∧ (r = true → l.length ≤ 40 ∧ ∀ x ∈ l, x.length ≤ 400)) ∧ H' = [] ∧ G' = G := by
  refine fn_of follows [] Try.func36 rfl rfl fun E hE => ?_
  have hcap := hl.cap
  repeat' ((fail_if_success with_reducible refine Stop.mk ?_); (conv => whnf); with_reducible first | refine br_t ?_ | refine br_f ?_ | refine br_nn ?_ | refine br_ns ?_ | refine br_not ?_ | refine br_d (fun h => ?_) (fun h => ?_) | refine br_e (fun h => ?_) (fun h => ?_) | refine br_n (fun h => ?_) (fun h => ?_) | refine drw (by kernel_rfl) ?_ | refine chk (by kernel_rfl) ?_ | refine stop ?_)
  all_goals refine Stop.mk ?_
  refine loop_vars follows [] (α := Nat) (fun k => [(3, .v (.int .i64 k))]) (fun x => []) (fun x => G) (fun k => k ≤ l.length ∧ k ≤ 41 ∧ ∀ x ∈ l.take k, x.length ≤ 400) (fun k => l.length - k) 0
    ⟨Nat.zero_le _, Nat.zero_le _, by simp⟩ rfl rfl ?_ ?_
  ·
    refine ⟨?_⟩
    (conv => whnf)
    (repeat' (first | exact trivial | exact .inl rfl | exact .inr rfl | refine And.intro ?_ ?_))
  intro k hI
  obtain ⟨hk, hk2, hall⟩ := hI
  have hw2 : IntKind.i64.wrap ((k : Int) + 1) = ((k + 1 : Nat) : Int) := by rw [i64_in (by omega) (by omega)]; simp
  repeat' ((fail_if_success with_reducible refine Stop.mk ?_); (conv => whnf); with_reducible first | refine br_t ?_ | refine br_f ?_ | refine br_nn ?_ | refine br_ns ?_ | refine br_not ?_ | refine br_d (fun h => ?_) (fun h => ?_) | refine br_e (fun h => ?_) (fun h => ?_) | refine br_n (fun h => ?_) (fun h => ?_) | refine drw (by kernel_rfl) ?_ | refine chk (by kernel_rfl) ?_ | refine stop ?_)
  all_goals refine Stop.mk ?_
  all_goals try
    obtain ⟨_, hs_, hat_⟩ := hl.at (sz := 1) rfl
    refine ⟨⟨by omega, by omega⟩, _, hs_, fun ad had => ?_⟩
    obtain ⟨ps, cells, hps, hRps, hGps⟩ := hat_ k (by omega) ad (by first | exact had | (rw [Int.toNat_natCast] at had; exact had))
    clear had hat_ hs_
    obtain ⟨A', c', rfl, hS⟩ := kPrs_R hRps
    repeat' ((fail_if_success with_reducible refine Stop.mk ?_); (conv => whnf); with_reducible first | refine br_t ?_ | refine br_f ?_ | refine br_nn ?_ | refine br_ns ?_ | refine br_not ?_ | refine br_d (fun h => ?_) (fun h => ?_) | refine br_e (fun h => ?_) (fun h => ?_) | refine br_n (fun h => ?_) (fun h => ?_) | refine drw (by kernel_rfl) ?_ | refine chk (by kernel_rfl) ?_ | refine stop ?_)
    all_goals refine Stop.mk ?_
    refine ⟨_, ld1 hGps, ?_⟩
    repeat' ((fail_if_success with_reducible refine Stop.mk ?_); (conv => whnf); with_reducible first | refine br_t ?_ | refine br_f ?_ | refine br_nn ?_ | refine br_ns ?_ | refine br_not ?_ | refine br_d (fun h => ?_) (fun h => ?_) | refine br_e (fun h => ?_) (fun h => ?_) | refine br_n (fun h => ?_) (fun h => ?_) | refine drw (by kernel_rfl) ?_ | refine chk (by kernel_rfl) ?_ | refine stop ?_)
    all_goals refine Stop.mk ?_
  all_goals try
    refine fin_all ⟨⟨_, rfl, fun h => ?_⟩, rfl, rfl⟩
    first
      | exact absurd h (by decide)
      | (have h40 := of_decide_eq_true h
         obtain rfl : k = l.length := by omega
         rw [List.take_length] at hall
         exact ⟨by omega, hall⟩)
  all_goals
    rw [hw2]
    refine tell_here ⟨k + 1, ⟨by omega, by omega, ?_⟩, by show l.length - (k + 1) < l.length - k; omega, rfl, rfl, ?_⟩
    · intro x hx
      rw [List.take_add_one, hps] at hx
      rcases List.mem_append.1 hx with hx | hx
      · exact hall x hx
      · simp at hx; subst hx; omega
    ·
      refine ⟨?_⟩
      (conv => whnf)
      (repeat' (first | exact trivial | exact .inl rfl | exact .inr rfl | refine And.intro ?_ ?_))
/-- What Valid accepts. -/
def validI (blocks vregs regs slots : Int) (l : List (List Pr)) : Prop := (l.length : Int) = blocks ∧ okInv vregs regs slots l
set_option maxHeartbeats 8000000 in
theorem valid15_fn (G : Gh) (A : Option Addr) (c : Nat) (l : List (List Pr)) (blocks vregs regs slots : Int) (hl : kPrs.S G A c l) (hbig : l.length ≤ 1000000 ∧ ∀ x ∈ l, x.length ≤ 1000000000) :
    Ct Try.prog 67 [.v (.slice A l.length c), .v (.int .i64 blocks), .v (.int .i64 vregs), .v (.int .i64 regs), .v (.int .i64 slots)] [] G fun sv H' G' => ∃ e : Int, sv = .v (.int .i64 e) ∧ (e = 0 ↔ validI blocks vregs regs slots l) ∧ H' = [] ∧ G' = G := by
  refine fn_of follows [(21, (.cons 0 [] (.cons 1 [] (.cons 2 [] (.cons 3 [] (.cons 4 [] (.cons 5 [] (.cons 6 [] (.cons 7 [] (.cons 8 [] (.cons 9 [] (.cons 10 [] (.cons 11 [] (.cons 12 [6, 10, 11] (.cons 13 [] (.cons 14 [] .nil))))))))))))))))] Try.func67 rfl rfl fun E hE => ?_
  have hcap := hl.cap
  have hiff := okInv_tot vregs regs slots l
  have hix := okPrs_ix vregs regs slots
  repeat' ((fail_if_success with_reducible refine Stop.mk ?_); (conv => whnf); with_reducible first | refine br_t ?_ | refine br_f ?_ | refine br_nn ?_ | refine br_ns ?_ | refine br_not ?_ | refine br_d (fun h => ?_) (fun h => ?_) | refine br_e (fun h => ?_) (fun h => ?_) | refine br_n (fun h => ?_) (fun h => ?_) | refine drw (by kernel_rfl) ?_ | refine chk (by kernel_rfl) ?_ | refine stop ?_)
  all_goals refine Stop.mk ?_
  rotate_left
  · refine fin_all ⟨_, rfl, ⟨fun h9 => absurd h9 (by decide), fun h9 => ?_⟩, rfl, rfl⟩
    exact absurd h9.1 (by assumption)
  refine loop_vars follows [(21, (.cons 0 [] (.cons 1 [] (.cons 2 [] (.cons 3 [] (.cons 4 [] (.cons 5 [] (.cons 6 [] (.cons 7 [] (.cons 8 [] (.cons 9 [] (.cons 10 [] (.cons 11 [] (.cons 12 [6, 10, 11] (.cons 13 [] (.cons 14 [] .nil))))))))))))))))] (α := Nat) (fun k => [(11, .v (.int .i64 (tot (l.take k)))), (12, .v (.int .i64 k))]) (fun x => []) (fun x => G) (fun k => k ≤ l.length ∧ tot (l.take k) ≤ 1048576) (fun k => l.length - k) 0
    ⟨Nat.zero_le _, by simp [tot]⟩ rfl rfl ?_ ?_
  ·
    refine ⟨?_⟩
    (conv => whnf)
    (repeat' (first | exact trivial | exact .inl rfl | exact .inr rfl | refine And.intro ?_ ?_))
  intro k hI
  obtain ⟨hk, htk⟩ := hI
  have hw2 : IntKind.i64.wrap ((k : Int) + 1) = ((k + 1 : Nat) : Int) := by rw [i64_in (by omega) (by omega)]; simp
  have htt := tot_take l k
  have htl := tot_le l (k + 1)
  repeat' ((fail_if_success with_reducible refine Stop.mk ?_); (conv => whnf); with_reducible first | refine br_t ?_ | refine br_f ?_ | refine br_nn ?_ | refine br_ns ?_ | refine br_not ?_ | refine br_d (fun h => ?_) (fun h => ?_) | refine br_e (fun h => ?_) (fun h => ?_) | refine br_n (fun h => ?_) (fun h => ?_) | refine drw (by kernel_rfl) ?_ | refine chk (by kernel_rfl) ?_ | refine stop ?_)
  all_goals refine Stop.mk ?_
  ·
    obtain ⟨_, hs_, hat_⟩ := hl.at (sz := 1) rfl
    refine ⟨⟨by omega, by omega⟩, _, hs_, fun ad had => ?_⟩
    obtain ⟨ps, cells, hps, hRps, hGps⟩ := hat_ k (by omega) ad (by first | exact had | (rw [Int.toNat_natCast] at had; exact had))
    clear had hat_ hs_
    obtain ⟨A', c', rfl, hS⟩ := kPrs_R hRps
    have hpl := hbig.2 ps (List.mem_of_getElem? hps)
    replace htt := htt ps hps
    have hw3 : IntKind.i64.wrap ((tot (l.take k) : Int) + (ps.length : Int)) = ((tot (l.take (k + 1)) : Nat) : Int) := by rw [i64_in (by omega) (by omega), htt]; simp
    repeat' ((fail_if_success with_reducible refine Stop.mk ?_); (conv => whnf); with_reducible first | refine br_t ?_ | refine br_f ?_ | refine br_nn ?_ | refine br_ns ?_ | refine br_not ?_ | refine br_d (fun h => ?_) (fun h => ?_) | refine br_e (fun h => ?_) (fun h => ?_) | refine br_n (fun h => ?_) (fun h => ?_) | refine drw (by kernel_rfl) ?_ | refine chk (by kernel_rfl) ?_ | refine stop ?_)
    all_goals refine Stop.mk ?_
    refine ⟨_, ld1 hGps, ?_⟩
    repeat' ((fail_if_success with_reducible refine Stop.mk ?_); (conv => whnf); with_reducible first | refine br_t ?_ | refine br_f ?_ | refine br_nn ?_ | refine br_ns ?_ | refine br_not ?_ | refine br_d (fun h => ?_) (fun h => ?_) | refine br_e (fun h => ?_) (fun h => ?_) | refine br_n (fun h => ?_) (fun h => ?_) | refine drw (by kernel_rfl) ?_ | refine chk (by kernel_rfl) ?_ | refine stop ?_)
    all_goals refine Stop.mk ?_
    all_goals rw [hw3] at h
    · refine fin_all ⟨_, rfl, ⟨fun h9 => absurd h9 (by decide), fun h9 => ?_⟩, rfl, rfl⟩
      have := (hiff.1 h9.2).1
      omega
    · rw [hw2, hw3]
      refine tell_here ⟨k + 1, ⟨by omega, by omega⟩, by show l.length - (k + 1) < l.length - k; omega, rfl, rfl, ?_⟩
      refine ⟨?_⟩
      (conv => whnf)
      (repeat' (first | exact trivial | exact .inl rfl | exact .inr rfl | refine And.intro ?_ ?_))
  · obtain rfl : k = l.length := by omega
    rw [List.take_length] at htk
    clear hw2 htt htl
    refine loop_opq fun K0 hK0 => ?_
    refine loop_vars follows [(21, (.cons 0 [] (.cons 1 [] (.cons 2 [] (.cons 3 [] (.cons 4 [] (.cons 5 [] (.cons 6 [] (.cons 7 [] (.cons 8 [] (.cons 9 [] (.cons 10 [] (.cons 11 [] (.cons 12 [6, 10, 11] (.cons 13 [] (.cons 14 [] .nil))))))))))))))))] (α := Nat) (fun k => [(13, .v (.int .i64 k))]) (fun x => []) (fun x => G) (fun k => k ≤ l.length ∧ ∀ x ∈ l.take k, okPrs vregs regs slots x) (fun k => l.length - k) 0
      ⟨Nat.zero_le _, by simp⟩ rfl rfl ?_ ?_
    ·
      refine ⟨?_⟩
      (conv => whnf)
      (repeat' (first | exact trivial | exact .inl rfl | exact .inr rfl | refine And.intro ?_ ?_))
    intro k hI
    obtain ⟨hk2, hall⟩ := hI
    have hw2 : IntKind.i64.wrap ((k : Int) + 1) = ((k + 1 : Nat) : Int) := by rw [i64_in (by omega) (by omega)]; simp
    repeat' ((fail_if_success with_reducible refine Stop.mk ?_); (conv => whnf); with_reducible first | refine br_t ?_ | refine br_f ?_ | refine br_nn ?_ | refine br_ns ?_ | refine br_not ?_ | refine br_d (fun h => ?_) (fun h => ?_) | refine br_e (fun h => ?_) (fun h => ?_) | refine br_n (fun h => ?_) (fun h => ?_) | refine drw (by kernel_rfl) ?_ | refine chk (by kernel_rfl) ?_ | refine stop ?_)
    all_goals refine Stop.mk ?_
    · have hkl : k < l.length := by omega
      obtain ⟨ps, hps⟩ : ∃ ps, l[k]? = some ps := ⟨_, List.getElem?_eq_getElem hkl⟩
      have hpl := hbig.2 ps (List.mem_of_getElem? hps)
      replace hix := hix ps
      refine loop_opq fun K1 hK1 => ?_
      refine loop_vars follows [(21, (.cons 0 [] (.cons 1 [] (.cons 2 [] (.cons 3 [] (.cons 4 [] (.cons 5 [] (.cons 6 [] (.cons 7 [] (.cons 8 [] (.cons 9 [] (.cons 10 [] (.cons 11 [] (.cons 12 [6, 10, 11] (.cons 13 [] (.cons 14 [] .nil))))))))))))))))] (α := Nat) (fun k => [(14, .v (.int .i64 k))]) (fun x => []) (fun x => G) (fun j => j ≤ ps.length ∧ ∀ i x, i < j → ps[i]? = some x → chkP vregs regs slots ps i x) (fun j => ps.length - j) 0
        ⟨Nat.zero_le _, fun i x h => absurd h (Nat.not_lt_zero _)⟩ rfl rfl ?_ ?_
      ·
        refine ⟨?_⟩
        (conv => whnf)
        (repeat' (first | exact trivial | exact .inl rfl | exact .inr rfl | refine And.intro ?_ ?_))
      intro j hJ
      obtain ⟨hj, hchk⟩ := hJ
      have hw3 : IntKind.i64.wrap ((j : Int) + 1) = ((j + 1 : Nat) : Int) := by rw [i64_in (by omega) (by omega)]; simp
      repeat' ((fail_if_success with_reducible refine Stop.mk ?_); (conv => whnf); with_reducible first | refine br_t ?_ | refine br_f ?_ | refine br_nn ?_ | refine br_ns ?_ | refine br_not ?_ | refine br_d (fun h => ?_) (fun h => ?_) | refine br_e (fun h => ?_) (fun h => ?_) | refine br_n (fun h => ?_) (fun h => ?_) | refine drw (by kernel_rfl) ?_ | refine chk (by kernel_rfl) ?_ | refine stop ?_)
      all_goals refine Stop.mk ?_
      obtain ⟨_, hs_, hat_⟩ := hl.at (sz := 1) rfl
      refine ⟨⟨by omega, by omega⟩, _, hs_, fun ad had => ?_⟩
      obtain ⟨u, cells, hu, hRu, hGu⟩ := hat_ k (by omega) ad (by first | exact had | (rw [Int.toNat_natCast] at had; exact had))
      clear had hat_ hs_
      obtain ⟨Au, cu, rfl, Su⟩ := kPrs_R hRu
      obtain rfl := Option.some.inj (hps.symm.trans hu)
      repeat' ((fail_if_success with_reducible refine Stop.mk ?_); (conv => whnf); with_reducible first | refine br_t ?_ | refine br_f ?_ | refine br_nn ?_ | refine br_ns ?_ | refine br_not ?_ | refine br_d (fun h => ?_) (fun h => ?_) | refine br_e (fun h => ?_) (fun h => ?_) | refine br_n (fun h => ?_) (fun h => ?_) | refine drw (by kernel_rfl) ?_ | refine chk (by kernel_rfl) ?_ | refine stop ?_)
      all_goals refine Stop.mk ?_
      refine ⟨_, ld1 hGu, ?_⟩
      repeat' ((fail_if_success with_reducible refine Stop.mk ?_); (conv => whnf); with_reducible first | refine br_t ?_ | refine br_f ?_ | refine br_nn ?_ | refine br_ns ?_ | refine br_not ?_ | refine br_d (fun h => ?_) (fun h => ?_) | refine br_e (fun h => ?_) (fun h => ?_) | refine br_n (fun h => ?_) (fun h => ?_) | refine drw (by kernel_rfl) ?_ | refine chk (by kernel_rfl) ?_ | refine stop ?_)
      all_goals refine Stop.mk ?_
      ·
        obtain ⟨_, hs_, hat_⟩ := hl.at (sz := 1) rfl
        refine ⟨⟨by omega, by omega⟩, _, hs_, fun ad had => ?_⟩
        obtain ⟨w, cells, hw, hRw, hGw⟩ := hat_ k (by omega) ad (by first | exact had | (rw [Int.toNat_natCast] at had; exact had))
        clear had hat_ hs_
        obtain ⟨Aw, cw, rfl, Sw⟩ := kPrs_R hRw
        obtain rfl := Option.some.inj (hps.symm.trans hw)
        repeat' ((fail_if_success with_reducible refine Stop.mk ?_); (conv => whnf); with_reducible first | refine br_t ?_ | refine br_f ?_ | refine br_nn ?_ | refine br_ns ?_ | refine br_not ?_ | refine br_d (fun h => ?_) (fun h => ?_) | refine br_e (fun h => ?_) (fun h => ?_) | refine br_n (fun h => ?_) (fun h => ?_) | refine drw (by kernel_rfl) ?_ | refine chk (by kernel_rfl) ?_ | refine stop ?_)
        all_goals refine Stop.mk ?_
        refine ⟨_, ld1 hGw, ?_⟩
        repeat' ((fail_if_success with_reducible refine Stop.mk ?_); (conv => whnf); with_reducible first | refine br_t ?_ | refine br_f ?_ | refine br_nn ?_ | refine br_ns ?_ | refine br_not ?_ | refine br_d (fun h => ?_) (fun h => ?_) | refine br_e (fun h => ?_) (fun h => ?_) | refine br_n (fun h => ?_) (fun h => ?_) | refine drw (by kernel_rfl) ?_ | refine chk (by kernel_rfl) ?_ | refine stop ?_)
        all_goals refine Stop.mk ?_
        obtain ⟨_, hs_, hat_⟩ := Sw.at (sz := 2) rfl
        refine ⟨⟨by omega, by omega⟩, _, hs_, fun ad had => ?_⟩
        obtain ⟨p, cells, hp, hRp, hGp⟩ := hat_ j (by omega) ad (by first | exact had | (rw [Int.toNat_natCast] at had; exact had))
        clear had hat_ hs_
        obtain ⟨rfl, hp1, hp2⟩ := hRp
        have hbad : ¬ chkP vregs regs slots ps j p → ¬ validI blocks vregs regs slots l := fun h9 h8 => h9 ((hix.1 ((hiff.1 h8.2).2 ps (List.mem_of_getElem? hps))) j p hp)
        repeat' ((fail_if_success with_reducible refine Stop.mk ?_); (conv => whnf); with_reducible first | refine br_t ?_ | refine br_f ?_ | refine br_nn ?_ | refine br_ns ?_ | refine br_not ?_ | refine br_d (fun h => ?_) (fun h => ?_) | refine br_e (fun h => ?_) (fun h => ?_) | refine br_n (fun h => ?_) (fun h => ?_) | refine drw (by kernel_rfl) ?_ | refine chk (by kernel_rfl) ?_ | refine stop ?_)
        all_goals refine Stop.mk ?_
        refine ⟨_, rfl, hGp, ?_⟩
        repeat' ((fail_if_success with_reducible refine Stop.mk ?_); (conv => whnf); with_reducible first | refine br_t ?_ | refine br_f ?_ | refine br_nn ?_ | refine br_ns ?_ | refine br_not ?_ | refine br_d (fun h => ?_) (fun h => ?_) | refine br_e (fun h => ?_) (fun h => ?_) | refine br_n (fun h => ?_) (fun h => ?_) | refine drw (by kernel_rfl) ?_ | refine chk (by kernel_rfl) ?_ | refine stop ?_)
        all_goals refine Stop.mk ?_
        · refine Stop.mk (hK1 _ _ ?_)
          clear hK1
          repeat' ((fail_if_success with_reducible refine Stop.mk ?_); (conv => whnf); with_reducible first | refine br_t ?_ | refine br_f ?_ | refine br_nn ?_ | refine br_ns ?_ | refine br_not ?_ | refine br_d (fun h => ?_) (fun h => ?_) | refine br_e (fun h => ?_) (fun h => ?_) | refine br_n (fun h => ?_) (fun h => ?_) | refine drw (by kernel_rfl) ?_ | refine chk (by kernel_rfl) ?_ | refine stop ?_)
          all_goals refine Stop.mk ?_
          first
            | refine Stop.mk (hK0 _ _ ?_)
            | refine hK0 _ _ ?_
          clear hK0
          repeat' ((fail_if_success with_reducible refine Stop.mk ?_); (conv => whnf); with_reducible first | refine br_t ?_ | refine br_f ?_ | refine br_nn ?_ | refine br_ns ?_ | refine br_not ?_ | refine br_d (fun h => ?_) (fun h => ?_) | refine br_e (fun h => ?_) (fun h => ?_) | refine br_n (fun h => ?_) (fun h => ?_) | refine drw (by kernel_rfl) ?_ | refine chk (by kernel_rfl) ?_ | refine stop ?_)
          all_goals refine Stop.mk ?_
          refine fin_id hE 0 rfl rfl rfl rfl ⟨_, rfl, ⟨fun h9 => absurd h9 (by decide), fun h9 => absurd h9 (hbad ?_)⟩, rfl, rfl⟩
          rintro ⟨⟨h7, h8⟩, _⟩; omega
        · refine Stop.mk (hK1 _ _ ?_)
          clear hK1
          repeat' ((fail_if_success with_reducible refine Stop.mk ?_); (conv => whnf); with_reducible first | refine br_t ?_ | refine br_f ?_ | refine br_nn ?_ | refine br_ns ?_ | refine br_not ?_ | refine br_d (fun h => ?_) (fun h => ?_) | refine br_e (fun h => ?_) (fun h => ?_) | refine br_n (fun h => ?_) (fun h => ?_) | refine drw (by kernel_rfl) ?_ | refine chk (by kernel_rfl) ?_ | refine stop ?_)
          all_goals refine Stop.mk ?_
          first
            | refine Stop.mk (hK0 _ _ ?_)
            | refine hK0 _ _ ?_
          clear hK0
          repeat' ((fail_if_success with_reducible refine Stop.mk ?_); (conv => whnf); with_reducible first | refine br_t ?_ | refine br_f ?_ | refine br_nn ?_ | refine br_ns ?_ | refine br_not ?_ | refine br_d (fun h => ?_) (fun h => ?_) | refine br_e (fun h => ?_) (fun h => ?_) | refine br_n (fun h => ?_) (fun h => ?_) | refine drw (by kernel_rfl) ?_ | refine chk (by kernel_rfl) ?_ | refine stop ?_)
          all_goals refine Stop.mk ?_
          refine fin_id hE 0 rfl rfl rfl rfl ⟨_, rfl, ⟨fun h9 => absurd h9 (by decide), fun h9 => absurd h9 (hbad ?_)⟩, rfl, rfl⟩
          rintro ⟨⟨h7, h8⟩, _⟩; omega
        ·
          refine call_fn [] (rinRange_fn _ p.l regs slots hp2) rfl trivial (by decide) ?_
          rintro sv H' G' ⟨rfl, rfl, rfl⟩ -
          refine ⟨Nat.le_of_ble_eq_true rfl, ?_⟩
          repeat' ((fail_if_success with_reducible refine Stop.mk ?_); (conv => whnf); with_reducible first | refine br_t ?_ | refine br_f ?_ | refine br_nn ?_ | refine br_ns ?_ | refine br_not ?_ | refine br_d (fun h => ?_) (fun h => ?_) | refine br_e (fun h => ?_) (fun h => ?_) | refine br_n (fun h => ?_) (fun h => ?_) | refine drw (by kernel_rfl) ?_ | refine chk (by kernel_rfl) ?_ | refine stop ?_)
          all_goals refine Stop.mk ?_
          rotate_left 2
          · refine Stop.mk (hK1 _ _ ?_)
            clear hK1
            repeat' ((fail_if_success with_reducible refine Stop.mk ?_); (conv => whnf); with_reducible first | refine br_t ?_ | refine br_f ?_ | refine br_nn ?_ | refine br_ns ?_ | refine br_not ?_ | refine br_d (fun h => ?_) (fun h => ?_) | refine br_e (fun h => ?_) (fun h => ?_) | refine br_n (fun h => ?_) (fun h => ?_) | refine drw (by kernel_rfl) ?_ | refine chk (by kernel_rfl) ?_ | refine stop ?_)
            all_goals refine Stop.mk ?_
            first
              | refine Stop.mk (hK0 _ _ ?_)
              | refine hK0 _ _ ?_
            clear hK0
            repeat' ((fail_if_success with_reducible refine Stop.mk ?_); (conv => whnf); with_reducible first | refine br_t ?_ | refine br_f ?_ | refine br_nn ?_ | refine br_ns ?_ | refine br_not ?_ | refine br_d (fun h => ?_) (fun h => ?_) | refine br_e (fun h => ?_) (fun h => ?_) | refine br_n (fun h => ?_) (fun h => ?_) | refine drw (by kernel_rfl) ?_ | refine chk (by kernel_rfl) ?_ | refine stop ?_)
            all_goals refine Stop.mk ?_
            refine fin_id hE 0 rfl rfl rfl rfl ⟨_, rfl, ⟨fun h9 => absurd h9 (by decide), fun h9 => absurd h9 (hbad ?_)⟩, rfl, rfl⟩
            rintro ⟨_, h8, _⟩; exact absurd h8 (by assumption)
          · have hin : inRange p.l regs slots := by assumption
            obtain ⟨j', rfl⟩ : ∃ j', j = j' + 1 := ⟨j - 1, by omega⟩
            have hw4 : IntKind.i64.wrap (((j' + 1 : Nat) : Int) - 1) = (j' : Int) := by rw [i64_in (by omega) (by omega)]; omega
            obtain ⟨_, hs_, hat_⟩ := hl.at (sz := 1) rfl
            refine ⟨⟨by omega, by omega⟩, _, hs_, fun ad had => ?_⟩
            obtain ⟨z, cells, hz, hRz, hGz⟩ := hat_ k (by omega) ad (by first | exact had | (rw [Int.toNat_natCast] at had; exact had))
            clear had hat_ hs_
            obtain ⟨Az, cz, rfl, Sz⟩ := kPrs_R hRz
            obtain rfl := Option.some.inj (hps.symm.trans hz)
            repeat' ((fail_if_success with_reducible refine Stop.mk ?_); (conv => whnf); with_reducible first | refine br_t ?_ | refine br_f ?_ | refine br_nn ?_ | refine br_ns ?_ | refine br_not ?_ | refine br_d (fun h => ?_) (fun h => ?_) | refine br_e (fun h => ?_) (fun h => ?_) | refine br_n (fun h => ?_) (fun h => ?_) | refine drw (by kernel_rfl) ?_ | refine chk (by kernel_rfl) ?_ | refine stop ?_)
            all_goals refine Stop.mk ?_
            refine ⟨_, ld1 hGz, ?_⟩
            repeat' ((fail_if_success with_reducible refine Stop.mk ?_); (conv => whnf); with_reducible first | refine br_t ?_ | refine br_f ?_ | refine br_nn ?_ | refine br_ns ?_ | refine br_not ?_ | refine br_d (fun h => ?_) (fun h => ?_) | refine br_e (fun h => ?_) (fun h => ?_) | refine br_n (fun h => ?_) (fun h => ?_) | refine drw (by kernel_rfl) ?_ | refine chk (by kernel_rfl) ?_ | refine stop ?_)
            all_goals refine Stop.mk ?_
            rw [hw4]
            obtain ⟨_, hs_, hat_⟩ := Sz.at (sz := 2) rfl
            refine ⟨⟨by omega, by omega⟩, _, hs_, fun ad had => ?_⟩
            obtain ⟨q, cells, hq, hRq, hGq⟩ := hat_ j' (by omega) ad (by first | exact had | (rw [Int.toNat_natCast] at had; exact had))
            clear had hat_ hs_
            obtain ⟨rfl, hq1, hq2⟩ := hRq
            have hgq : ps.getD (j' + 1 - 1) pr0 = q := by rw [Nat.add_sub_cancel, List.getD_eq_getElem?_getD, hq]; rfl
            repeat' ((fail_if_success with_reducible refine Stop.mk ?_); (conv => whnf); with_reducible first | refine br_t ?_ | refine br_f ?_ | refine br_nn ?_ | refine br_ns ?_ | refine br_not ?_ | refine br_d (fun h => ?_) (fun h => ?_) | refine br_e (fun h => ?_) (fun h => ?_) | refine br_n (fun h => ?_) (fun h => ?_) | refine drw (by kernel_rfl) ?_ | refine chk (by kernel_rfl) ?_ | refine stop ?_)
            all_goals refine Stop.mk ?_
            refine ⟨_, rfl, hGq, ?_⟩
            repeat' ((fail_if_success with_reducible refine Stop.mk ?_); (conv => whnf); with_reducible first | refine br_t ?_ | refine br_f ?_ | refine br_nn ?_ | refine br_ns ?_ | refine br_not ?_ | refine br_d (fun h => ?_) (fun h => ?_) | refine br_e (fun h => ?_) (fun h => ?_) | refine br_n (fun h => ?_) (fun h => ?_) | refine drw (by kernel_rfl) ?_ | refine chk (by kernel_rfl) ?_ | refine stop ?_)
            all_goals refine Stop.mk ?_
            refine call_fn [] (rless_fn _ q p) rfl trivial (by decide) ?_
            rintro sv H' G' ⟨rfl, rfl, rfl⟩ -
            refine ⟨Nat.le_of_ble_eq_true rfl, ?_⟩
            repeat' ((fail_if_success with_reducible refine Stop.mk ?_); (conv => whnf); with_reducible first | refine br_t ?_ | refine br_f ?_ | refine br_nn ?_ | refine br_ns ?_ | refine br_not ?_ | refine br_d (fun h => ?_) (fun h => ?_) | refine br_e (fun h => ?_) (fun h => ?_) | refine br_n (fun h => ?_) (fun h => ?_) | refine drw (by kernel_rfl) ?_ | refine chk (by kernel_rfl) ?_ | refine stop ?_)
            all_goals refine Stop.mk ?_
            · have hgood : chkP vregs regs slots ps (j' + 1) p := ⟨⟨by omega, by omega⟩, hin, fun _ => by rw [hgq]; assumption⟩
              rw [hw3]
              refine tell_gc hE [] rfl rfl ?_
              (conv => whnf)
              refine tell_here ⟨j' + 1 + 1, ⟨by omega, ?_⟩, by show ps.length - (j' + 1 + 1) < ps.length - (j' + 1); omega, rfl, rfl, ?_⟩
              · intro i x hi hx
                rcases Nat.lt_succ_iff_lt_or_eq.1 hi with h8 | h8
                · exact hchk i x h8 hx
                · subst h8
                  rw [hp] at hx
                  simp at hx
                  subst hx
                  exact hgood
              ·
                refine ⟨?_⟩
                (conv => whnf)
                (repeat' (first | exact trivial | exact .inl rfl | exact .inr rfl | refine And.intro ?_ ?_))
            · refine Stop.mk (hK1 _ _ ?_)
              clear hK1
              repeat' ((fail_if_success with_reducible refine Stop.mk ?_); (conv => whnf); with_reducible first | refine br_t ?_ | refine br_f ?_ | refine br_nn ?_ | refine br_ns ?_ | refine br_not ?_ | refine br_d (fun h => ?_) (fun h => ?_) | refine br_e (fun h => ?_) (fun h => ?_) | refine br_n (fun h => ?_) (fun h => ?_) | refine drw (by kernel_rfl) ?_ | refine chk (by kernel_rfl) ?_ | refine stop ?_)
              all_goals refine Stop.mk ?_
              first
                | refine Stop.mk (hK0 _ _ ?_)
                | refine hK0 _ _ ?_
              clear hK0
              repeat' ((fail_if_success with_reducible refine Stop.mk ?_); (conv => whnf); with_reducible first | refine br_t ?_ | refine br_f ?_ | refine br_nn ?_ | refine br_ns ?_ | refine br_not ?_ | refine br_d (fun h => ?_) (fun h => ?_) | refine br_e (fun h => ?_) (fun h => ?_) | refine br_n (fun h => ?_) (fun h => ?_) | refine drw (by kernel_rfl) ?_ | refine chk (by kernel_rfl) ?_ | refine stop ?_)
              all_goals refine Stop.mk ?_
              refine fin_id hE 0 rfl rfl rfl rfl ⟨_, rfl, ⟨fun h9 => absurd h9 (by decide), fun h9 => absurd h9 (hbad ?_)⟩, rfl, rfl⟩
              rintro ⟨_, _, h8⟩
              have h7 := h8 (by omega)
              rw [hgq] at h7
              exact absurd h7 (by assumption)
          · have hin : inRange p.l regs slots := by assumption
            have hgood : chkP vregs regs slots ps j p := ⟨⟨by omega, by omega⟩, hin, fun h9 => absurd h9 (by omega)⟩
            rw [hw3]
            refine tell_gc hE [] rfl rfl ?_
            (conv => whnf)
            refine tell_here ⟨j + 1, ⟨by omega, ?_⟩, by show ps.length - (j + 1) < ps.length - j; omega, rfl, rfl, ?_⟩
            · intro i x hi hx
              rcases Nat.lt_succ_iff_lt_or_eq.1 hi with h8 | h8
              · exact hchk i x h8 hx
              · subst h8
                rw [hp] at hx
                simp at hx
                subst hx
                exact hgood
            ·
              refine ⟨?_⟩
              (conv => whnf)
              (repeat' (first | exact trivial | exact .inl rfl | exact .inr rfl | refine And.intro ?_ ?_))
      · have hjl : j = ps.length := by omega
        subst hjl
        refine Stop.mk (hK1 _ _ ?_)
        clear hK1
        repeat' ((fail_if_success with_reducible refine Stop.mk ?_); (conv => whnf); with_reducible first | refine br_t ?_ | refine br_f ?_ | refine br_nn ?_ | refine br_ns ?_ | refine br_not ?_ | refine br_d (fun h => ?_) (fun h => ?_) | refine br_e (fun h => ?_) (fun h => ?_) | refine br_n (fun h => ?_) (fun h => ?_) | refine drw (by kernel_rfl) ?_ | refine chk (by kernel_rfl) ?_ | refine stop ?_)
        all_goals refine Stop.mk ?_
        rw [hw2]
        refine tell_here ⟨k + 1, ⟨by omega, ?_⟩, by show l.length - (k + 1) < l.length - k; omega, rfl, rfl, ?_⟩
        · intro x hx
          rw [List.take_add_one, hps] at hx
          rcases List.mem_append.1 hx with hx | hx
          · exact hall x hx
          · simp at hx; subst hx
            exact hix.2 fun i y hy => hchk i y (List.getElem?_eq_some_iff.1 hy).1 hy
        ·
          refine ⟨?_⟩
          (conv => whnf)
          (repeat' (first | exact trivial | exact .inl rfl | exact .inr rfl | refine And.intro ?_ ?_))
    · have hkl : k = l.length := by omega
      subst hkl
      rw [List.take_length] at hall
      refine Stop.mk (hK0 _ _ ?_)
      clear hK0
      repeat' ((fail_if_success with_reducible refine Stop.mk ?_); (conv => whnf); with_reducible first | refine br_t ?_ | refine br_f ?_ | refine br_nn ?_ | refine br_ns ?_ | refine br_not ?_ | refine br_d (fun h => ?_) (fun h => ?_) | refine br_e (fun h => ?_) (fun h => ?_) | refine br_n (fun h => ?_) (fun h => ?_) | refine drw (by kernel_rfl) ?_ | refine chk (by kernel_rfl) ?_ | refine stop ?_)
      all_goals refine Stop.mk ?_
      refine fin_all ⟨_, rfl, ⟨fun _ => ⟨by assumption, hiff.2 ⟨htk, hall⟩⟩, fun _ => rfl⟩, rfl, rfl⟩
end Go.Proofs.Ytkhajngpcgmpnaa.Cu

namespace Go.Proofs.Ytkhajngpcgmpnaa.Cu
open Go Go.SX Go.Proofs.Ytkhajngpcgmpnaa.VT
set_option maxRecDepth 100000
set_option linter.unusedVariables false
set_option linter.unusedSimpArgs false
def exB : List Int := [3, 0, 1, 0, 1, 2, 0]
def exI : List (List Pr) := [[⟨0, 1⟩, ⟨0, 3⟩, ⟨2, 0⟩]]
end Go.Proofs.Ytkhajngpcgmpnaa.Cu
