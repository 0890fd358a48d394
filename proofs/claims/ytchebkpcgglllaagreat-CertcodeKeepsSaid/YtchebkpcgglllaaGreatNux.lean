/- Nux: Nu, Rn, Cod, CodN, CodL, Re, In1, Op0, Op2, Bl in one text. -/
import Derived.Test.YtchebkpcgglllaaGreatVTx
import Derived.Test.YtchebkpcgglllaaGreatSXc
namespace Go.Proofs.YtchebkpcgglllaaGreat.Cu
open Go Go.SX Go.Proofs.YtchebkpcgglllaaGreat.VT
set_option maxRecDepth 100000
set_option linter.unusedVariables false
set_option linter.unusedSimpArgs false

def in64 (x : Int) : Prop := -9223372036854775808 ≤ x ∧ x ≤ 9223372036854775807
theorem bdec {b : Bool} {P : Prop} [Decidable P] (h : b = true ↔ P) : b = decide P := by
  cases b
  · exact (decide_eq_false (fun hp => by have := h.2 hp; simp at this)).symm
  · exact (decide_eq_true (h.1 rfl)).symm
/-! ### locations -/
def isSlot (l : Int) : Prop := l.tmod 2 = 1
instance (l : Int) : Decidable (isSlot l) := inferInstanceAs (Decidable (_ = _))
def inRange (l regs slots : Int) : Prop := 0 ≤ l ∧ ((l % 2 = 1 ∧ l / 2 < slots) ∨ (l % 2 ≠ 1 ∧ l / 2 < regs))
instance (l regs slots : Int) : Decidable (inRange l regs slots) := inferInstanceAs (Decidable (_ ∧ _))
theorem isSlot_nonneg {l : Int} (h : 0 ≤ l) : isSlot l ↔ l % 2 = 1 := by unfold isSlot; rw [Int.tmod_eq_emod_of_nonneg h]
theorem isSlot_fn (G : Gh) (l : Int) : Ct Tryz.prog 122 [.v (.int .i64 l)] [] G fun sv H' G' => sv = .v (.bool (decide (isSlot l))) ∧ H' = [] ∧ G' = G := by
  refine fn_of follows [] Tryz.func122 rfl rfl fun E hE => ?_
  repeat' ((fail_if_success with_reducible refine Stop.mk ?_);(conv=>whnf);with_reducible refine stop ?_)
  all_goals refine Stop.mk ?_
  refine fin_all ⟨congrArg (fun b => SV.v (.bool b)) ?_, rfl, rfl⟩
  refine bdec ?_
  rw [beq_iff_eq]; exact Iff.rfl
theorem index_fn (G : Gh) (l : Int) (h : 0 ≤ l ∧ l ≤ 9223372036854775807) : Ct Tryz.prog 147 [.v (.int .i64 l)] [] G fun sv H' G' => sv = .v (.int .i64 (l / 2)) ∧ H' = [] ∧ G' = G := by
  refine fn_of follows [] Tryz.func147 rfl rfl fun E hE => ?_
  repeat' ((fail_if_success with_reducible refine Stop.mk ?_);(conv=>whnf);with_reducible refine stop ?_)
  all_goals refine Stop.mk ?_
  refine fin_all ⟨svi ?_, rfl, rfl⟩
  rw [Int.tdiv_eq_ediv_of_nonneg (by omega), i64_in (by omega) (by omega)]
theorem inRange_fn (G : Gh) (l regs slots : Int) (h : in64 l) : Ct Tryz.prog 125 [.v (.int .i64 l), .v (.int .i64 regs), .v (.int .i64 slots)] [] G fun sv H' G' => sv = .v (.bool (decide (inRange l regs slots))) ∧ H' = [] ∧ G' = G := by
  obtain ⟨h1, h2⟩ := h
  refine fn_of follows [] Tryz.func125 rfl rfl fun E hE => ?_
  repeat' ((fail_if_success with_reducible refine Stop.mk ?_);(conv=>whnf);with_reducible refine stop ?_)
  all_goals refine Stop.mk ?_
  refine call_fn [] (isSlot_fn _ l) rfl trivial (by decide) ?_
  rintro sv H' G' ⟨rfl, rfl, rfl⟩ -
  refine ⟨Nat.le_of_ble_eq_true rfl, ?_⟩
  repeat' ((fail_if_success with_reducible refine Stop.mk ?_);(conv=>whnf);with_reducible first|refine br_d (fun h=>?_) fun h=>?_|refine stop ?_)
  all_goals refine Stop.mk ?_
  all_goals try
    refine call_fn [] (index_fn _ l (by omega)) rfl trivial (by decide) ?_
    rintro sv H' G' ⟨rfl, rfl, rfl⟩ -
    refine ⟨Nat.le_of_ble_eq_true rfl, ?_⟩
    repeat' ((fail_if_success with_reducible refine Stop.mk ?_);(conv=>whnf);with_reducible refine stop ?_)
    all_goals refine Stop.mk ?_
  all_goals refine fin_all ⟨congrArg (fun b => SV.v (.bool b)) ?_, rfl, rfl⟩
  all_goals
    refine bdec ?_
    by_cases h0 : 0 ≤ l
    · have h3 := isSlot_nonneg h0
      first
        | (have e1 : l.tmod 2 = l % 2 := Int.tmod_eq_emod_of_nonneg h0
           have e2 : IntKind.i64.wrap (l.tdiv 2) = l / 2 := by rw [Int.tdiv_eq_ediv_of_nonneg h0, i64_in (by omega) (by omega)]
           simp only [decide_eq_true_iff, beq_iff_eq, bne_iff_ne, ne_eq, Bool.false_eq_true, false_iff, true_iff, inRange, h3, e1, e2] at *
           omega)
    · simp only [decide_eq_true_iff, beq_iff_eq, bne_iff_ne, ne_eq, Bool.false_eq_true, false_iff, true_iff, inRange] at *
      omega
theorem rinRange_fn (G : Gh) (l regs slots : Int) (h : in64 l) : Ct Tryz.prog 108 [.v (.int .i64 l), .v (.int .i64 regs), .v (.int .i64 slots)] [] G fun sv H' G' => sv = .v (.bool (decide (inRange l regs slots))) ∧ H' = [] ∧ G' = G := by
  obtain ⟨h1, h2⟩ := h
  refine fn_of follows [] Tryz.func108 rfl rfl fun E hE => ?_
  repeat' ((fail_if_success with_reducible refine Stop.mk ?_);(conv=>whnf);with_reducible first|refine br_d (fun h=>?_) fun h=>?_|refine br_e (fun h=>?_) fun h=>?_|refine stop ?_)
  all_goals refine Stop.mk ?_
  all_goals refine fin_all ⟨congrArg (fun b => SV.v (.bool b)) ?_, rfl, rfl⟩
  all_goals
    refine bdec ?_
    by_cases h0 : 0 ≤ l
    · have h3 := isSlot_nonneg h0
      first
        | (have e1 : l.tmod 2 = l % 2 := Int.tmod_eq_emod_of_nonneg h0
           have e2 : IntKind.i64.wrap (l.tdiv 2) = l / 2 := by rw [Int.tdiv_eq_ediv_of_nonneg h0, i64_in (by omega) (by omega)]
           simp only [decide_eq_true_iff, beq_iff_eq, bne_iff_ne, ne_eq, Bool.false_eq_true, false_iff, true_iff, inRange, h3, e1, e2] at *
           omega)
    · simp only [decide_eq_true_iff, beq_iff_eq, bne_iff_ne, ne_eq, Bool.false_eq_true, false_iff, true_iff, inRange] at *
      omega
def pU (n : Int) : List Int := putB (IntKind.u64.wrap n).toNat
theorem pU_len (n : Int) : (pU n).length ≤ 10 := putB_len _
theorem pU_nat (n : Int) : 0 ≤ IntKind.u64.wrap n ∧ IntKind.u64.wrap n < 18446744073709551616 := by rw [IntKind.wrap_u64]; omega
theorem wU_fn (G : Gh) (n : Int) (xs : List Int) (hlen : xs.length ≤ 1000000) :
    Ct Tryz.prog 92 [.p 0 0, .v (.int .u64 (IntKind.u64.wrap n))] (wrH xs) G fun sv H' G' => sv = .tup [] ∧ H' = wrH (xs ++ pU n) := by
  have h := pU_nat n
  have := wuint_fn G (IntKind.u64.wrap n).toNat xs (by omega) hlen
  rw [Int.toNat_of_nonneg h.1] at this
  exact this
def maxU : Int := 18446744073709551615
def sNum (bound why : Int) (p : Ps) : Int × Ps := if bound ≤ (sUint maxU p).1 then (0, sFail why (sUint maxU p).2) else sUint maxU p
theorem sNum_suf (bound why : Int) (p : Ps) : (sNum bound why p).2.1 <:+ p.1 := by
  unfold sNum; split
  · exact sUint_suf _ _
  · exact sUint_suf _ _
theorem in64_0 : in64 0 := by unfold in64; omega
theorem rowB_app' (l m : List Int) : Ob.row 5 1 (l.length + m.length) (byts l ++ byts m) = rowB (l ++ m) := by unfold rowB; rw [List.length_append, byts_app]
end Go.Proofs.YtchebkpcgglllaaGreat.Cu

namespace Go.Proofs.YtchebkpcgglllaaGreat.Cu
open Go Go.SX Go.Proofs.YtchebkpcgglllaaGreat.VT
set_option maxRecDepth 100000
set_option linter.unusedVariables false
set_option linter.unusedSimpArgs false

/-- The reference's input as a value. -/
def inS (A : Option Addr) (c : Nat) (r : Ps) : SV := .agg [.v (.slice A r.1.length c), .v (.int .i64 r.2)]
/-- The reference's input r stands for what is left and the error, p. -/
structure RIn (G : Gh) (A : Option Addr) (c : Nat) (p r : Ps) : Prop where
  hs : SlB G A c r.1
  hb : isB r.1
  hl : r.1.length ≤ 140737488355328
  he : r.2 = p.2
  hr : p.2 = 0 → r.1 = p.1
theorem RIn.to {G G' : Gh} {A : Option Addr} {c : Nat} {p r : Ps} (h : RIn G A c p r) (hg : Ghe G G') : RIn G' A c p r := ⟨Sl.to hg h.hs, h.hb, h.hl, h.he, h.hr⟩
theorem RIn.err {G : Gh} {p : Ps} {e : Int} (h : p.2 = e) (hne : e ≠ 0) : RIn G none 0 p ([], e) := ⟨slB_nil _, by intro x hx; simp at hx, by simp, h.symm, fun h0 => absurd (h0.symm.trans h).symm hne⟩
/-- What a reference's reader comes to. -/
def RPost (G : Gh) (v : SV) (p : Ps) (sv : SV) (H' : List Ob) (G' : Gh) : Prop := ∃ A c r, sv = .tup [v, inS A c r] ∧ RIn G A c p r ∧ H' = [] ∧ G' = G
theorem sNum_err {bound why : Int} {p : Ps} (h : p.2 ≠ 0) : sNum bound why p = (0, p) := by
  unfold sNum sFail failE
  rw [sUint_err h]
  simp [h]
theorem sUint_max' {l : List Int} (hb : isB l) : sUint maxU (l, 0) = if (vdec 0 l).2.2 = 0 then ((vdec 0 l).1, (l.drop (vdec 0 l).2.1.toNat, 0)) else (0, (l, (vdec 0 l).2.2)) := by
  unfold sUint
  simp only [ne_eq, not_true_eq_false, if_false]
  have hw : whyU maxU (vdec 0 l) = (vdec 0 l).2.2 := by
    unfold whyU maxU
    rcases vdec_form hb with ⟨x, hx, h⟩ | ⟨n, m, h, h3, _⟩ <;> rw [h]
    · rw [if_neg (by rintro ⟨h1, _⟩; simp only at h1; omega)]
    · rw [if_neg (by rintro ⟨_, h1⟩; simp only at h1; omega)]
  rw [hw]
set_option maxHeartbeats 8000000 in
theorem rNumber_fn {G : Gh} {A : Option Addr} {c : Nat} {p r : Ps} (bound why : Int) (h : RIn G A c p r) (hb : 0 ≤ bound ∧ bound ≤ 9223372036854775807) (hw0 : why ≠ 0) :
    Ct Tryz.prog 126 [inS A c r, .v (.int .i64 bound), .v (.int .i64 why)] [] G (RPost G (.v (.int .i64 (sNum bound why p).1)) (sNum bound why p).2) := by
  obtain ⟨hs, hbb, hl, he, hr⟩ := h
  have hcap := hs.cap
  have htop := hs.top
  refine fn_of follows [(2, (.cons 0 [] (.cons 1 [] (.cons 2 [0] .nil)))), (8, (.cons 0 [] (.cons 1 [] (.cons 2 [] (.cons 3 [] (.cons 4 [] (.cons 5 [] (.cons 6 [] (.cons 7 [] (.cons 8 [3] .nil))))))))))] Tryz.func126 rfl rfl fun E hE => ?_
  repeat' ((fail_if_success with_reducible refine Stop.mk ?_);(conv=>whnf);with_reducible first|refine br_n (fun h=>?_) fun h=>?_|refine drw (by kernel_rfl) ?_|refine stop ?_)
  all_goals refine Stop.mk ?_
  rotate_left
  · have hs2 := sNum_err (bound := bound) (why := why) (p := p) (by rw [← he]; assumption)
    refine fin_id hE 0 rfl rfl rfl rfl ?_
    rw [hs2]
    exact ⟨A, c, r, rfl, ⟨hs, hbb, hl, he, hr⟩, rfl, rfl⟩
  obtain ⟨l, e⟩ := p
  obtain ⟨l2, e2⟩ := r
  dsimp only at *
  subst he
  have he0 : e2 = 0 := by assumption
  subst he0
  obtain rfl := hr rfl
  have hsu := sUint_max' hbb
  have hsn : sNum bound why (l2, 0) = if bound ≤ (sUint maxU (l2, 0)).1 then (0, sFail why (sUint maxU (l2, 0)).2) else sUint maxU (l2, 0) := rfl
  rw [hsu] at hsn
  refine call_fn [] (refGet_fn _ A c l2 hbb hs) rfl trivial (by decide) ?_
  rintro sv H' G' ⟨rfl, rfl, rfl⟩ -
  refine ⟨Nat.le_of_ble_eq_true rfl, ?_⟩
  unfold getR
  have hform := vdec_form hbb
  generalize vdec 0 l2 = d at *
  have hw : IntKind.u64.wrap bound = bound := u64_in (by omega) (by omega)
  repeat' ((fail_if_success with_reducible refine Stop.mk ?_);(conv=>whnf);with_reducible first|refine br_f ?_|refine br_d (fun h=>?_) fun h=>?_|refine br_e (fun h=>?_) fun h=>?_|refine br_n (fun h=>?_) fun h=>?_|refine drw (by kernel_rfl) ?_|refine stop ?_)
  all_goals refine Stop.mk ?_
  all_goals try (exfalso; omega)
  · have h0 : d.2.2 = 0 := by assumption
    simp only [h0, if_true] at hsn
    rw [if_pos (by omega)] at hsn
    refine fin_id hE 0 rfl rfl rfl rfl ?_
    rw [hsn]
    exact ⟨none, 0, ([], why), rfl, RIn.err (by simp [sFail, failE]) hw0, rfl, rfl⟩
  · rcases hform with ⟨e, he, hd⟩ | ⟨n, m, hd, h3, h4, h5, h6, h7⟩
    · have h1 : d.2.2 = 0 := by assumption
      rw [hd] at h1; simp only at h1; omega
    · subst hd
      dsimp only at *
      simp only [if_true] at hsn
      rw [if_neg (by omega), Int.toNat_natCast] at hsn
      refine ⟨⟨by omega, by omega⟩, fun A' hA' => ?_⟩
      rw [Int.toNat_natCast] at hA' ⊢
      have hs' := slB_drop hs m (by omega) hA'
      rw [i64_in (n := (n : Int)) (by omega) (by omega), show l2.length - m = (l2.drop m).length by simp]
      repeat' ((fail_if_success with_reducible refine Stop.mk ?_);(conv=>whnf);with_reducible refine stop ?_)
      all_goals refine Stop.mk ?_
      refine fin_id hE 0 rfl rfl rfl rfl ?_
      rw [hsn]
      exact ⟨A', c - m, (l2.drop m, 0), rfl, ⟨hs', isB_drop hbb m, by simp only [List.length_drop]; omega, rfl, fun _ => rfl⟩, rfl, rfl⟩
  · have h1 : d.2.2 ≠ 0 := by assumption
    simp only [h1, if_false] at hsn
    refine fin_id hE 0 rfl rfl rfl rfl ?_
    rw [hsn]
    refine ⟨none, 0, ([], d.2.2), ?_, ?_, rfl, rfl⟩
    · split <;> rfl
    · split
      · exact RIn.err (by simp [sFail, failE, h1]) h1
      · exact RIn.err rfl h1
end Go.Proofs.YtchebkpcgglllaaGreat.Cu

namespace Go.Proofs.YtchebkpcgglllaaGreat.Cu
open Go Go.SX Go.Proofs.YtchebkpcgglllaaGreat.VT
set_option maxRecDepth 100000
set_option linter.unusedVariables false
set_option linter.unusedSimpArgs false

/-- A reader and an encoding belong together for the values that are right. -/
structure Cod {α : Type} (sh : Int → Prop) (f : Ps → α × Ps) (enc : α → List Int) (ok : α → Prop) : Prop where
  rt : ∀ x r, ok x → f (enc x ++ r, 0) = (x, (r, 0))
  ca : ∀ l, isB l → (f (l, 0)).2.2 = 0 → ok (f (l, 0)).1 ∧ l = enc (f (l, 0)).1 ++ (f (l, 0)).2.1
  pr : ∀ x n, ok x → n < (enc x).length → sh (f ((enc x).take n, 0)).2.2
  st : ∀ p, p.2 ≠ 0 → (f p).2.2 = p.2
  nz : ∀ e, sh e → e ≠ 0
theorem isB_of_app {l m : List Int} (h : isB (l ++ m)) : isB m := fun x hx => h x (List.mem_append.2 (.inr hx))
/-- One after the other. -/
theorem Cod.seq {α β : Type} {sh : Int → Prop} {f : Ps → α × Ps} {enc : α → List Int} {ok : α → Prop} (hf : Cod sh f enc ok)
    {g : α → Ps → β × Ps} {enc' : α → β → List Int} {ok' : α → β → Prop} (hg : ∀ x, ok x → Cod sh (g x) (enc' x) (ok' x)) (hst : ∀ x p, p.2 ≠ 0 → (g x p).2.2 = p.2) :
    Cod sh (fun p => (((f p).1, (g (f p).1 (f p).2).1), (g (f p).1 (f p).2).2)) (fun x => enc x.1 ++ enc' x.1 x.2) (fun x => ok x.1 ∧ ok' x.1 x.2) where
  rt x r h := by
    obtain ⟨x, y⟩ := x
    dsimp only at h ⊢
    rw [List.append_assoc, hf.rt x _ h.1]
    dsimp only
    rw [(hg x h.1).rt y r h.2]
  ca l hl he := by
    dsimp only at he ⊢
    have h0 : (f (l, 0)).2.2 = 0 := by
      rcases Decidable.em ((f (l, 0)).2.2 = 0) with h | h
      · exact h
      · rw [hst _ _ h] at he; exact he
    obtain ⟨h1, h2⟩ := hf.ca l hl h0
    have hb : isB (f (l, 0)).2.1 := by rw [h2] at hl; exact isB_of_app hl
    have hp : (f (l, 0)).2 = ((f (l, 0)).2.1, 0) := Prod.ext rfl h0
    rw [hp] at he ⊢
    obtain ⟨h3, h4⟩ := (hg _ h1).ca _ hb he
    refine ⟨⟨h1, h3⟩, ?_⟩
    rw [List.append_assoc, ← h4, ← h2]
  pr x n h hn := by
    obtain ⟨x, y⟩ := x
    dsimp only at h hn ⊢
    rcases Nat.lt_or_ge n (enc x).length with h1 | h1
    · rw [List.take_append_of_le_length (by omega)]
      have h2 := hf.pr x n h.1 h1
      rw [hst _ _ (hf.nz _ h2)]
      exact h2
    · rw [List.take_append, List.take_of_length_le h1, hf.rt x _ h.1]
      rw [List.length_append] at hn
      exact (hg x h.1).pr y _ h.2 (by omega)
  st p hp := by
    dsimp only
    have h1 := hf.st p hp
    rw [hst _ _ (by rw [h1]; exact hp), h1]
  nz := hf.nz
/-- The same with other names: what is read counts only without an error. -/
theorem Cod.map {α β : Type} {sh : Int → Prop} {f : Ps → α × Ps} {enc : α → List Int} {ok : α → Prop} (hf : Cod sh f enc ok)
    (F : Ps → β × Ps) (enc' : β → List Int) (ok' : β → Prop) (e : α → β) (inv : β → α)
    (hF : ∀ p, (F p).2 = (f p).2 ∧ ((f p).2.2 = 0 → (F p).1 = e (f p).1))
    (h1 : ∀ y, ok' y → ok (inv y) ∧ e (inv y) = y ∧ enc' y = enc (inv y)) (h2 : ∀ x, ok x → ok' (e x) ∧ enc' (e x) = enc x) :
    Cod sh F enc' ok' where
  rt y r h := by
    obtain ⟨a, b, c⟩ := h1 y h
    have := hf.rt (inv y) r a
    rw [c]
    obtain ⟨d1, d2⟩ := hF (enc (inv y) ++ r, 0)
    rw [this] at d1 d2
    refine Prod.ext ?_ d1
    rw [d2 rfl, b]
  ca l hl he := by
    obtain ⟨d1, d2⟩ := hF (l, 0)
    rw [d1] at he ⊢
    rw [d2 he]
    obtain ⟨a, b⟩ := hf.ca l hl he
    obtain ⟨c1, c2⟩ := h2 _ a
    exact ⟨c1, by rw [c2]; exact b⟩
  pr y n h hn := by
    obtain ⟨a, b, c⟩ := h1 y h
    rw [c] at hn ⊢
    rw [(hF _).1]
    exact hf.pr _ n a hn
  st p hp := by rw [(hF p).1]; exact hf.st p hp
  nz := hf.nz
theorem Cod.map0 {α β : Type} {sh : Int → Prop} {f : Ps → α × Ps} {enc : α → List Int} {ok : α → Prop} (hf : Cod sh f enc ok)
    (F : Ps → β × Ps) (enc' : β → List Int) (ok' : β → Prop) (e : α → β) (inv : β → α)
    (hF : ∀ l, (F (l, 0)).2 = (f (l, 0)).2 ∧ ((f (l, 0)).2.2 = 0 → (F (l, 0)).1 = e (f (l, 0)).1)) (hst : ∀ p, p.2 ≠ 0 → (F p).2.2 = p.2)
    (h1 : ∀ y, ok' y → ok (inv y) ∧ e (inv y) = y ∧ enc' y = enc (inv y)) (h2 : ∀ x, ok x → ok' (e x) ∧ enc' (e x) = enc x) :
    Cod sh F enc' ok' where
  rt y r h := by
    obtain ⟨a, b, c⟩ := h1 y h
    have := hf.rt (inv y) r a
    rw [c]
    obtain ⟨d1, d2⟩ := hF (enc (inv y) ++ r)
    rw [this] at d1 d2
    refine Prod.ext ?_ d1
    rw [d2 rfl, b]
  ca l hl he := by
    obtain ⟨d1, d2⟩ := hF l
    rw [d1] at he ⊢
    rw [d2 he]
    obtain ⟨a, b⟩ := hf.ca l hl he
    obtain ⟨c1, c2⟩ := h2 _ a
    exact ⟨c1, by rw [c2]; exact b⟩
  pr y n h hn := by
    obtain ⟨a, b, c⟩ := h1 y h
    rw [c] at hn ⊢
    rw [(hF _).1]
    exact hf.pr _ n a hn
  st := hst
  nz := hf.nz
/-- What is read is checked again. -/
theorem Cod.chk {α : Type} {sh : Int → Prop} {f : Ps → α × Ps} {enc : α → List Int} {ok : α → Prop} (hf : Cod sh f enc ok) (F : Ps → α × Ps) (good : α → Prop)
    (hF1 : ∀ p, (f p).2.2 ≠ 0 → (F p).2.2 = (f p).2.2)
    (hF2 : ∀ p, (f p).2.2 = 0 → good (f p).1 → F p = f p) (hF3 : ∀ p, (f p).2.2 = 0 → ¬ good (f p).1 → (F p).2.2 ≠ 0) :
    Cod sh F enc (fun x => ok x ∧ good x) where
  rt x r h := by
    have := hf.rt x r h.1
    rw [hF2 _ (by rw [this]) (by rw [this]; exact h.2), this]
  ca l hl he := by
    have h0 : (f (l, 0)).2.2 = 0 := by
      rcases Decidable.em ((f (l, 0)).2.2 = 0) with h | h
      · exact h
      · rw [hF1 _ h] at he; exact he
    have h1 : good (f (l, 0)).1 := by
      rcases Classical.em (good (f (l, 0)).1) with h | h
      · exact h
      · exact absurd he (hF3 _ h0 h)
    rw [hF2 _ h0 h1]
    obtain ⟨a, b⟩ := hf.ca l hl h0
    exact ⟨⟨a, h1⟩, b⟩
  pr x n h hn := by
    have h1 := hf.pr x n h.1 hn
    rw [hF1 _ (hf.nz _ h1)]
    exact h1
  st p hp := by
    have h1 := hf.st p hp
    rw [hF1 _ (by rw [h1]; exact hp), h1]
  nz := hf.nz
theorem Cod.congr {α : Type} {sh : Int → Prop} {f g : Ps → α × Ps} {enc enc' : α → List Int} {ok ok' : α → Prop} (h : Cod sh f enc ok) (h1 : ∀ p, g p = f p) (h2 : ∀ x, ok x → enc' x = enc x) (h3 : ∀ x, ok' x ↔ ok x) : Cod sh g enc' ok' where
  rt x r hx := by rw [h1, h2 x ((h3 x).1 hx)]; exact h.rt x r ((h3 x).1 hx)
  ca l hl he := by
    rw [h1] at he ⊢
    obtain ⟨a, b⟩ := h.ca l hl he
    exact ⟨(h3 _).2 a, by rw [h2 _ a]; exact b⟩
  pr x n hx hn := by
    rw [h2 x ((h3 x).1 hx)] at hn ⊢
    rw [h1]; exact h.pr x n ((h3 x).1 hx) hn
  st p hp := by rw [h1]; exact h.st p hp
  nz := h.nz
/-- Nothing is read. -/
theorem Cod.none {α : Type} {sh : Int → Prop} (hnz : ∀ e, sh e → e ≠ 0) (z : α) : Cod sh (fun p => (z, p)) (fun _ => []) (fun x => x = z) where
  rt x r h := by subst h; rfl
  ca l hl he := ⟨rfl, rfl⟩
  pr x n h hn := by simp at hn
  st p hp := rfl
  nz := hnz
theorem sFail_err {why : Int} {p : Ps} (h : p.2 ≠ 0) : sFail why p = p := by unfold sFail failE; rw [if_neg h]
/-- A byte. -/
theorem Cod.byte {sh : Int → Prop} (h1 : sh 1) (hnz : ∀ e, sh e → e ≠ 0) : Cod sh sByte (fun x => [x]) (fun x => 0 ≤ x ∧ x ≤ 255) where
  rt x r h := by simp [sByte]
  ca l hl he := by
    cases l with
    | nil => simp [sByte] at he
    | cons x l => simp [sByte]; exact hl x (by simp)
  pr x n h hn := by
    have : n = 0 := by simp at hn; omega
    subst this
    simp [sByte, h1]
  st p hp := by rw [sByte_err hp]
  nz := hnz
theorem whyU_ok {most : Int} {n m : Int} (h : n ≤ most) : whyU most (n, m, 0) = 0 := by unfold whyU; rw [if_neg (by simp; omega)]
/-- A number up to a bound. -/
theorem Cod.uint {sh : Int → Prop} (h1 : sh 1) (hnz : ∀ e, sh e → e ≠ 0) (most : Int) : Cod sh (sUint most) (fun x => putB x.toNat) (fun x => 0 ≤ x ∧ x < 18446744073709551616 ∧ x ≤ most) where
  rt x r h := by
    obtain ⟨n, rfl⟩ : ∃ n : Nat, x = (n : Int) := ⟨x.toNat, by omega⟩
    have hv := vdec_put n (by omega) r
    unfold sUint
    rw [if_neg (by simp)]
    simp only [Int.toNat_natCast]
    rw [show vdec 0 (putB n ++ r) = ((n : Int), ((putB n).length : Int), 0) from hv, if_pos (whyU_ok h.2.2)]
    simp
  ca l hl he := by
    unfold sUint at he ⊢
    rw [if_neg (by simp)] at he ⊢
    rcases vdec_form hl with ⟨x, hx, h⟩ | ⟨n, m, h, h3, h4, h5, _, h6⟩
    · rw [h] at he ⊢
      have hw : whyU most (0, 0, x) = x := by unfold whyU; rw [if_neg (by simp; omega)]
      rw [hw] at he
      rw [if_neg (by omega)] at he
      simp at he; omega
    · rw [h] at he ⊢
      rcases Decidable.em ((n : Int) ≤ most) with hm | hm
      · rw [if_pos (whyU_ok hm)]
        dsimp only
        refine ⟨⟨by omega, by omega, hm⟩, ?_⟩
        rw [Int.toNat_natCast, Int.toNat_natCast, show putB n = l.take m from h6.symm, List.take_append_drop]
      · have hw : whyU most ((n : Int), (m : Int), 0) = 6 := by unfold whyU; rw [if_pos ⟨rfl, by dsimp only; omega⟩]
        rw [hw, if_neg (show ¬ (6 : Int) = 0 by decide)] at he
        exact absurd (show (6 : Int) = 0 from he) (by decide)
  pr x n h hn := by
    have hv := vdec_prefix 9 0 x.toNat n (by omega) hn
    unfold sUint
    rw [if_neg (by simp)]
    dsimp only
    rw [show vdec 0 ((putB x.toNat).take n) = (0, 0, 1) from hv, show whyU most (0, 0, 1) = 1 by unfold whyU; rw [if_neg (by simp)], if_neg (by decide)]
    exact h1
  st p hp := by rw [sUint_err hp]
  nz := hnz
theorem Cod.int {sh : Int → Prop} (h1 : sh 1) (hnz : ∀ e, sh e → e ≠ 0) : Cod sh sInt (fun x => putB (zig x).toNat) (fun x => -9223372036854775808 ≤ x ∧ x ≤ 9223372036854775807) :=
  (Cod.uint h1 hnz 18446744073709551615).map sInt _ _ unzig zig (fun p => ⟨rfl, fun _ => rfl⟩)
    (fun y h => ⟨by have := zig_range y h.1 h.2; omega, unzig_zig y, rfl⟩)
    (fun x h => ⟨unzig_range x h.1 h.2.1, by rw [zig_unzig x h.1]⟩)
theorem sFail_ne {why : Int} {p : Ps} (h : why ≠ 0) : (sFail why p).2 ≠ 0 := by
  unfold sFail failE
  dsimp only
  split
  · exact h
  · assumption
end Go.Proofs.YtchebkpcgglllaaGreat.Cu

namespace Go.Proofs.YtchebkpcgglllaaGreat.Cu
open Go Go.SX Go.Proofs.YtchebkpcgglllaaGreat.VT
set_option maxRecDepth 100000
set_option linter.unusedVariables false
set_option linter.unusedSimpArgs false

variable {sh : Int → Prop}
theorem Cod.num (h1 : sh 1) (hnz : ∀ e, sh e → e ≠ 0) (bound why : Int) (hb : bound ≤ 9223372036854775808) (hw : why ≠ 0) : Cod sh (sNum bound why) pU (fun x => 0 ≤ x ∧ x < bound) := by
  have hp : ∀ x : Int, 0 ≤ x → x < bound → pU x = putB x.toNat := fun x h h2 => by unfold pU; rw [u64_in (by omega) (by omega)]
  have hz : 0 < bound ∨ bound ≤ 0 := by omega
  refine ((Cod.uint h1 hnz maxU).chk (fun p => if bound ≤ (sUint maxU p).1 then ((sUint maxU p).1, sFail why (sUint maxU p).2) else sUint maxU p) (fun x => x < bound) ?_ ?_ ?_).map _ _ _ id id ?_ ?_ ?_
  · intro p hp
    try dsimp only
    split
    · rw [sFail_err hp]
    · rfl
  · intro p hp hg
    try dsimp only
    rw [if_neg (by omega)]
  · intro p hp hg
    try dsimp only
    rw [if_pos (by omega)]
    exact sFail_ne hw
  · intro p
    unfold sNum
    try dsimp only
    split
    · refine ⟨rfl, fun h => absurd h (sFail_ne hw)⟩
    · exact ⟨rfl, fun _ => rfl⟩
  · intro y h
    exact ⟨⟨⟨h.1, by simp only [id]; omega, by simp only [id]; unfold maxU; omega⟩, h.2⟩, rfl, hp y h.1 h.2⟩
  · intro x h
    exact ⟨⟨h.1.1, h.2⟩, hp x h.1.1 h.2⟩
end Go.Proofs.YtchebkpcgglllaaGreat.Cu

namespace Go.Proofs.YtchebkpcgglllaaGreat.Cu
open Go Go.SX Go.Proofs.YtchebkpcgglllaaGreat.VT
set_option maxRecDepth 100000
set_option linter.unusedVariables false
set_option linter.unusedSimpArgs false

/-- A count that is checked. -/
def cntC (most size why : Int) (good : Int → Bool) (p : Ps) : Int × Ps :=
  ((sCount most size p).1, if good (sCount most size p).1 = true then (sCount most size p).2 else sFail why (sCount most size p).2)
theorem cntC_suf (most size why : Int) (good : Int → Bool) (p : Ps) : (cntC most size why good p).2.1 <:+ p.1 := by
  unfold cntC; split
  · exact sCount_suf _ _ _
  · exact sCount_suf _ _ _
theorem cntC_of {most size why : Int} {good : Int → Bool} {p : Ps} (h : (sCount most size p).2.2 ≠ 0) : (cntC most size why good p).2.2 = (sCount most size p).2.2 := by
  unfold cntC
  dsimp only
  split
  · rfl
  · rw [sFail_err h]
theorem sCount_put {most size : Int} (hm : 0 ≤ most) (hs : 0 < size) (n : Nat) (hn : n < 18446744073709551616) (w : List Int) :
    sCount most size (putB n ++ w, 0) = if (n : Int) ≤ most then (if size * n ≤ w.length then ((n : Int), (w, 0)) else (0, (putB n ++ w, 1))) else (0, (putB n ++ w, 6)) := by
  have hv := vdec_put n hn w
  have hv' : vdec 0 (putB n ++ w) = ((n : Int), ((putB n).length : Int), 0) := hv
  have hdiv : ((n : Int) > (((putB n ++ w).length : Int) - ((putB n).length : Int)) / size) ↔ ¬ size * n ≤ w.length := by
    rw [List.length_append]
    rw [show (((putB n).length + w.length : Nat) : Int) - ((putB n).length : Int) = w.length by omega]
    rw [gt_iff_lt, Int.ediv_lt_iff_lt_mul hs, Int.mul_comm, Int.not_le]
  have hw : whyC most size ((putB n ++ w).length : Int) (vdec 0 (putB n ++ w)) = if (n : Int) ≤ most then (if size * n ≤ w.length then 0 else 1) else 6 := by
    rw [hv']
    unfold whyC
    dsimp only
    rw [if_neg (by decide)]
    by_cases h1 : (n : Int) ≤ most
    · rw [if_neg (by omega), if_pos h1]
      by_cases h2 : size * n ≤ w.length
      · rw [if_pos h2, if_neg (fun h3 => hdiv.1 h3.2 h2)]
      · rw [if_neg h2, if_pos ⟨hs, hdiv.2 h2⟩]
    · rw [if_pos (by omega), if_neg h1]
  unfold sCount resC
  rw [if_neg (show ¬ ((0 : Int) ≠ 0) by decide)]
  dsimp only
  rw [if_neg (show ¬ (most < 0 ∨ size < 0) by omega), hw, hv']
  split
  · split
    · simp
    · rw [if_neg (show ¬ ((1 : Int) = 0) by decide)]; rfl
  · rw [if_neg (show ¬ ((6 : Int) = 0) by decide)]; rfl
theorem sCount_short {most size : Int} (hm : 0 ≤ most) (hs : 0 < size) (n k : Nat) (hk : k < (putB n).length) : sCount most size ((putB n).take k, 0) = (0, ((putB n).take k, 1)) := by
  have hv : vdec 0 ((putB n).take k) = (0, 0, 1) := vdec_prefix 9 0 n k (by omega) hk
  unfold sCount resC
  rw [if_neg (show ¬ ((0 : Int) ≠ 0) by decide)]
  dsimp only
  rw [if_neg (show ¬ (most < 0 ∨ size < 0) by omega), hv]
  have hw : whyC most size (((putB n).take k).length : Int) (0, 0, 1) = 1 := by unfold whyC; rw [if_pos (by decide)]
  rw [hw, if_neg (show ¬ ((1 : Int) = 0) by decide)]
  rfl
theorem sCount_inv {most size : Int} {l : List Int} (hl : isB l) (h : (sCount most size (l, 0)).2.2 = 0) :
    ∃ n : Nat, (sCount most size (l, 0)).1 = n ∧ (n : Int) ≤ most ∧ n < 18446744073709551616 ∧ l = putB n ++ (sCount most size (l, 0)).2.1 := by
  unfold sCount at h ⊢
  rw [if_neg (show ¬ ((0 : Int) ≠ 0) by decide)] at h ⊢
  dsimp only at h ⊢
  rcases resC_form hl most size with ⟨e, he, hr⟩ | ⟨n, m, _, _, hr, hv, hnm, _⟩
  · rw [hr] at h
    dsimp only at h
    rw [if_neg he] at h
    exact absurd h he
  · rw [hr]
    rw [if_pos rfl]
    dsimp only
    rcases vdec_form hl with ⟨e, he, h2⟩ | ⟨n', m', h2, h3, _, _, _, h6⟩
    · rw [hv] at h2
      simp only [Prod.mk.injEq] at h2
      omega
    · rw [hv] at h2
      simp only [Prod.mk.injEq] at h2
      obtain ⟨e1, e2, _⟩ := h2
      have e1' : n = n' := by omega
      have e2' : m = m' := by omega
      subst e1' e2'
      refine ⟨n, rfl, hnm, h3, ?_⟩
      rw [Int.toNat_natCast, show putB n = l.take m from h6.symm, List.take_append_drop]
/-- A count, and so many elements. -/
theorem Cod.cnt {β : Type} {sh : Int → Prop} (h1 : sh 1) (hnz : ∀ e, sh e → e ≠ 0) {most size why : Int} (hm : 0 ≤ most ∧ most < 18446744073709551616) (hs : 0 < size) (hw : why ≠ 0) (good : Int → Bool)
    {g : Int → Ps → β × Ps} {enc' : Int → β → List Int} {ok' : Int → β → Prop} (hg : ∀ n, 0 ≤ n → n ≤ most → good n = true → Cod sh (g n) (enc' n) (ok' n)) (hst : ∀ n p, p.2 ≠ 0 → (g n p).2.2 = p.2)
    (hsz : ∀ n x, ok' n x → size * n ≤ (enc' n x).length) :
    Cod sh (fun p => (((cntC most size why good p).1, (g (cntC most size why good p).1 (cntC most size why good p).2).1), (g (cntC most size why good p).1 (cntC most size why good p).2).2))
      (fun x => putB x.1.toNat ++ enc' x.1 x.2) (fun x => (0 ≤ x.1 ∧ x.1 ≤ most ∧ good x.1 = true) ∧ ok' x.1 x.2) where
  rt x r h := by
    obtain ⟨n, y⟩ := x
    obtain ⟨⟨h2, h3, h4⟩, h5⟩ := h
    dsimp only at h2 h3 h4 h5 ⊢
    obtain ⟨k, rfl⟩ : ∃ k : Nat, n = (k : Int) := ⟨n.toNat, by omega⟩
    have hz := hsz _ _ h5
    have hc : cntC most size why good (putB k ++ (enc' k y ++ r), 0) = ((k : Int), (enc' k y ++ r, 0)) := by
      have := sCount_put (most := most) (size := size) hm.1 hs k (by omega) (enc' k y ++ r)
      rw [if_pos h3, if_pos (by rw [List.length_append]; omega)] at this
      unfold cntC
      rw [this]
      dsimp only
      rw [if_pos h4]
    rw [Int.toNat_natCast, List.append_assoc, hc]
    dsimp only
    rw [(hg k h2 h3 h4).rt y r h5]
  ca l hl he := by
    dsimp only at he ⊢
    have h0 : (cntC most size why good (l, 0)).2.2 = 0 := by
      rcases Decidable.em ((cntC most size why good (l, 0)).2.2 = 0) with h | h
      · exact h
      · rw [hst _ _ h] at he; exact he
    have hgd : good (sCount most size (l, 0)).1 = true := by
      rcases Decidable.em (good (sCount most size (l, 0)).1 = true) with h | h
      · exact h
      · unfold cntC at h0
        dsimp only at h0
        rw [if_neg h] at h0
        exact absurd h0 (sFail_ne hw)
    have hc : cntC most size why good (l, 0) = sCount most size (l, 0) := by
      unfold cntC; rw [if_pos hgd]
    rw [hc] at h0 he ⊢
    obtain ⟨n, h2, h3, h4, h5⟩ := sCount_inv hl h0
    have hb : isB (sCount most size (l, 0)).2.1 := by rw [h5] at hl; exact isB_of_app hl
    have hp : (sCount most size (l, 0)).2 = ((sCount most size (l, 0)).2.1, 0) := Prod.ext rfl h0
    rw [hp] at he ⊢
    rw [h2] at he hgd ⊢
    obtain ⟨h6, h7⟩ := (hg n (by omega) h3 hgd).ca _ hb he
    refine ⟨⟨⟨by omega, h3, hgd⟩, h6⟩, ?_⟩
    rw [Int.toNat_natCast, List.append_assoc, ← h7, ← h5]
  pr x j h hj := by
    obtain ⟨n, y⟩ := x
    obtain ⟨⟨h2, h3, h4⟩, h5⟩ := h
    dsimp only at h2 h3 h4 h5 hj ⊢
    obtain ⟨k, rfl⟩ : ∃ k : Nat, n = (k : Int) := ⟨n.toNat, by omega⟩
    rw [Int.toNat_natCast] at hj ⊢
    rcases Nat.lt_or_ge j (putB k).length with hj1 | hj1
    · rw [List.take_append_of_le_length (by omega)]
      have hc := sCount_short (most := most) (size := size) hm.1 hs k j hj1
      have he : (cntC most size why good ((putB k).take j, 0)).2.2 = 1 := by rw [cntC_of (by rw [hc]; exact Int.one_ne_zero), hc]
      rw [hst _ _ (by rw [he]; exact Int.one_ne_zero), he]
      exact h1
    · rw [List.take_append, List.take_of_length_le hj1]
      rw [List.length_append] at hj
      have hc := sCount_put (most := most) (size := size) hm.1 hs k (by omega) ((enc' k y).take (j - (putB k).length))
      rw [if_pos h3] at hc
      split at hc
      · have hcc : cntC most size why good (putB k ++ (enc' k y).take (j - (putB k).length), 0) = ((k : Int), ((enc' k y).take (j - (putB k).length), 0)) := by
          unfold cntC; rw [hc]; dsimp only; rw [if_pos h4]
        rw [hcc]
        dsimp only
        exact (hg k h2 h3 h4).pr y _ h5 (by omega)
      · have he : (cntC most size why good (putB k ++ (enc' k y).take (j - (putB k).length), 0)).2.2 = 1 := by rw [cntC_of (by rw [hc]; exact Int.one_ne_zero), hc]
        rw [hst _ _ (by rw [he]; exact Int.one_ne_zero), he]
        exact h1
  st p hp := by
    dsimp only
    have h2 : (sCount most size p).2.2 = p.2 := by rw [sCount_err hp]
    have h3 : (cntC most size why good p).2.2 = p.2 := by rw [cntC_of (by rw [h2]; exact hp), h2]
    rw [hst _ _ (by rw [h3]; exact hp), h3]
  nz := hnz

/-! ### one after the other -/
section
variable {σ α : Type}
/-- So many, each with what the ones ahead of it say; none after an error. -/
def rep (f : σ → Ps → α × Ps) (nx : σ → α → σ) : Nat → σ → Ps → List α × Ps
  | 0, s, p => ([], p)
  | n + 1, s, p => if p.2 ≠ 0 then ([], p) else ((f s p).1 :: (rep f nx n (nx s (f s p).1) (f s p).2).1, (rep f nx n (nx s (f s p).1) (f s p).2).2)
def encL (enc : σ → α → List Int) (nx : σ → α → σ) : σ → List α → List Int
  | s, [] => []
  | s, x :: xs => enc s x ++ encL enc nx (nx s x) xs
def okL (ok : σ → α → Prop) (nx : σ → α → σ) : σ → List α → Prop
  | s, [] => True
  | s, x :: xs => ok s x ∧ okL ok nx (nx s x) xs
def foldS (nx : σ → α → σ) : σ → List α → σ
  | s, [] => s
  | s, x :: xs => foldS nx (nx s x) xs
theorem rep_err {f : σ → Ps → α × Ps} {nx : σ → α → σ} {p : Ps} (h : p.2 ≠ 0) : ∀ n s, rep f nx n s p = ([], p)
  | 0, s => rfl
  | n + 1, s => if_pos h
theorem rep_suf {f : σ → Ps → α × Ps} {nx : σ → α → σ} (hf : ∀ s p, (f s p).2.1 <:+ p.1) : ∀ n s p, (rep f nx n s p).2.1 <:+ p.1
  | 0, s, p => List.suffix_refl _
  | n + 1, s, p => by
    unfold rep
    split
    · exact List.suffix_refl _
    · exact (rep_suf hf n _ _).trans (hf s p)
/-- One more round. -/
theorem rep_step {f : σ → Ps → α × Ps} {nx : σ → α → σ} {n : Nat} {s : σ} {p : Ps} (h : p.2 = 0) :
    rep f nx (n + 1) s p = ((f s p).1 :: (rep f nx n (nx s (f s p).1) (f s p).2).1, (rep f nx n (nx s (f s p).1) (f s p).2).2) := if_neg (by rw [h]; simp)
theorem rep_full {f : σ → Ps → α × Ps} {nx : σ → α → σ} : ∀ n s p, (rep f nx n s p).2.2 = 0 → (rep f nx n s p).1.length = n
  | 0, s, p, _ => rfl
  | n + 1, s, p, h => by
    by_cases hp : p.2 = 0
    · rw [rep_step hp] at h ⊢
      simpa using rep_full n _ _ h
    · rw [rep_err hp] at h; exact absurd h hp
/-- After k rounds: acc is read, p is left. -/
def Run (f : σ → Ps → α × Ps) (nx : σ → α → σ) (N : Nat) (s0 : σ) (p0 : Ps) (k : Nat) (s : σ) (p : Ps) (acc : List α) : Prop :=
  rep f nx N s0 p0 = (acc ++ (rep f nx (N - k) s p).1, (rep f nx (N - k) s p).2)
theorem Run.start {f : σ → Ps → α × Ps} {nx : σ → α → σ} (N : Nat) (s0 : σ) (p0 : Ps) : Run f nx N s0 p0 0 s0 p0 [] := rfl
theorem Run.next {f : σ → Ps → α × Ps} {nx : σ → α → σ} {N : Nat} {s0 : σ} {p0 : Ps} {k : Nat} {s : σ} {p : Ps} {acc : List α} (h : Run f nx N s0 p0 k s p acc) (hk : k < N) (hp : p.2 = 0)
    {x : α} {p' : Ps} (hf : f s p = (x, p')) (s' : σ) (hs : p'.2 = 0 → s' = nx s x) : Run f nx N s0 p0 (k + 1) s' p' (acc ++ [x]) := by
  unfold Run at h ⊢
  obtain ⟨m, hm⟩ : ∃ m, N - k = m + 1 := ⟨N - k - 1, by omega⟩
  rw [hm, rep_step hp, hf] at h
  rw [show N - (k + 1) = m by omega, h]
  dsimp only
  by_cases hp' : p'.2 = 0
  · rw [hs hp']; simp
  · rw [rep_err hp', rep_err hp']; simp
theorem Run.done {f : σ → Ps → α × Ps} {nx : σ → α → σ} {N : Nat} {s0 : σ} {p0 : Ps} {k : Nat} {s : σ} {p : Ps} {acc : List α} (h : Run f nx N s0 p0 k s p acc) (hd : N ≤ k ∨ p.2 ≠ 0) : rep f nx N s0 p0 = (acc, p) := by
  unfold Run at h
  rcases hd with hd | hd
  · rw [show N - k = 0 by omega] at h; rw [h]; simp [rep]
  · rw [rep_err hd] at h; rw [h]; simp
theorem encL_len {enc : σ → α → List Int} {nx : σ → α → σ} (k : Nat) (h : ∀ s x, k ≤ (enc s x).length) : ∀ s l, k * l.length ≤ (encL enc nx s l).length
  | s, [] => by simp
  | s, x :: xs => by
    have := encL_len (nx := nx) k h (nx s x) xs
    have := h s x
    simp only [encL, List.length_append, List.length_cons, Nat.mul_add]
    omega
theorem Cod.rep {sh : Int → Prop} (hnz : ∀ e, sh e → e ≠ 0) {f : σ → Ps → α × Ps} {nx : σ → α → σ} {enc : σ → α → List Int} {ok : σ → α → Prop} (good : σ → Prop)
    (hf : ∀ s, good s → Cod sh (f s) (enc s) (ok s)) (hst : ∀ s p, p.2 ≠ 0 → (f s p).2.2 = p.2) (hgd : ∀ s x, good s → ok s x → good (nx s x)) : ∀ n s, good s → Cod sh (Cu.rep f nx n s) (encL enc nx s) (fun l => l.length = n ∧ okL ok nx s l)
  | 0, s, hs => (Cod.none hnz ([] : List α)).congr (fun p => rfl) (fun x h => by rw [h]; rfl) (fun x => by
      constructor
      · rintro ⟨h, _⟩; exact List.eq_nil_of_length_eq_zero h
      · rintro rfl; exact ⟨rfl, trivial⟩)
  | n + 1, s, hs => by
    have ih := fun x hx => Cod.rep hnz good hf hst hgd n (nx s x) hx
    have hseq := (hf s hs).seq (g := fun x => Cu.rep f nx n (nx s x)) (fun x hx => ih x (hgd s x hs hx)) (fun x p hp => by rw [rep_err hp])
    refine hseq.map0 _ _ _ (fun x => x.1 :: x.2) (fun l => match l with
      | x :: xs => (x, xs)
      | [] => ((f s ([], 0)).1, [])) ?_ (fun p hp => by rw [rep_err hp]) ?_ ?_
    · intro l
      rw [rep_step rfl]
      exact ⟨rfl, fun _ => rfl⟩
    · rintro (_ | ⟨x, xs⟩) ⟨h1, h2⟩
      · simp at h1
      · exact ⟨⟨h2.1, by simpa using h1, h2.2⟩, rfl, rfl⟩
    · rintro ⟨x, xs⟩ ⟨h1, h2, h3⟩
      exact ⟨⟨by simp [h2], h1, h3⟩, rfl⟩
end
end Go.Proofs.YtchebkpcgglllaaGreat.Cu

namespace Go.Proofs.YtchebkpcgglllaaGreat.Cu
open Go Go.SX Go.Proofs.YtchebkpcgglllaaGreat.VT
set_option maxRecDepth 100000
set_option linter.unusedVariables false
set_option linter.unusedSimpArgs false

theorem sNum_rngB {bound why : Int} {p : Ps} (hb : isB p.1) : 0 ≤ (sNum bound why p).1 ∧ ((sNum bound why p).1 < bound ∨ (sNum bound why p).1 = 0) := by
  have h := sUint_range (most := maxU) hb
  unfold sNum
  split
  · exact ⟨Int.le_refl _, .inr rfl⟩
  · exact ⟨h.1, .inl (by omega)⟩
/-- The reference fails, unless it has. -/
theorem r18Fail_fn {G : Gh} {A : Option Addr} {c : Nat} {p r : Ps} (why : Int) (h : RIn G A c p r) (hw : why ≠ 0) :
    Ct Tryz.prog 81 [inS A c r, .v (.int .i64 why)] [] G fun sv H' G' => ∃ A c r', sv = inS A c r' ∧ RIn G A c (sFail why p) r' ∧ H' = [] ∧ G' = G := by
  obtain ⟨hs, hbb, hl, he, hr⟩ := h
  refine fn_of follows [] Tryz.func81 rfl rfl fun E hE => ?_
  repeat' ((fail_if_success with_reducible refine Stop.mk ?_);(conv=>whnf);with_reducible first|refine br_n (fun h=>?_) fun h=>?_|refine stop ?_)
  all_goals refine Stop.mk ?_
  rotate_left
  · have hne : p.2 ≠ 0 := by rw [← he]; assumption
    refine fin_id hE 0 rfl rfl rfl rfl ⟨A, c, r, rfl, ?_, rfl, rfl⟩
    have e0 : sFail why p = p := by unfold sFail failE; rw [if_neg hne]
    rw [e0]
    exact ⟨hs, hbb, hl, he, hr⟩
  · have h0 : p.2 = 0 := by rw [← he]; omega
    refine fin_id hE 0 rfl rfl rfl rfl ⟨none, 0, ([], why), rfl, ?_, rfl, rfl⟩
    exact RIn.err (by unfold sFail failE; dsimp only; rw [if_pos h0]) hw
theorem r18Size_fn {G : Gh} {A : Option Addr} {c : Nat} {p r : Ps} (h : RIn G A c p r) :
    Ct Tryz.prog 80 [inS A c r] [] G (RPost G (.v (.int .i64 (sNum 1048577 6 p).1)) (sNum 1048577 6 p).2) := by
  refine fn_of follows [] Tryz.func80 rfl rfl fun E hE => ?_
  repeat' ((fail_if_success with_reducible refine Stop.mk ?_);(conv=>whnf);with_reducible refine stop ?_)
  all_goals refine Stop.mk ?_
  refine call_fn [] (rNumber_fn 1048577 6 h (by decide) (by decide)) rfl trivial (by decide) ?_
  rintro sv H' G' ⟨B1, d1, r1, rfl, hR1, rfl, rfl⟩ -
  refine ⟨Nat.le_of_ble_eq_true rfl, ?_⟩
  repeat' ((fail_if_success with_reducible refine Stop.mk ?_);(conv=>whnf);with_reducible refine stop ?_)
  all_goals refine Stop.mk ?_
  exact fin_id hE 0 rfl rfl rfl rfl ⟨B1, d1, r1, rfl, hR1, rfl, rfl⟩
theorem RIn.errs {G : Gh} {A : Option Addr} {c : Nat} {q r p : Ps} (h : RIn G A c q r) (hq : q.2 ≠ 0) (hp : p.2 = q.2) : RIn G A c p r :=
  ⟨h.hs, h.hb, h.hl, by rw [h.he, hp], fun h0 => absurd (hp ▸ h0) hq⟩
theorem sUint_err0 {most : Int} {p : Ps} (h : (sUint most p).2.2 ≠ 0) : (sUint most p).1 = 0 := by
  unfold sUint at h ⊢
  split
  · rfl
  · rename_i hp
    rw [if_neg hp] at h
    split
    · rename_i hw
      rw [if_pos hw] at h
      exact absurd rfl h
    · rfl
theorem sNum_err0 {bound why : Int} {p : Ps} (h : (sNum bound why p).2.2 ≠ 0) : (sNum bound why p).1 = 0 := by
  unfold sNum at h ⊢
  split
  · rfl
  · rename_i hb
    rw [if_neg hb] at h
    exact sUint_err0 h
/-- A count is a number that so many elements may follow. -/
theorem sCount_num {size : Int} {p : Ps} (hb : isB p.1) (hs : 0 < size) :
    ((sNum 1048577 6 p).2.2 ≠ 0 → (sCount 1048576 size p).1 = 0 ∧ (sCount 1048576 size p).2.2 = (sNum 1048577 6 p).2.2) ∧
    ((sNum 1048577 6 p).2.2 = 0 → sCount 1048576 size p = if (sNum 1048577 6 p).1 > ((sNum 1048577 6 p).2.1.length : Int) / size then (0, sFail 1 p) else sNum 1048577 6 p) := by
  obtain ⟨l, e⟩ := p
  by_cases he : e = 0
  · subst he
    have hn : sNum 1048577 6 (l, 0) = if (1048577 : Int) ≤ (sUint maxU (l, 0)).1 then (0, sFail 6 (sUint maxU (l, 0)).2) else sUint maxU (l, 0) := rfl
    rw [sUint_max' hb] at hn
    rcases vdec_form hb with ⟨x, hx, hv⟩ | ⟨n, m, hv, h3, h4, h5, h6, h7⟩
    · rw [hv] at hn
      dsimp only at hn
      rw [if_neg (show ¬ x = 0 by omega)] at hn
      dsimp only at hn
      rw [if_neg (show ¬ (1048577 : Int) ≤ 0 by decide)] at hn
      have hc : sCount 1048576 size (l, 0) = (0, (l, x)) := by
        unfold sCount resC
        rw [if_neg (show ¬ ((0 : Int) ≠ 0) by decide)]
        dsimp only
        rw [if_neg (show ¬ ((1048576 : Int) < 0 ∨ size < 0) by omega)]
        dsimp only at hv
        have hw : whyC 1048576 size (l.length : Int) (vdec 0 l) = x := by rw [hv]; unfold whyC; rw [if_pos (by dsimp only; omega)]
        rw [hw, if_neg (show ¬ x = 0 by omega)]
        exact if_neg (show ¬ x = 0 by omega)
      rw [hn, hc]
      exact ⟨fun _ => ⟨rfl, rfl⟩, fun h => absurd h (by dsimp only; omega)⟩
    · dsimp only at hv h5
      rw [hv] at hn
      dsimp only at hn
      rw [if_pos rfl] at hn
      have hc : sCount 1048576 size (l, 0) = if whyC 1048576 size (l.length : Int) ((n : Int), (m : Int), 0) = 0 then ((n : Int), (l.drop m, 0)) else (0, (l, whyC 1048576 size (l.length : Int) ((n : Int), (m : Int), 0))) := by
        unfold sCount resC
        rw [if_neg (show ¬ ((0 : Int) ≠ 0) by decide)]
        dsimp only
        rw [if_neg (show ¬ ((1048576 : Int) < 0 ∨ size < 0) by omega), hv]
        by_cases hw : whyC 1048576 size (l.length : Int) ((n : Int), (m : Int), 0) = 0
        · rw [if_pos hw, if_pos hw]
          simp
        · rw [if_neg hw, if_neg hw]
          dsimp only
          rw [if_neg hw]
      by_cases hbig : (1048577 : Int) ≤ n
      · rw [if_pos (by exact hbig)] at hn
        have hw : whyC 1048576 size (l.length : Int) ((n : Int), (m : Int), 0) = 6 := by unfold whyC; dsimp only; rw [if_neg (by decide), if_pos (by omega)]
        rw [hw, if_neg (by decide)] at hc
        rw [hn, hc]
        have h6' : (sFail 6 (l.drop m, 0)).2 = 6 := by unfold sFail failE; rw [if_pos rfl]
        refine ⟨fun _ => ⟨rfl, ?_⟩, fun h => absurd h ?_⟩
        · dsimp only; rw [Int.toNat_natCast, h6']
        · dsimp only; rw [Int.toNat_natCast, h6']; decide
      · rw [if_neg (by exact hbig)] at hn
        rw [Int.toNat_natCast] at hn
        rw [hn, hc]
        dsimp only
        refine ⟨fun h => absurd rfl h, fun _ => ?_⟩
        have hld : ((l.drop m).length : Int) = (l.length : Int) - m := by rw [List.length_drop]; omega
        rw [hld]
        by_cases hg : (n : Int) > ((l.length : Int) - m) / size
        · have hw : whyC 1048576 size (l.length : Int) ((n : Int), (m : Int), 0) = 1 := by unfold whyC; dsimp only; rw [if_neg (by decide), if_neg (by omega), if_pos ⟨hs, hg⟩]
          rw [hw, if_neg (by decide), if_pos hg]
          unfold sFail failE
          rw [if_pos rfl]
        · have hw : whyC 1048576 size (l.length : Int) ((n : Int), (m : Int), 0) = 0 := by unfold whyC; dsimp only; rw [if_neg (by decide), if_neg (by omega), if_neg (fun h => hg h.2)]
          rw [hw, if_pos rfl, if_neg hg]
  · have h1 : sNum 1048577 6 (l, e) = (0, (l, e)) := sNum_err (p := (l, e)) he
    have h2 : sCount 1048576 size (l, e) = (0, (l, e)) := sCount_err (p := (l, e)) he
    rw [h1, h2]
    exact ⟨fun _ => ⟨rfl, rfl⟩, fun h => absurd h he⟩
set_option maxHeartbeats 8000000 in
theorem r18Count_fn {G : Gh} {A : Option Addr} {c : Nat} {p r : Ps} (size : Int) (h : RIn G A c p r) (hb : isB p.1) (hs : 0 < size ∧ size < 1000) :
    Ct Tryz.prog 87 [inS A c r, .v (.int .i64 size)] [] G (RPost G (.v (.int .i64 (sCount 1048576 size p).1)) (sCount 1048576 size p).2) := by
  have hcn := sCount_num (size := size) hb hs.1
  have hrg := sNum_rngB (bound := 1048577) (why := 6) hb
  refine fn_of follows [(4, (.cons 0 [] (.cons 1 [] (.cons 2 [] (.cons 3 [1] .nil)))))] Tryz.func87 rfl rfl fun E hE => ?_
  repeat' ((fail_if_success with_reducible refine Stop.mk ?_);(conv=>whnf);with_reducible refine stop ?_)
  all_goals refine Stop.mk ?_
  refine call_fn [] (r18Size_fn h) rfl trivial (by decide) ?_
  rintro sv H' G' ⟨B1, d1, r1, rfl, hR1, rfl, rfl⟩ -
  refine ⟨Nat.le_of_ble_eq_true rfl, ?_⟩
  have hp0 : (sNum 1048577 6 p).2.2 = 0 → p.2 = 0 := fun h1 => Classical.byContradiction fun h2 => h2 (by rw [sNum_err h2] at h1; exact h1)
  have hn0 : (sNum 1048577 6 p).2.2 ≠ 0 → (sNum 1048577 6 p).1 = 0 := sNum_err0
  generalize sNum 1048577 6 p = u at *
  obtain ⟨n, q⟩ := u
  dsimp only at hcn hrg hR1 hn0 hp0 ⊢
  have hl1 := hR1.hl
  have he1 := hR1.he
  repeat' ((fail_if_success with_reducible refine Stop.mk ?_);(conv=>whnf);with_reducible first|refine br_f ?_|refine br_e (fun h=>?_) fun h=>?_|refine drw (by kernel_rfl) ?_|refine stop ?_)
  all_goals refine Stop.mk ?_
  · have h0 : q.2 = 0 := by rw [← he1]; omega
    have hc := hcn.2 h0
    refine ⟨by omega, ?_⟩
    rw [Int.tdiv_eq_ediv_of_nonneg (by omega)]
    have hq1 : ((r1.1.length : Int)) / size ≤ (r1.1.length : Int) := Int.ediv_le_self _ (by omega)
    have hq0 : 0 ≤ ((r1.1.length : Int)) / size := Int.ediv_nonneg (by omega) (by omega)
    rw [i64_in (n := (r1.1.length : Int) / size) (by omega) (by omega)]
    rw [← hR1.hr h0] at hc
    repeat' ((fail_if_success with_reducible refine Stop.mk ?_);(conv=>whnf);with_reducible first|refine br_d (fun h=>?_) fun h=>?_|refine drw (by kernel_rfl) ?_|refine stop ?_)
    all_goals refine Stop.mk ?_
    · refine call_fn [] (r18Fail_fn 1 hR1 (by decide)) rfl trivial (by decide) ?_
      rintro sv H' G' ⟨B2, d2, r2, rfl, hR2, rfl, rfl⟩ -
      refine ⟨Nat.le_of_ble_eq_true rfl, ?_⟩
      repeat' ((fail_if_success with_reducible refine Stop.mk ?_);(conv=>whnf);with_reducible refine stop ?_)
      all_goals refine Stop.mk ?_
      rw [if_pos (by assumption)] at hc
      refine fin_id hE 0 rfl rfl rfl rfl ?_
      rw [hc]
      refine ⟨B2, d2, r2, rfl, hR2.errs ?_ ?_, rfl, rfl⟩
      · exact sFail_ne (by decide)
      · unfold sFail failE; dsimp only; rw [hp0 h0, h0]
    · rw [if_neg (by assumption)] at hc
      refine fin_id hE 0 rfl rfl rfl rfl ?_
      rw [hc]
      exact ⟨B1, d1, r1, rfl, hR1, rfl, rfl⟩
  · have h0 : q.2 ≠ 0 := by rw [← he1]; omega
    obtain ⟨hc1, hc2⟩ := hcn.1 h0
    refine fin_id hE 0 rfl rfl rfl rfl ⟨B1, d1, r1, ?_, hR1.errs h0 hc2, rfl, rfl⟩
    rw [hc1, hn0 h0]
    rfl
end Go.Proofs.YtchebkpcgglllaaGreat.Cu

namespace Go.Proofs.YtchebkpcgglllaaGreat.Cu
open Go Go.SX Go.Proofs.YtchebkpcgglllaaGreat.VT
set_option maxRecDepth 100000
set_option linter.unusedVariables false
set_option linter.unusedSimpArgs false

structure Ins where
  op : Int
  d : Int
  a : Int
  b : Int
  imm : Int
structure Mac where
  op : Int
  d : Int
  a : Int
  b : Int
  imm : Int
  dst : Int
  src : Int
structure Trm where
  kind : Int
  a : Int
  to_ : Int
  els : Int
def Ins.l (i : Ins) : List Int := [i.op, i.d, i.a, i.b, i.imm]
def Mac.l (i : Mac) : List Int := [i.op, i.d, i.a, i.b, i.imm, i.dst, i.src]
def Trm.l (t : Trm) : List Int := [t.kind, t.a, t.to_, t.els]
def Ins.sv (i : Ins) : SV := .agg [.v (.int .i64 i.op), .v (.int .i64 i.d), .v (.int .i64 i.a), .v (.int .i64 i.b), .v (.int .i64 i.imm)]
def Mac.sv (i : Mac) : SV := .agg [.v (.int .i64 i.op), .v (.int .i64 i.d), .v (.int .i64 i.a), .v (.int .i64 i.b), .v (.int .i64 i.imm), .v (.int .i64 i.dst), .v (.int .i64 i.src)]
def Trm.sv (t : Trm) : SV := .agg [.v (.int .i64 t.kind), .v (.int .i64 t.a), .v (.int .i64 t.to_), .v (.int .i64 t.els)]
def Ins.ok (i : Ins) : Prop := in64 i.op ∧ in64 i.d ∧ in64 i.a ∧ in64 i.b ∧ in64 i.imm
def Mac.ok (i : Mac) : Prop := in64 i.op ∧ in64 i.d ∧ in64 i.a ∧ in64 i.b ∧ in64 i.imm ∧ in64 i.dst ∧ in64 i.src
def Trm.ok (t : Trm) : Prop := in64 t.kind ∧ in64 t.a ∧ in64 t.to_ ∧ in64 t.els

/-! ### opcodes -/
def known (op : Int) : Prop := 1 ≤ op ∧ op ≤ 18
def uD (op : Int) : Prop := 1 ≤ op ∧ op ≤ 16
def uA (op : Int) : Prop := 2 ≤ op ∧ op ≤ 17
def uB (op : Int) : Prop := 5 ≤ op ∧ op ≤ 16
instance (op : Int) : Decidable (known op) := inferInstanceAs (Decidable (_ ∧ _))
instance (op : Int) : Decidable (uD op) := inferInstanceAs (Decidable (_ ∧ _))
instance (op : Int) : Decidable (uA op) := inferInstanceAs (Decidable (_ ∧ _))
instance (op : Int) : Decidable (uB op) := inferInstanceAs (Decidable (_ ∧ _))
theorem known_fn (G : Gh) (op : Int) : Ct Tryz.prog 145 [.v (.int .i64 op)] [] G fun sv H' G' => sv = .v (.bool (decide (known op))) ∧ H' = [] ∧ G' = G := by
  refine fn_of follows [] Tryz.func145 rfl rfl fun E hE => ?_
  repeat' ((fail_if_success with_reducible refine Stop.mk ?_);(conv=>whnf);with_reducible first|refine br_d (fun h=>?_) fun h=>?_|refine stop ?_)
  all_goals refine Stop.mk ?_
  all_goals refine fin_all ⟨congrArg (fun b => SV.v (.bool b)) ?_, rfl, rfl⟩
  all_goals
    refine bdec ?_
    simp only [decide_eq_true_iff, beq_iff_eq, bne_iff_ne, ne_eq, Bool.false_eq_true, false_iff, true_iff, known, uD, uA, uB] at *
    omega
/-- What Of returns. -/
def shp (d a b i k : Bool) : SV := .tup [.agg [.v (.bool d), .v (.bool a), .v (.bool b), .v (.bool i)], .v (.bool k)]
theorem of_fn (G : Gh) (op : Int) : Ct Tryz.prog 116 [.v (.int .i64 op)] [] G fun sv H' G' => sv = shp (decide (uD op)) (decide (uA op)) (decide (uB op)) (decide (op = 1)) (decide (known op)) ∧ H' = [] ∧ G' = G := by
  refine fn_of follows [] Tryz.func116 rfl rfl fun E hE => ?_
  repeat' ((fail_if_success with_reducible refine Stop.mk ?_);(conv=>whnf);with_reducible refine stop ?_)
  all_goals refine Stop.mk ?_
  refine call_fn [] (known_fn _ op) rfl trivial (by decide) ?_
  rintro sv H' G' ⟨rfl, rfl, rfl⟩ -
  refine ⟨Nat.le_of_ble_eq_true rfl, ?_⟩
  repeat' ((fail_if_success with_reducible refine Stop.mk ?_);(conv=>whnf);with_reducible first|refine br_not ?_|refine br_d (fun h=>?_) fun h=>?_|refine br_e (fun h=>?_) fun h=>?_|refine stop ?_)
  all_goals refine Stop.mk ?_
  all_goals refine fin_id hE 0 rfl rfl rfl rfl ⟨?_, rfl, rfl⟩
  all_goals
    unfold shp
    have key : ∀ {a b c d e a' b' c' d' e' : Bool}, a = a' → b = b' → c = c' → d = d' → e = e' → SV.tup [.agg [.v (.bool a), .v (.bool b), .v (.bool c), .v (.bool d)], .v (.bool e)] = .tup [.agg [.v (.bool a'), .v (.bool b'), .v (.bool c'), .v (.bool d')], .v (.bool e')] := by
      rintro _ _ _ _ _ _ _ _ _ _ rfl rfl rfl rfl rfl; rfl
    refine key ?_ ?_ ?_ ?_ ?_
  all_goals
    refine bdec ?_
    simp only [decide_eq_true_iff, beq_iff_eq, bne_iff_ne, ne_eq, Bool.false_eq_true, false_iff, true_iff, known, uD, uA, uB] at *
    omega
theorem source_fn (G : Gh) (op : Int) : Ct Tryz.prog 115 [.v (.int .i64 op)] [] G fun sv H' G' => sv = .v (.bool (decide (known op ∧ op ≠ 18))) ∧ H' = [] ∧ G' = G := by
  refine fn_of follows [] Tryz.func115 rfl rfl fun E hE => ?_
  repeat' ((fail_if_success with_reducible refine Stop.mk ?_);(conv=>whnf);with_reducible refine stop ?_)
  all_goals refine Stop.mk ?_
  refine call_fn [] (known_fn _ op) rfl trivial (by decide) ?_
  rintro sv H' G' ⟨rfl, rfl, rfl⟩ -
  refine ⟨Nat.le_of_ble_eq_true rfl, ?_⟩
  repeat' ((fail_if_success with_reducible refine Stop.mk ?_);(conv=>whnf);with_reducible first|refine br_d (fun h=>?_) fun h=>?_|refine stop ?_)
  all_goals refine Stop.mk ?_
  all_goals refine fin_all ⟨congrArg (fun b => SV.v (.bool b)) ?_, rfl, rfl⟩
  all_goals
    refine bdec ?_
    simp only [decide_eq_true_iff, beq_iff_eq, bne_iff_ne, ne_eq, Bool.false_eq_true, false_iff, true_iff, known, uD, uA, uB] at *
    omega
theorem machine_fn (G : Gh) (op : Int) : Ct Tryz.prog 120 [.v (.int .i64 op)] [] G fun sv H' G' => sv = .v (.bool (decide (known op ∧ op ≠ 2))) ∧ H' = [] ∧ G' = G := by
  refine fn_of follows [] Tryz.func120 rfl rfl fun E hE => ?_
  repeat' ((fail_if_success with_reducible refine Stop.mk ?_);(conv=>whnf);with_reducible refine stop ?_)
  all_goals refine Stop.mk ?_
  refine call_fn [] (known_fn _ op) rfl trivial (by decide) ?_
  rintro sv H' G' ⟨rfl, rfl, rfl⟩ -
  refine ⟨Nat.le_of_ble_eq_true rfl, ?_⟩
  repeat' ((fail_if_success with_reducible refine Stop.mk ?_);(conv=>whnf);with_reducible first|refine br_d (fun h=>?_) fun h=>?_|refine stop ?_)
  all_goals refine Stop.mk ?_
  all_goals refine fin_all ⟨congrArg (fun b => SV.v (.bool b)) ?_, rfl, rfl⟩
  all_goals
    refine bdec ?_
    simp only [decide_eq_true_iff, beq_iff_eq, bne_iff_ne, ne_eq, Bool.false_eq_true, false_iff, true_iff, known, uD, uA, uB] at *
    omega
theorem usesD_fn (G : Gh) (op : Int) : Ct Tryz.prog 140 [.v (.int .i64 op)] [] G fun sv H' G' => sv = .v (.bool (decide (uD op))) ∧ H' = [] ∧ G' = G := by
  refine fn_of follows [] Tryz.func140 rfl rfl fun E hE => ?_
  repeat' ((fail_if_success with_reducible refine Stop.mk ?_);(conv=>whnf);with_reducible first|refine br_d (fun h=>?_) fun h=>?_|refine stop ?_)
  all_goals refine Stop.mk ?_
  all_goals refine fin_all ⟨congrArg (fun b => SV.v (.bool b)) ?_, rfl, rfl⟩
  all_goals
    refine bdec ?_
    simp only [decide_eq_true_iff, beq_iff_eq, bne_iff_ne, ne_eq, Bool.false_eq_true, false_iff, true_iff, known, uD, uA, uB] at *
    omega
theorem usesA_fn (G : Gh) (op : Int) : Ct Tryz.prog 141 [.v (.int .i64 op)] [] G fun sv H' G' => sv = .v (.bool (decide (uA op))) ∧ H' = [] ∧ G' = G := by
  refine fn_of follows [] Tryz.func141 rfl rfl fun E hE => ?_
  repeat' ((fail_if_success with_reducible refine Stop.mk ?_);(conv=>whnf);with_reducible first|refine br_d (fun h=>?_) fun h=>?_|refine stop ?_)
  all_goals refine Stop.mk ?_
  all_goals refine fin_all ⟨congrArg (fun b => SV.v (.bool b)) ?_, rfl, rfl⟩
  all_goals
    refine bdec ?_
    simp only [decide_eq_true_iff, beq_iff_eq, bne_iff_ne, ne_eq, Bool.false_eq_true, false_iff, true_iff, known, uD, uA, uB] at *
    omega
theorem usesB_fn (G : Gh) (op : Int) : Ct Tryz.prog 142 [.v (.int .i64 op)] [] G fun sv H' G' => sv = .v (.bool (decide (uB op))) ∧ H' = [] ∧ G' = G := by
  refine fn_of follows [] Tryz.func142 rfl rfl fun E hE => ?_
  repeat' ((fail_if_success with_reducible refine Stop.mk ?_);(conv=>whnf);with_reducible first|refine br_d (fun h=>?_) fun h=>?_|refine stop ?_)
  all_goals refine Stop.mk ?_
  all_goals refine fin_all ⟨congrArg (fun b => SV.v (.bool b)) ?_, rfl, rfl⟩
  all_goals
    refine bdec ?_
    simp only [decide_eq_true_iff, beq_iff_eq, bne_iff_ne, ne_eq, Bool.false_eq_true, false_iff, true_iff, known, uD, uA, uB] at *
    omega

deriving instance DecidableEq for Ins
deriving instance DecidableEq for Mac
deriving instance DecidableEq for Trm
/-- The five shapes. -/
def shape5 (sD sA sB sI : Bool) : Prop := (sD = true ∧ sA = false ∧ sB = false ∧ sI = true) ∨ (sD = true ∧ sA = true ∧ sB = false ∧ sI = false) ∨ (sD = true ∧ sA = true ∧ sB = true ∧ sI = false) ∨
  (sD = false ∧ sA = true ∧ sB = false ∧ sI = false) ∨ (sD = false ∧ sA = false ∧ sB = false ∧ sI = false)
theorem shape_of (op : Int) : shape5 (decide (uD op)) (decide (uA op)) (decide (uB op)) (decide (op = 1)) := by
  have tt : ∀ {P : Prop} [Decidable P], P → decide P = true := fun h => decide_eq_true h
  have ff : ∀ {P : Prop} [Decidable P], ¬ P → decide P = false := fun h => decide_eq_false h
  by_cases h1 : op = 1
  · exact .inl ⟨tt (by unfold uD; omega), ff (by unfold uA; omega), ff (by unfold uB; omega), tt h1⟩
  by_cases h2 : 2 ≤ op ∧ op ≤ 4
  · exact .inr (.inl ⟨tt (by unfold uD; omega), tt (by unfold uA; omega), ff (by unfold uB; omega), ff h1⟩)
  by_cases h3 : 5 ≤ op ∧ op ≤ 16
  · exact .inr (.inr (.inl ⟨tt (by unfold uD; omega), tt (by unfold uA; omega), tt (by unfold uB; omega), ff h1⟩))
  by_cases h4 : op = 17
  · exact .inr (.inr (.inr (.inl ⟨ff (by unfold uD; omega), tt (by unfold uA; omega), ff (by unfold uB; omega), ff h1⟩)))
  · exact .inr (.inr (.inr (.inr ⟨ff (by unfold uD; omega), ff (by unfold uA; omega), ff (by unfold uB; omega), ff h1⟩)))
end Go.Proofs.YtchebkpcgglllaaGreat.Cu

namespace Go.Proofs.YtchebkpcgglllaaGreat.Cu
open Go Go.SX
set_option maxRecDepth 100000
theorem consE {P : Program} {α β : Type} {f : Field} {fs : List Field} {o n' : Nat} {d : Kd α} {R : Gh → β → List Value → Prop} (o' n : Nat) (hd : Opens P f.type d) (ho : f.offset = o) (hoo : o' = o + d.sz) (hnn : n' = d.sz + n) (hr : OpensF P fs o' n R) :
    OpensF P (f :: fs) o n' (β := α × β) (fun G x cs => ∃ c1 c2, cs = c1 ++ c2 ∧ d.R G x.1 c1 ∧ R G x.2 c2) := by
  subst hoo hnn; exact .cons ho hd hr
theorem wf_i64 (x : Int) (h : (Lit.int .i64 x).wf = true) : -9223372036854775808 ≤ x ∧ x ≤ 9223372036854775807 := by
  simp [Lit.wf, IntKind.min, IntKind.max, IntKind.signed, IntKind.bits] at h
  omega
theorem opens_i {t : TypeId} (hc : Tryz.prog.cellsOf t = 1) (ht : Tryz.prog.underlying t = some (.int .i64)) : Opens Tryz.prog t (kI .i64 (-9223372036854775808) 9223372036854775807) := opens_int hc ht wf_i64
theorem opens_int_ : Opens Tryz.prog 3 (kI .i64 (-9223372036854775808) 9223372036854775807) := opens_i (by kernel_rfl) Tryz.underlying3
theorem opens_loc : Opens Tryz.prog 53 (kI .i64 (-9223372036854775808) 9223372036854775807) := opens_i (by kernel_rfl) Tryz.underlying53
end Go.Proofs.YtchebkpcgglllaaGreat.Cu

namespace Go.Proofs.YtchebkpcgglllaaGreat.Cu
open Go Go.SX Go.Proofs.YtchebkpcgglllaaGreat.VT
set_option maxRecDepth 100000
def i64s (l : List Int) : List Value := l.map (Value.int .i64)
theorem i64s_one (l : List Int) : ∀ v ∈ i64s l, v.oneCell' = true := by simp [i64s, Value.oneCell']
def kIns : Kd Ins where
  sz := 5
  R _ i cs := cs = i64s i.l ∧ i.ok
  len h := by rw [h.1]; rfl
  one h := by rw [h.1]; exact i64s_one _
  mono _ h := h
def kMac : Kd Mac where
  sz := 7
  R _ i cs := cs = i64s i.l ∧ i.ok
  len h := by rw [h.1]; rfl
  one h := by rw [h.1]; exact i64s_one _
  mono _ h := h
def kTrm : Kd Trm where
  sz := 4
  R _ i cs := cs = i64s i.l ∧ i.ok
  len h := by rw [h.1]; rfl
  one h := by rw [h.1]; exact i64s_one _
  mono _ h := h
theorem opens_int64 : Opens Tryz.prog 2 (kI .i64 (-9223372036854775808) 9223372036854775807) := opens_i (by kernel_rfl) Tryz.underlying2
theorem opens_ins : Opens Tryz.prog 122 kIns := by
  refine opens_struct (by kernel_rfl) Tryz.underlying122 (consE 1 4 opens_int_ rfl rfl rfl (consE 2 3 opens_int_ rfl rfl rfl (consE 3 2 opens_int_ rfl rfl rfl (consE 4 1 opens_int_ rfl rfl rfl (consE 5 0 opens_int64 rfl rfl rfl (.nil _)))))) ?_
  rintro G ⟨a, b, c, d, e, _⟩ cs ⟨_, _, rfl, ⟨rfl, ha⟩, _, _, rfl, ⟨rfl, hb⟩, _, _, rfl, ⟨rfl, hc⟩, _, _, rfl, ⟨rfl, hd⟩, _, _, rfl, ⟨rfl, he⟩, rfl⟩
  exact ⟨⟨a, b, c, d, e⟩, rfl, ha, hb, hc, hd, he⟩
theorem opens_mac : Opens Tryz.prog 128 kMac := by
  refine opens_struct (by kernel_rfl) Tryz.underlying128 (consE 1 6 opens_int_ rfl rfl rfl (consE 2 5 opens_int_ rfl rfl rfl (consE 3 4 opens_int_ rfl rfl rfl (consE 4 3 opens_int_ rfl rfl rfl (consE 5 2 opens_int64 rfl rfl rfl (consE 6 1 opens_loc rfl rfl rfl (consE 7 0 opens_loc rfl rfl rfl (.nil _)))))))) ?_
  rintro G ⟨a, b, c, d, e, f, g, _⟩ cs ⟨_, _, rfl, ⟨rfl, ha⟩, _, _, rfl, ⟨rfl, hb⟩, _, _, rfl, ⟨rfl, hc⟩, _, _, rfl, ⟨rfl, hd⟩, _, _, rfl, ⟨rfl, he⟩, _, _, rfl, ⟨rfl, hf⟩, _, _, rfl, ⟨rfl, hg⟩, rfl⟩
  exact ⟨⟨a, b, c, d, e, f, g⟩, rfl, ha, hb, hc, hd, he, hf, hg⟩
theorem opens_trm : Opens Tryz.prog 57 kTrm := by
  refine opens_struct (by kernel_rfl) Tryz.underlying57 (consE 1 3 opens_int_ rfl rfl rfl (consE 2 2 opens_int_ rfl rfl rfl (consE 3 1 opens_int_ rfl rfl rfl (consE 4 0 opens_int_ rfl rfl rfl (.nil _))))) ?_
  rintro G ⟨a, b, c, d, _⟩ cs ⟨_, _, rfl, ⟨rfl, ha⟩, _, _, rfl, ⟨rfl, hb⟩, _, _, rfl, ⟨rfl, hc⟩, _, _, rfl, ⟨rfl, hd⟩, rfl⟩
  exact ⟨⟨a, b, c, d⟩, rfl, ha, hb, hc, hd⟩
end Go.Proofs.YtchebkpcgglllaaGreat.Cu

namespace Go.Proofs.YtchebkpcgglllaaGreat.Cu
open Go Go.SX Go.Proofs.YtchebkpcgglllaaGreat.VT
set_option maxRecDepth 100000
set_option linter.unusedVariables false
set_option linter.unusedSimpArgs false

structure Blk where
  code : List Ins
  term : Trm
deriving DecidableEq
structure MBlk where
  code : List Mac
  term : Trm
deriving DecidableEq
structure Fn where
  args : Int
  regs : Int
  blocks : List Blk
deriving DecidableEq
structure MFn where
  args : Int
  regs : Int
  slots : Int
  blocks : List MBlk
deriving DecidableEq
/-- The run of moves after an instruction. -/
def nxR (run : Int) (i : Mac) : Int := if i.op = 18 then run + 1 else 0
def kBlk : Kd Blk where
  sz := 5
  R G b cs := ∃ A c, cs = .slice A b.code.length c :: i64s b.term.l ∧ kIns.S G A c b.code ∧ b.term.ok
  len h := by obtain ⟨A, c, rfl, _⟩ := h; rfl
  one h := by
    obtain ⟨A, c, rfl, _⟩ := h
    intro v hv
    rcases List.mem_cons.1 hv with rfl | hv
    · rfl
    · exact i64s_one _ v hv
  mono hg h := by obtain ⟨A, c, h1, h2, h3⟩ := h; exact ⟨A, c, h1, h2.to hg, h3⟩
def kMBlk : Kd MBlk where
  sz := 5
  R G b cs := ∃ A c, cs = .slice A b.code.length c :: i64s b.term.l ∧ kMac.S G A c b.code ∧ b.term.ok
  len h := by obtain ⟨A, c, rfl, _⟩ := h; rfl
  one h := by
    obtain ⟨A, c, rfl, _⟩ := h
    intro v hv
    rcases List.mem_cons.1 hv with rfl | hv
    · rfl
    · exact i64s_one _ v hv
  mono hg h := by obtain ⟨A, c, h1, h2, h3⟩ := h; exact ⟨A, c, h1, h2.to hg, h3⟩
def fnS (A : Option Addr) (c : Nat) (f : Fn) : SV := .agg [.v (.int .i64 f.args), .v (.int .i64 f.regs), .v (.slice A f.blocks.length c)]
def mfnS (A : Option Addr) (c : Nat) (f : MFn) : SV := .agg [.v (.int .i64 f.args), .v (.int .i64 f.regs), .v (.int .i64 f.slots), .v (.slice A f.blocks.length c)]
def totB : List Blk → Nat
  | [] => 0
  | b :: l => b.code.length + totB l
theorem totB_take : ∀ (l : List Blk) (k : Nat) (x : Blk), l[k]? = some x → totB (l.take (k + 1)) = totB (l.take k) + x.code.length
  | [], k, x, h => by simp at h
  | y :: l, 0, x, h => by simp at h; subst h; simp [totB]
  | y :: l, k + 1, x, h => by
    have := totB_take l k x (by simpa using h)
    simp only [List.take_succ_cons, totB, this]; omega
theorem totB_le : ∀ (l : List Blk) (k : Nat), totB (l.take k) ≤ totB l
  | [], k => by simp
  | y :: l, 0 => by simp [totB]
  | y :: l, k + 1 => by have := totB_le l k; simp only [List.take_succ_cons, totB]; omega
theorem kBlk_R {G : Gh} {b : Blk} {cs : List Value} (h : kBlk.R G b cs) : ∃ A c, cs = .slice A b.code.length c :: i64s b.term.l ∧ kIns.S G A c b.code ∧ b.term.ok := h
theorem code7_fn (G : Gh) (A : Option Addr) (c : Nat) (f : Fn) (hl : kBlk.S G A c f.blocks) (hbl : f.blocks.length ≤ 1000000000) (hcl : totB f.blocks ≤ 1000000000) :
    Ct Tryz.prog 58 [fnS A c f] [] G fun sv H' G' => sv = .v (.int .i64 (totB f.blocks)) ∧ H' = [] ∧ G' = G := by
  refine fn_of follows [] Tryz.func58 rfl rfl fun E hE => ?_
  have hcap := hl.cap
  unfold fnS
  repeat' ((fail_if_success with_reducible refine Stop.mk ?_);(conv=>whnf);with_reducible refine stop ?_)
  all_goals refine Stop.mk ?_
  refine loop_vars follows [] (α := Nat) (fun k => [(3, .v (.int .i64 (totB (f.blocks.take k)))), (4, .v (.int .i64 k))]) (fun x => [.cells 25 [.v (.int .i64 f.args), .v (.int .i64 f.regs), .v (.slice A f.blocks.length c)]]) (fun x => G) (fun k => k ≤ f.blocks.length) (fun k => f.blocks.length - k) 0
    (Nat.zero_le _) rfl rfl ?_ ?_
  ·
    refine ⟨?_⟩
    (conv => whnf)
    (repeat' (first | exact trivial | exact .inl rfl | exact .inr rfl | refine And.intro ?_ ?_))
  intro k hk
  have hw2 : IntKind.i64.wrap ((k : Int) + 1) = ((k + 1 : Nat) : Int) := by rw [i64_in (by omega) (by omega)]; simp
  have htt := totB_take f.blocks k
  have htl := totB_le f.blocks (k + 1)
  repeat' ((fail_if_success with_reducible refine Stop.mk ?_);(conv=>whnf);with_reducible first|refine br_d (fun h=>?_) fun h=>?_|refine stop ?_)
  all_goals refine Stop.mk ?_
  ·
    obtain ⟨_, hs_, hat_⟩ := hl.at (sz := 5) rfl
    refine ⟨⟨by omega, by omega⟩, _, hs_, fun ad had hadr => ?_⟩
    obtain ⟨b, cells, hb, hRb, hGb⟩ := hat_ k (by omega) ad (by first | exact had | (rw [Int.toNat_natCast] at had; exact had))
    clear had hat_ hs_
    obtain ⟨A', c', rfl, hS, hbt⟩ := kBlk_R hRb
    replace htt := htt b hb
    have hw3 : IntKind.i64.wrap ((totB (f.blocks.take k) : Int) + (b.code.length : Int)) = ((totB (f.blocks.take (k + 1)) : Nat) : Int) := by rw [i64_in (by omega) (by omega), htt]; simp
    repeat' ((fail_if_success with_reducible refine Stop.mk ?_);(conv=>whnf);with_reducible refine stop ?_)
    all_goals refine Stop.mk ?_
    refine ⟨_, hGb 0 _ rfl, ?_⟩
    repeat' ((fail_if_success with_reducible refine Stop.mk ?_);(conv=>whnf);with_reducible refine stop ?_)
    all_goals refine Stop.mk ?_
    rw [hw2, hw3]
    refine tell_here ⟨k + 1, by omega, by show f.blocks.length - (k + 1) < f.blocks.length - k; omega, rfl, rfl, ?_⟩
    refine ⟨?_⟩
    (conv => whnf)
    (repeat' (first | exact trivial | exact .inl rfl | exact .inr rfl | refine And.intro ?_ ?_))
  · have hkl : k = f.blocks.length := by omega
    subst hkl
    rw [List.take_length]
    exact fin_id hE 0 rfl rfl rfl rfl ⟨rfl, rfl, rfl⟩
theorem few7_fn (G : Gh) (A : Option Addr) (c : Nat) (f : Fn) (hl : kBlk.S G A c f.blocks) :
    Ct Tryz.prog 19 [fnS A c f] [] G fun sv H' G' => (∃ r, sv = .v (.bool r) ∧ (r = true → f.blocks.length ≤ 40 ∧ f.regs ≤ 60 ∧ totB f.blocks ≤ 300)) ∧ H' = [] ∧ G' = G := by
  refine fn_of follows [] Tryz.func19 rfl rfl fun E hE => ?_
  have hcap := hl.cap
  unfold fnS
  repeat' ((fail_if_success with_reducible refine Stop.mk ?_);(conv=>whnf);with_reducible first|refine br_t ?_|refine br_d (fun h=>?_) fun h=>?_|refine stop ?_)
  all_goals refine Stop.mk ?_
  all_goals try exact fin_id hE 0 rfl rfl rfl rfl ⟨⟨_, rfl, fun h => absurd h (by decide)⟩, rfl, rfl⟩
  refine loop_vars follows [] (α := Nat) (fun k => [(3, .v (.int .i64 k))]) (fun x => [.cells 25 [.v (.int .i64 f.args), .v (.int .i64 f.regs), .v (.slice A f.blocks.length c)]]) (fun x => G) (fun k => k ≤ f.blocks.length ∧ totB (f.blocks.take k) ≤ 100 * k) (fun k => f.blocks.length - k) 0
    ⟨Nat.zero_le _, by simp [totB]⟩ rfl rfl ?_ ?_
  ·
    refine ⟨?_⟩
    (conv => whnf)
    (repeat' (first | exact trivial | exact .inl rfl | exact .inr rfl | refine And.intro ?_ ?_))
  intro k hI
  obtain ⟨hk, htk⟩ := hI
  have hw2 : IntKind.i64.wrap ((k : Int) + 1) = ((k + 1 : Nat) : Int) := by rw [i64_in (by omega) (by omega)]; simp
  have htt := totB_take f.blocks k
  repeat' ((fail_if_success with_reducible refine Stop.mk ?_);(conv=>whnf);with_reducible first|refine br_d (fun h=>?_) fun h=>?_|refine stop ?_)
  all_goals refine Stop.mk ?_
  ·
    obtain ⟨_, hs_, hat_⟩ := hl.at (sz := 5) rfl
    refine ⟨⟨by omega, by omega⟩, _, hs_, fun ad had hadr => ?_⟩
    obtain ⟨b, cells, hb, hRb, hGb⟩ := hat_ k (by omega) ad (by first | exact had | (rw [Int.toNat_natCast] at had; exact had))
    clear had hat_ hs_
    obtain ⟨A', c', rfl, hS, hbt⟩ := kBlk_R hRb
    replace htt := htt b hb
    repeat' ((fail_if_success with_reducible refine Stop.mk ?_);(conv=>whnf);with_reducible refine stop ?_)
    all_goals refine Stop.mk ?_
    refine ⟨_, hGb 0 _ rfl, ?_⟩
    repeat' ((fail_if_success with_reducible refine Stop.mk ?_);(conv=>whnf);with_reducible first|refine br_d (fun h=>?_) fun h=>?_|refine stop ?_)
    all_goals refine Stop.mk ?_
    all_goals try exact fin_id hE 0 rfl rfl rfl rfl ⟨⟨_, rfl, fun h => absurd h (by decide)⟩, rfl, rfl⟩
    rw [hw2]
    refine tell_here ⟨k + 1, ⟨by omega, by omega⟩, by show f.blocks.length - (k + 1) < f.blocks.length - k; omega, rfl, rfl, ?_⟩
    refine ⟨?_⟩
    (conv => whnf)
    (repeat' (first | exact trivial | exact .inl rfl | exact .inr rfl | refine And.intro ?_ ?_))
  · have hkl : k = f.blocks.length := by omega
    subst hkl
    rw [List.take_length] at htk
    refine call_fn [] (code7_fn _ A c f hl (by omega) (by omega)) rfl trivial (by decide) ?_
    rintro sv H' G' ⟨rfl, rfl, rfl⟩ -
    refine ⟨Nat.le_of_ble_eq_true rfl, ?_⟩
    repeat' ((fail_if_success with_reducible refine Stop.mk ?_);(conv=>whnf);with_reducible refine stop ?_)
    all_goals refine Stop.mk ?_
    refine fin_id hE 0 rfl rfl rfl rfl ⟨⟨_, rfl, fun h => ?_⟩, rfl, rfl⟩
    have := of_decide_eq_true h
    exact ⟨by omega, by omega, by omega⟩
def totMB : List MBlk → Nat
  | [] => 0
  | b :: l => b.code.length + totMB l
theorem totMB_take : ∀ (l : List MBlk) (k : Nat) (x : MBlk), l[k]? = some x → totMB (l.take (k + 1)) = totMB (l.take k) + x.code.length
  | [], k, x, h => by simp at h
  | y :: l, 0, x, h => by simp at h; subst h; simp [totMB]
  | y :: l, k + 1, x, h => by
    have := totMB_take l k x (by simpa using h)
    simp only [List.take_succ_cons, totMB, this]; omega
theorem totMB_le : ∀ (l : List MBlk) (k : Nat), totMB (l.take k) ≤ totMB l
  | [], k => by simp
  | y :: l, 0 => by simp [totMB]
  | y :: l, k + 1 => by have := totMB_le l k; simp only [List.take_succ_cons, totMB]; omega
theorem kMBlk_R {G : Gh} {b : MBlk} {cs : List Value} (h : kMBlk.R G b cs) : ∃ A c, cs = .slice A b.code.length c :: i64s b.term.l ∧ kMac.S G A c b.code ∧ b.term.ok := h
theorem code8_fn (G : Gh) (A : Option Addr) (c : Nat) (f : MFn) (hl : kMBlk.S G A c f.blocks) (hbl : f.blocks.length ≤ 1000000000) (hcl : totMB f.blocks ≤ 1000000000) :
    Ct Tryz.prog 59 [mfnS A c f] [] G fun sv H' G' => sv = .v (.int .i64 (totMB f.blocks)) ∧ H' = [] ∧ G' = G := by
  refine fn_of follows [] Tryz.func59 rfl rfl fun E hE => ?_
  have hcap := hl.cap
  unfold mfnS
  repeat' ((fail_if_success with_reducible refine Stop.mk ?_);(conv=>whnf);with_reducible refine stop ?_)
  all_goals refine Stop.mk ?_
  refine loop_vars follows [] (α := Nat) (fun k => [(3, .v (.int .i64 (totMB (f.blocks.take k)))), (4, .v (.int .i64 k))]) (fun x => [.cells 28 [.v (.int .i64 f.args), .v (.int .i64 f.regs), .v (.int .i64 f.slots), .v (.slice A f.blocks.length c)]]) (fun x => G) (fun k => k ≤ f.blocks.length) (fun k => f.blocks.length - k) 0
    (Nat.zero_le _) rfl rfl ?_ ?_
  ·
    refine ⟨?_⟩
    (conv => whnf)
    (repeat' (first | exact trivial | exact .inl rfl | exact .inr rfl | refine And.intro ?_ ?_))
  intro k hk
  have hw2 : IntKind.i64.wrap ((k : Int) + 1) = ((k + 1 : Nat) : Int) := by rw [i64_in (by omega) (by omega)]; simp
  have htt := totMB_take f.blocks k
  have htl := totMB_le f.blocks (k + 1)
  repeat' ((fail_if_success with_reducible refine Stop.mk ?_);(conv=>whnf);with_reducible first|refine br_d (fun h=>?_) fun h=>?_|refine stop ?_)
  all_goals refine Stop.mk ?_
  ·
    obtain ⟨_, hs_, hat_⟩ := hl.at (sz := 5) rfl
    refine ⟨⟨by omega, by omega⟩, _, hs_, fun ad had hadr => ?_⟩
    obtain ⟨b, cells, hb, hRb, hGb⟩ := hat_ k (by omega) ad (by first | exact had | (rw [Int.toNat_natCast] at had; exact had))
    clear had hat_ hs_
    obtain ⟨A', c', rfl, hS, hbt⟩ := kMBlk_R hRb
    replace htt := htt b hb
    have hw3 : IntKind.i64.wrap ((totMB (f.blocks.take k) : Int) + (b.code.length : Int)) = ((totMB (f.blocks.take (k + 1)) : Nat) : Int) := by rw [i64_in (by omega) (by omega), htt]; simp
    repeat' ((fail_if_success with_reducible refine Stop.mk ?_);(conv=>whnf);with_reducible refine stop ?_)
    all_goals refine Stop.mk ?_
    refine ⟨_, hGb 0 _ rfl, ?_⟩
    repeat' ((fail_if_success with_reducible refine Stop.mk ?_);(conv=>whnf);with_reducible refine stop ?_)
    all_goals refine Stop.mk ?_
    rw [hw2, hw3]
    refine tell_here ⟨k + 1, by omega, by show f.blocks.length - (k + 1) < f.blocks.length - k; omega, rfl, rfl, ?_⟩
    refine ⟨?_⟩
    (conv => whnf)
    (repeat' (first | exact trivial | exact .inl rfl | exact .inr rfl | refine And.intro ?_ ?_))
  · have hkl : k = f.blocks.length := by omega
    subst hkl
    rw [List.take_length]
    exact fin_id hE 0 rfl rfl rfl rfl ⟨rfl, rfl, rfl⟩
theorem few8_fn (G : Gh) (A : Option Addr) (c : Nat) (f : MFn) (hl : kMBlk.S G A c f.blocks) :
    Ct Tryz.prog 20 [mfnS A c f] [] G fun sv H' G' => (∃ r, sv = .v (.bool r) ∧ (r = true → f.blocks.length ≤ 40 ∧ f.regs ≤ 60 ∧ f.slots ≤ 60 ∧ totMB f.blocks ≤ 900)) ∧ H' = [] ∧ G' = G := by
  refine fn_of follows [] Tryz.func20 rfl rfl fun E hE => ?_
  have hcap := hl.cap
  unfold mfnS
  repeat' ((fail_if_success with_reducible refine Stop.mk ?_);(conv=>whnf);with_reducible first|refine br_t ?_|refine br_d (fun h=>?_) fun h=>?_|refine stop ?_)
  all_goals refine Stop.mk ?_
  all_goals try exact fin_id hE 0 rfl rfl rfl rfl ⟨⟨_, rfl, fun h => absurd h (by decide)⟩, rfl, rfl⟩
  refine loop_vars follows [] (α := Nat) (fun k => [(3, .v (.int .i64 k))]) (fun x => [.cells 28 [.v (.int .i64 f.args), .v (.int .i64 f.regs), .v (.int .i64 f.slots), .v (.slice A f.blocks.length c)]]) (fun x => G) (fun k => k ≤ f.blocks.length ∧ totMB (f.blocks.take k) ≤ 300 * k) (fun k => f.blocks.length - k) 0
    ⟨Nat.zero_le _, by simp [totMB]⟩ rfl rfl ?_ ?_
  ·
    refine ⟨?_⟩
    (conv => whnf)
    (repeat' (first | exact trivial | exact .inl rfl | exact .inr rfl | refine And.intro ?_ ?_))
  intro k hI
  obtain ⟨hk, htk⟩ := hI
  have hw2 : IntKind.i64.wrap ((k : Int) + 1) = ((k + 1 : Nat) : Int) := by rw [i64_in (by omega) (by omega)]; simp
  have htt := totMB_take f.blocks k
  repeat' ((fail_if_success with_reducible refine Stop.mk ?_);(conv=>whnf);with_reducible first|refine br_d (fun h=>?_) fun h=>?_|refine stop ?_)
  all_goals refine Stop.mk ?_
  ·
    obtain ⟨_, hs_, hat_⟩ := hl.at (sz := 5) rfl
    refine ⟨⟨by omega, by omega⟩, _, hs_, fun ad had hadr => ?_⟩
    obtain ⟨b, cells, hb, hRb, hGb⟩ := hat_ k (by omega) ad (by first | exact had | (rw [Int.toNat_natCast] at had; exact had))
    clear had hat_ hs_
    obtain ⟨A', c', rfl, hS, hbt⟩ := kMBlk_R hRb
    replace htt := htt b hb
    repeat' ((fail_if_success with_reducible refine Stop.mk ?_);(conv=>whnf);with_reducible refine stop ?_)
    all_goals refine Stop.mk ?_
    refine ⟨_, hGb 0 _ rfl, ?_⟩
    repeat' ((fail_if_success with_reducible refine Stop.mk ?_);(conv=>whnf);with_reducible first|refine br_d (fun h=>?_) fun h=>?_|refine stop ?_)
    all_goals refine Stop.mk ?_
    all_goals try exact fin_id hE 0 rfl rfl rfl rfl ⟨⟨_, rfl, fun h => absurd h (by decide)⟩, rfl, rfl⟩
    rw [hw2]
    refine tell_here ⟨k + 1, ⟨by omega, by omega⟩, by show f.blocks.length - (k + 1) < f.blocks.length - k; omega, rfl, rfl, ?_⟩
    refine ⟨?_⟩
    (conv => whnf)
    (repeat' (first | exact trivial | exact .inl rfl | exact .inr rfl | refine And.intro ?_ ?_))
  · have hkl : k = f.blocks.length := by omega
    subst hkl
    rw [List.take_length] at htk
    refine call_fn [] (code8_fn _ A c f hl (by omega) (by omega)) rfl trivial (by decide) ?_
    rintro sv H' G' ⟨rfl, rfl, rfl⟩ -
    refine ⟨Nat.le_of_ble_eq_true rfl, ?_⟩
    repeat' ((fail_if_success with_reducible refine Stop.mk ?_);(conv=>whnf);with_reducible refine stop ?_)
    all_goals refine Stop.mk ?_
    refine fin_id hE 0 rfl rfl rfl rfl ⟨⟨_, rfl, fun h => ?_⟩, rfl, rfl⟩
    have := of_decide_eq_true h
    exact ⟨by omega, by omega, by omega, by omega⟩
/-- The run of moves that ends ahead of k. -/
def runK (l : List Mac) (k : Nat) : Int := foldS nxR 0 (l.take k)
theorem foldS_snoc {σ α : Type} (nx : σ → α → σ) : ∀ (l : List α) (s : σ) (x : α), foldS nx s (l ++ [x]) = nx (foldS nx s l) x
  | [], s, x => rfl
  | y :: l, s, x => foldS_snoc nx l (nx s y) x
theorem runK_next (l : List Mac) (k : Nat) (x : Mac) (h : l[k]? = some x) : runK l (k + 1) = nxR (runK l k) x := by
  unfold runK
  rw [List.take_add_one, h]
  exact foldS_snoc nxR _ 0 x
theorem runK_nonneg (l : List Mac) : ∀ k, 0 ≤ runK l k
  | 0 => by simp [runK, foldS]
  | k + 1 => by
    cases h : l[k]? with
    | none =>
      have e : l.take (k + 1) = l.take k := by rw [List.take_add_one, h]; simp
      have := runK_nonneg l k
      unfold runK at *
      rw [e]; exact this
    | some x =>
      rw [runK_next l k x h]
      exact (nxR_le' _ x (runK_nonneg l k))
where
  nxR_le' (run : Int) (i : Mac) (h : 0 ≤ run) : 0 ≤ nxR run i := by unfold nxR; split <;> omega
/-- A run is at least n exactly if the last n are moves. -/
theorem runK_iff (l : List Mac) : ∀ (k n : Nat), k ≤ l.length → n ≤ k → ((n : Int) ≤ runK l k ↔ ∀ i x, k - n ≤ i → i < k → l[i]? = some x → x.op = 18)
  | 0, n, _, hn => by
    have : n = 0 := by omega
    subst this
    constructor
    · intro _ i x h1 h2; omega
    · intro _; simp [runK, foldS]
  | k + 1, n, hk, hn => by
    obtain ⟨y, hy⟩ : ∃ y, l[k]? = some y := ⟨_, List.getElem?_eq_getElem (by omega)⟩
    rw [runK_next l k y hy]
    cases n with
    | zero =>
      constructor
      · intro _ i x h1 h2; omega
      · intro _
        have h0 := runK_nonneg l k
        unfold nxR; split <;> omega
    | succ n =>
      have ih := runK_iff l k n (by omega) (by omega)
      unfold nxR
      split
      · rename_i h18
        constructor
        · intro h i x h1 h2 hx
          rcases Nat.lt_succ_iff_lt_or_eq.1 h2 with h3 | h3
          · exact ih.1 (by omega) i x (by omega) h3 hx
          · subst h3
            rw [hy] at hx
            simp at hx; subst hx; exact h18
        · intro h
          have := ih.2 fun i x h1 h2 hx => h i x (by omega) (by omega) hx
          omega
      · rename_i h18
        constructor
        · intro h; omega
        · intro h
          exact absurd (h k y (by omega) (by omega) hy) h18
end Go.Proofs.YtchebkpcgglllaaGreat.Cu
