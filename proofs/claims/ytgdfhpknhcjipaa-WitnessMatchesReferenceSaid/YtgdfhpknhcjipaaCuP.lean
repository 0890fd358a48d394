/- The cursor's reads, told by what is left. -/
import Derived.Test.YtgdfhpknhcjipaaCu7
import Derived.Test.YtgdfhpknhcjipaaSXK
namespace Go.Proofs.Ytgdfhpknhcjipaa.Cu
open Go Go.SX Go.Proofs.Ytgdfhpknhcjipaa.VT
set_option maxRecDepth 100000
set_option linter.unusedVariables false
set_option linter.unusedSimpArgs false

/-- What is left, and the error. -/
abbrev Ps := List Int × Int
def curL (A : Option Addr) (bs : List Int) (c : Nat) (p : Ps) : Ob := curO A bs.length c ((bs.length - p.1.length : Nat) : Int) p.2
/-- A cursor over bytes that nobody changes. -/
structure CurOK (G : Gh) (A : Option Addr) (c : Nat) (bs : List Int) (p : Ps) : Prop where
  hb : isB bs
  hs : SlB G A c bs
  hl : bs.length ≤ 140737488355328
  suf : p.1 <:+ bs
theorem CurOK.to {G G' : Gh} {A : Option Addr} {c : Nat} {bs : List Int} {p : Ps} (h : CurOK G A c bs p) (hg : Ghe G G') : CurOK G' A c bs p := ⟨h.hb, Sl.to hg h.hs, h.hl, h.suf⟩
theorem CurOK.next {G : Gh} {A : Option Addr} {c : Nat} {bs : List Int} {p q : Ps} (h : CurOK G A c bs p) (hq : q.1 <:+ p.1) : CurOK G A c bs q := ⟨h.hb, h.hs, h.hl, hq.trans h.suf⟩
theorem CurOK.drop {G : Gh} {A : Option Addr} {c : Nat} {bs : List Int} {p : Ps} (h : CurOK G A c bs p) : bs.drop (bs.length - p.1.length) = p.1 := (List.suffix_iff_eq_drop.1 h.suf).symm
theorem CurOK.le {G : Gh} {A : Option Addr} {c : Nat} {bs : List Int} {p : Ps} (h : CurOK G A c bs p) : p.1.length ≤ bs.length := h.suf.length_le
theorem CurOK.isb {G : Gh} {A : Option Addr} {c : Nat} {bs : List Int} {p : Ps} (h : CurOK G A c bs p) : isB p.1 := by rw [← h.drop]; exact isB_drop h.hb _
theorem curL_at (A : Option Addr) (bs : List Int) (c : Nat) {l l' : List Int} (e : Int) {a n : Nat} (ha : a = bs.length - l.length) (hl : l.length ≤ bs.length) (hn : n ≤ l.length) (hl' : l'.length = l.length - n) : curO A bs.length c ((a + n : Nat) : Int) e = curL A bs c (l', e) := by
  subst ha
  unfold curL
  simp only
  rw [show bs.length - l.length + n = bs.length - l'.length by omega]

/-! ### Byte -/
def sByte (p : Ps) : Int × Ps :=
  if p.2 ≠ 0 then (0, p) else match p.1 with
    | [] => (0, ([], 1))
    | x :: l => (x, (l, 0))
theorem sByte_suf (p : Ps) : (sByte p).2.1 <:+ p.1 := by
  unfold sByte
  split
  · exact List.suffix_refl _
  · split
    · rename_i h; rw [h]; exact List.suffix_refl _
    · rename_i x l h; rw [h]; exact List.suffix_cons x l
theorem sByte_err {p : Ps} (h : p.2 ≠ 0) : sByte p = (0, p) := if_pos h
theorem sByte_range {p : Ps} (hb : isB p.1) : 0 ≤ (sByte p).1 ∧ (sByte p).1 ≤ 255 := by
  unfold sByte
  split
  · simp
  · split
    · simp
    · rename_i x l h; exact hb x (by rw [h]; simp)
theorem pbyte_fn {G : Gh} {A : Option Addr} {bs : List Int} {c : Nat} {p : Ps} (h : CurOK G A c bs p) :
    Ct Try.prog 34 [.p 0 0] [curL A bs c p] G fun sv H' G' => sv = .v (.int .u8 (sByte p).1) ∧ H' = [curL A bs c (sByte p).2] ∧ G' = G := by
  have h1 := byte_fn G A bs c (bs.length - p.1.length) p.2 h.hb h.hs (by omega)
  have hd := h.drop
  have hle := h.le
  have key : cByte bs (bs.length - p.1.length) p.2 = ((sByte p).1, bs.length - (sByte p).2.1.length, (sByte p).2.2) := by
    obtain ⟨l, e⟩ := p
    simp only at hd hle ⊢
    unfold cByte sByte
    by_cases he : e = 0
    · subst he
      cases l with
      | nil => simp
      | cons x l =>
        simp only [List.length_cons] at hle hd ⊢
        have hx : bs.getD (bs.length - (l.length + 1)) 0 = x := by
          have := congrArg (fun q : List Int => q[0]?) hd
          simp only [List.getElem?_drop, List.getElem?_cons_zero, Nat.add_zero] at this
          rw [List.getD_eq_getElem?_getD, this]; rfl
        simp only [ne_eq, not_true_eq_false, if_false]
        rw [if_neg (by omega), hx, show bs.length - (l.length + 1) + 1 = bs.length - l.length by omega]
    · simp [he]
  rw [key] at h1
  exact h1
/-! ### Uint -/
def sUint (most : Int) (p : Ps) : Int × Ps :=
  if p.2 ≠ 0 then (0, p) else if whyU most (vdec 0 p.1) = 0 then ((vdec 0 p.1).1, (p.1.drop (vdec 0 p.1).2.1.toNat, 0)) else (0, (p.1, whyU most (vdec 0 p.1)))
theorem sUint_suf (most : Int) (p : Ps) : (sUint most p).2.1 <:+ p.1 := by
  unfold sUint
  split
  · exact List.suffix_refl _
  · split
    · exact List.drop_suffix _ _
    · exact List.suffix_refl _
theorem sUint_err {most : Int} {p : Ps} (h : p.2 ≠ 0) : sUint most p = (0, p) := if_pos h
theorem sUint_range {most : Int} {p : Ps} (hb : isB p.1) : 0 ≤ (sUint most p).1 ∧ (sUint most p).1 < 18446744073709551616 ∧ (0 ≤ most → (sUint most p).1 ≤ most) := by
  unfold sUint
  rcases vdec_form hb with ⟨x, hx, h⟩ | ⟨n, m, h, h3, h4, h5, _⟩ <;> rw [h] <;> unfold whyU <;> (repeat' split) <;> simp at * <;> omega
theorem puint_fn {G : Gh} {A : Option Addr} {bs : List Int} {c : Nat} {p : Ps} (most : Int) (h : CurOK G A c bs p) :
    Ct Try.prog 36 [.p 0 0, .v (.int .u64 most)] [curL A bs c p] G fun sv H' G' => sv = .v (.int .u64 (sUint most p).1) ∧ H' = [curL A bs c (sUint most p).2] ∧ G' = G := by
  have h1 := uint_fn G A bs c (bs.length - p.1.length) p.2 most h.hb h.hs (by omega)
  have hle := h.le
  have key : cUint bs (bs.length - p.1.length) p.2 most = ((sUint most p).1, bs.length - (sUint most p).2.1.length, (sUint most p).2.2) := by
    unfold cUint sUint
    rw [h.drop]
    split
    · rfl
    · split
      · rcases vdec_form h.isb with ⟨x, hx, h⟩ | ⟨n, m, h, h3, h4, h5, _⟩ <;> rw [h] <;> simp <;> omega
      · rfl
  rw [key] at h1
  exact h1
def sInt (p : Ps) : Int × Ps := (unzig (sUint 18446744073709551615 p).1, (sUint 18446744073709551615 p).2)
theorem sInt_suf (p : Ps) : (sInt p).2.1 <:+ p.1 := sUint_suf _ _
theorem sInt_err {p : Ps} (h : p.2 ≠ 0) : sInt p = (0, p) := by unfold sInt; rw [sUint_err h]; rfl
/-! ### Count, Bytes -/
def sCount (most size : Int) (p : Ps) : Int × Ps :=
  if p.2 ≠ 0 then (0, p) else if (resC most size p.1).2.2 = 0 then ((resC most size p.1).1, (p.1.drop (resC most size p.1).2.1.toNat, 0)) else (0, (p.1, (resC most size p.1).2.2))
theorem sCount_suf (most size : Int) (p : Ps) : (sCount most size p).2.1 <:+ p.1 := by
  unfold sCount
  split
  · exact List.suffix_refl _
  · split
    · exact List.drop_suffix _ _
    · exact List.suffix_refl _
theorem sCount_err {most size : Int} {p : Ps} (h : p.2 ≠ 0) : sCount most size p = (0, p) := if_pos h
theorem sCount_range {most size : Int} {p : Ps} (hb : isB p.1) (hm : 0 ≤ most) : 0 ≤ (sCount most size p).1 ∧ (sCount most size p).1 ≤ most := by
  unfold sCount
  split
  · simp; omega
  · rcases resC_form hb most size with ⟨x, hx, h⟩ | ⟨n, m, _, _, h, _, h1, _⟩ <;> rw [h]
    · simp [hx]; omega
    · simp; omega
theorem pcount_fn {G : Gh} {A : Option Addr} {bs : List Int} {c : Nat} {p : Ps} (most size : Int) (h : CurOK G A c bs p) (hm : most ≤ 9223372036854775807) (hz : size ≤ 9223372036854775807) :
    Ct Try.prog 48 [.p 0 0, .v (.int .i64 most), .v (.int .i64 size)] [curL A bs c p] G fun sv H' G' => sv = .v (.int .i64 (sCount most size p).1) ∧ H' = [curL A bs c (sCount most size p).2] ∧ G' = G := by
  have h1 := count_fn G A bs c (bs.length - p.1.length) p.2 most size h.hb h.hs (by omega) hm hz
  have hle := h.le
  have key : cCount bs (bs.length - p.1.length) p.2 most size = ((sCount most size p).1, bs.length - (sCount most size p).2.1.length, (sCount most size p).2.2) := by
    unfold cCount sCount
    rw [h.drop]
    split
    · rfl
    · rcases resC_form h.isb most size with ⟨x, hx, h⟩ | ⟨n, m, _, _, h, _, h1, _, h2, _⟩ <;> rw [h]
      · simp [hx]
      · simp; omega
  rw [key] at h1
  exact h1
def sBytes (n : Int) (p : Ps) : List Int × Ps :=
  if p.2 ≠ 0 then ([], p) else if n < 0 then ([], (p.1, 32)) else if n > p.1.length then ([], (p.1, 1)) else (p.1.take n.toNat, (p.1.drop n.toNat, 0))
theorem sBytes_suf (n : Int) (p : Ps) : (sBytes n p).2.1 <:+ p.1 := by
  unfold sBytes
  split
  · exact List.suffix_refl _
  · split
    · exact List.suffix_refl _
    · split
      · exact List.suffix_refl _
      · exact List.drop_suffix _ _
theorem sBytes_err {n : Int} {p : Ps} (h : p.2 ≠ 0) : sBytes n p = ([], p) := if_pos h
theorem sBytes_isb {n : Int} {p : Ps} (hb : isB p.1) : isB (sBytes n p).1 := by
  unfold sBytes
  split
  · intro x hx; simp at hx
  · split
    · intro x hx; simp at hx
    · split
      · intro x hx; simp at hx
      · exact isB_take hb _
theorem pbytes_fn {G : Gh} {A : Option Addr} {bs : List Int} {c : Nat} {p : Ps} (n : Int) (h : CurOK G A c bs p) (hn : n ≤ 9223372036854775807) :
    Ct Try.prog 37 [.p 0 0, .v (.int .i64 n)] [curL A bs c p] G fun sv H' G' =>
      (∃ A' c', sv = .v (.slice A' (sBytes n p).1.length c') ∧ SlB G' A' c' (sBytes n p).1) ∧ H' = [curL A bs c (sBytes n p).2] := by
  have h1 := bytes_fn G A bs c (bs.length - p.1.length) p.2 n h.hs (by omega) h.hl hn
  have hle := h.le
  have key : cBytes bs (bs.length - p.1.length) p.2 n = ((sBytes n p).1, bs.length - (sBytes n p).2.1.length, (sBytes n p).2.2) := by
    unfold cBytes sBytes
    rw [h.drop]
    rw [show bs.length - (bs.length - p.1.length) = p.1.length by omega]
    split
    · rfl
    · split
      · rfl
      · split
        · rfl
        · simp; omega
  rw [key] at h1
  exact h1
/-! ### Fail, End, Err, Left -/
def sFail (why : Int) (p : Ps) : Ps := (p.1, failE p.2 why)
theorem sFail_suf (why : Int) (p : Ps) : (sFail why p).1 <:+ p.1 := List.suffix_refl _
theorem pfail_fn {G : Gh} {A : Option Addr} {bs : List Int} {c : Nat} {p : Ps} (why : Int) :
    Ct Try.prog 35 [.p 0 0, .v (.int .i64 why)] [curL A bs c p] G fun sv H' G' => sv = .tup [] ∧ H' = [curL A bs c (sFail why p)] ∧ G' = G :=
  fail_fn G A bs.length c _ p.2 why
def sLeft (p : Ps) : Int := if p.2 = 0 then p.1.length else 0
theorem pleft_fn {G : Gh} {A : Option Addr} {bs : List Int} {c : Nat} {p : Ps} (h : CurOK G A c bs p) :
    Ct Try.prog 30 [.p 0 0] [curL A bs c p] G fun sv H' G' => sv = .v (.int .i64 (sLeft p)) ∧ H' = [curL A bs c p] ∧ G' = G := by
  have hle := h.le
  have hl := h.hl
  have h1 := left_fn G A bs.length c ((bs.length - p.1.length : Nat) : Int) p.2 (by omega) (by omega) (by omega)
  have : leftN bs.length ((bs.length - p.1.length : Nat) : Int) p.2 = sLeft p := by unfold leftN sLeft; split <;> omega
  rw [this] at h1
  exact h1
def sEnd (p : Ps) : Ps := (p.1, if sLeft p > 0 then 2 else p.2)
theorem pend_fn {G : Gh} {A : Option Addr} {bs : List Int} {c : Nat} {p : Ps} (h : CurOK G A c bs p) :
    Ct Try.prog 38 [.p 0 0] [curL A bs c p] G fun sv H' G' => sv = .tup [] ∧ H' = [curL A bs c (sEnd p)] ∧ G' = G := by
  have hle := h.le
  have hl := h.hl
  have h1 := end_fn G A bs.length c ((bs.length - p.1.length : Nat) : Int) p.2 (by omega) (by omega) (by omega)
  have : leftN bs.length ((bs.length - p.1.length : Nat) : Int) p.2 = sLeft p := by unfold leftN sLeft; split <;> omega
  rw [this] at h1
  exact h1
theorem perr_fn {G : Gh} {A : Option Addr} {bs : List Int} {c : Nat} {p : Ps} :
    Ct Try.prog 27 [.p 0 0] [curL A bs c p] G fun sv H' G' => sv = .v (.int .i64 p.2) ∧ H' = [curL A bs c p] ∧ G' = G :=
  err_fn G A bs.length c _ p.2
theorem pat_fn {G : Gh} {A : Option Addr} {bs : List Int} {c : Nat} {p : Ps} :
    Ct Try.prog 33 [.p 0 0] [curL A bs c p] G fun sv H' G' => sv = .v (.int .i64 ((bs.length - p.1.length : Nat) : Int)) ∧ H' = [curL A bs c p] ∧ G' = G :=
  at_fn G A bs.length c _ p.2
theorem pnew_fn (G : Gh) (A : Option Addr) (bs : List Int) (c : Nat) (hb : isB bs) (hs : SlB G A c bs) (hlen : bs.length ≤ 140737488355328) :
    Ct Try.prog 25 [.v (.slice A bs.length c)] [] G fun sv H' G' => ∃ A' c', sv = .p 0 0 ∧ H' = [curL A' bs c' (bs, 0)] ∧ CurOK G' A' c' bs (bs, 0) := by
  have h := new_fn G A bs c hs hlen
  refine ⟨h.enters, fun ρ w ys hA hargs => (h.calls ρ w ys hA hargs).mono fun e w' hh => ?_⟩
  obtain ⟨v, sv, H', G', ρ', rfl, ⟨A', c', rfl, rfl, hs'⟩, hA', hr⟩ := hh
  refine ⟨v, _, _, G', ρ', rfl, ⟨A', c', rfl, ?_, hb, hs', hlen, List.suffix_refl _⟩, hA', hr⟩
  unfold curL
  simp only [Nat.sub_self]
  rfl
end Go.Proofs.Ytgdfhpknhcjipaa.Cu
