/- regcertref07.Copy: a copy that is all its own. -/
import Derived.Test.YtchebkpcgglllaaGreatNux
import Derived.Test.YtchebkpcgglllaaGreatSXc
namespace Go.Proofs.YtchebkpcgglllaaGreat.Cu
open Go Go.SX Go.Proofs.YtchebkpcgglllaaGreat.VT
set_option maxRecDepth 100000
set_option linter.unusedVariables false
set_option linter.unusedSimpArgs false

/-- A block whose code lies in memory that G0 does not know. -/
def kOwn (G0 : Gh) : Kd Blk where
  sz := 5
  R G b cs := kBlk.R G b cs ∧ ∃ A c xs rest, cs = .slice A b.code.length c :: rest ∧ Fresh G0 A ∧ Whl G A xs ∧ Sl G A b.code.length c 5 xs
  len h := kBlk.len h.1
  one h := kBlk.one h.1
  mono hg h := ⟨kBlk.mono hg h.1, by obtain ⟨A, c, xs, rest, h1, h2, h3, h4⟩ := h.2; exact ⟨A, c, xs, rest, h1, h2, h3.to hg, h4.to hg⟩⟩
/-- Two elements whose codes lie in different blocks. -/
def Dsj (r s : List Value) : Prop := ∀ A B n c m d r' s', r = .slice A n c :: r' → s = .slice B m d :: s' → ∀ a b, A = some a → B = some b → a.block ≠ b.block
/-- Blocks that are all their own: G0 is what was known ahead of the copying. -/
structure Cpy (G0 G' : Gh) (A : Option Addr) (c : Nat) (l : List Blk) : Prop where
  rows : ∃ css G1, All2 ((kOwn G0).R G1) l css ∧ Sl G' A l.length c 5 css.flatten ∧ Ghe G0 G1 ∧ Ghe G1 G' ∧ Fresh G1 A ∧ css.Pairwise Dsj
/-- What has been copied so far. -/
def CpyC (G0 Gk : Gh) (l : List Blk) (vals : List Value) : Prop := ∃ css, All2 ((kOwn G0).R Gk) l css ∧ vals = css.flatten ∧ css.Pairwise Dsj
theorem CpyC.ones {G0 Gk : Gh} {l : List Blk} {vals : List Value} (h : CpyC G0 Gk l vals) : ∀ v ∈ vals, v.oneCell' = true := by
  obtain ⟨css, h1, h2, _⟩ := h
  exact Kd.Cs.ones (d := kOwn G0) ⟨css, h1, h2⟩
theorem CpyC.snoc {G0 Gk Gx : Gh} {l : List Blk} {vals : List Value} (h : CpyC G0 Gk l vals) (hg : Ghe Gk Gx) {b : Blk} {A : Option Addr} {c : Nat} {r : List Value} (hf : Fresh Gk A) (hR : (kOwn G0).R Gx b (.slice A b.code.length c :: r)) :
    CpyC G0 Gx (l ++ [b]) (vals ++ (.slice A b.code.length c :: r)) := by
  obtain ⟨css, h1, rfl, h3⟩ := h
  refine ⟨css ++ [.slice A b.code.length c :: r], All2.app (xs' := [b]) (ys' := [_]) ⟨hR, trivial⟩ (h1.imp fun _ _ => (kOwn G0).mono hg), by simp, ?_⟩
  refine List.pairwise_append.2 ⟨h3, List.pairwise_singleton _ _, fun x hx y hy => ?_⟩
  obtain rfl := List.mem_singleton.1 hy
  obtain ⟨i, hi⟩ := List.getElem?_of_mem hx
  obtain ⟨b1, _, hb1⟩ := h1.get' i x hi
  intro A1 B1 n1 c1 m1 d1 r1 s1 e1 e2 a b ha hb
  obtain ⟨A2, c2, xs2, rest2, e3, _, hw, _⟩ := hb1.2
  rw [e3] at e1
  simp only [List.cons.injEq, Value.slice.injEq] at e1 e2
  exact hw.ne hf a b (by rw [e1.1.1]; exact ha) (by rw [e2.1.1]; exact hb)
theorem Cpy.blk {G0 G' : Gh} {A : Option Addr} {c : Nat} {l : List Blk} (h : Cpy G0 G' A c l) : kBlk.S G' A c l := by
  obtain ⟨css, G1, h1, h2, _, h4, _, _⟩ := h.rows
  exact ⟨css, h1.imp fun _ _ hr => kBlk.mono h4 hr.1, h2⟩
theorem fresh_of {G0 G1 : Gh} {A : Option Addr} (hg : Ghe G0 G1) (h : Fresh G1 A) : Fresh G0 A := fun ad had => by
  cases hb : G0 ad.block with
  | none => rfl
  | some o => have := hg _ _ hb; rw [h ad had] at this; cases this
set_option maxHeartbeats 8000000 in
theorem copy7_fn (G : Gh) (A : Option Addr) (c : Nat) (f : Fn) (hl : kBlk.S G A c f.blocks) (hbl : f.blocks.length ≤ 1000000) (hcl : totB f.blocks ≤ 1000000) :
    Ct Tryz.prog 56 [fnS A c f] [] G fun sv H' G' => (∃ A' c', sv = fnS A' c' f ∧ Cpy G G' A' c' f.blocks) ∧ H' = [] := by
  refine fn_of follows [(5, (.cons 0 [] (.cons 1 [] (.cons 3 [] (.cons 4 [] (.cons 5 [] (.cons 6 [] (.cons 7 [] (.cons 8 [] (.cons 10 [] (.cons 11 [] (.cons 12 [] (.cons 13 [] (.cons 14 [] (.cons 15 [] (.cons 2 [] (.cons 9 [4, 8] (.cons 16 [] (.cons 17 [4, 8, 11, 15] (.cons 18 [1, 4, 8, 11, 15] (.cons 19 [] (.cons 20 [1, 4, 8, 11, 15] .nil))))))))))))))))))))))] Tryz.func56 rfl rfl fun E hE => ?_
  have hcap := hl.cap
  unfold fnS
  repeat' ((fail_if_success with_reducible refine Stop.mk ?_);(conv=>whnf);with_reducible first|refine br_t ?_|refine br_f ?_|refine br_nn ?_|refine br_ns ?_|refine br_not ?_|refine br_d (fun h=>?_) fun h=>?_|refine br_e (fun h=>?_) fun h=>?_|refine br_n (fun h=>?_) fun h=>?_|refine drw (by kernel_rfl) ?_|refine chk (by kernel_rfl) ?_|refine stop ?_)
  all_goals refine Stop.mk ?_
  refine loop_gh (gh_birthC 2 2 60 5 rfl rfl) ?_
  rintro _ _ ⟨rfl, rfl⟩
  refine loop_vars follows [(5, (.cons 0 [] (.cons 1 [] (.cons 3 [] (.cons 4 [] (.cons 5 [] (.cons 6 [] (.cons 7 [] (.cons 8 [] (.cons 10 [] (.cons 11 [] (.cons 12 [] (.cons 13 [] (.cons 14 [] (.cons 15 [] (.cons 2 [] (.cons 9 [4, 8] (.cons 16 [] (.cons 17 [4, 8, 11, 15] (.cons 18 [1, 4, 8, 11, 15] (.cons 19 [] (.cons 20 [1, 4, 8, 11, 15] .nil))))))))))))))))))))))] (α := Nat × List Value × Gh) (fun x => [(4, .v (.int .i64 x.1))])
    (fun x => [.cells 25 [.v (.int .i64 f.args), .v (.int .i64 f.regs), .v (.slice A f.blocks.length c)], .cells 25 [.v (.int .i64 0), .v (.int .i64 0), .v (.slice none 0 0)], .cells 25 [.v (.int .i64 f.args), .v (.int .i64 f.regs), .s 3], .row 60 5 x.1 x.2.1]) (fun x => x.2.2)
    (fun x => x.1 ≤ f.blocks.length ∧ Ghe G x.2.2 ∧ CpyC G x.2.2 (f.blocks.take x.1) x.2.1)
    (fun x => f.blocks.length - x.1) (0, [], G)
    ⟨Nat.zero_le _, fun _ _ h => h, [], trivial, rfl, List.Pairwise.nil⟩ rfl rfl ?_ ?_
  ·
    refine ⟨?_⟩
    (conv => whnf)
    (repeat' (first | exact trivial | exact .inl rfl | exact .inr rfl | refine And.intro ?_ ?_))
  rintro ⟨k, vals, Gk⟩ ⟨hk, hgk, hvals⟩
  dsimp only at hk hgk hvals ⊢
  have hw2 : IntKind.i64.wrap ((k : Int) + 1) = ((k + 1 : Nat) : Int) := by rw [i64_in (by omega) (by omega)]; simp
  have hlk := hl.to hgk
  repeat' ((fail_if_success with_reducible refine Stop.mk ?_);(conv=>whnf);with_reducible first|refine br_t ?_|refine br_f ?_|refine br_nn ?_|refine br_ns ?_|refine br_not ?_|refine br_d (fun h=>?_) fun h=>?_|refine br_e (fun h=>?_) fun h=>?_|refine br_n (fun h=>?_) fun h=>?_|refine drw (by kernel_rfl) ?_|refine chk (by kernel_rfl) ?_|refine stop ?_)
  all_goals refine Stop.mk ?_
  ·
    obtain ⟨_, hs_, hat_⟩ := hlk.at (sz := 5) rfl
    refine ⟨⟨by omega, by omega⟩, _, hs_, fun ad had hadr => ?_⟩
    obtain ⟨b, cells, hb, hRb, hGb⟩ := hat_ k (by omega) ad (by first | exact had | (rw [Int.toNat_natCast] at had; exact had))
    clear had hat_ hs_
    obtain ⟨A', c', rfl, hS, hbt⟩ := kBlk_R hRb
    have hclb : b.code.length ≤ totB f.blocks := by
      have h1 := totB_take f.blocks k b hb
      have h2 := totB_le f.blocks (k + 1)
      omega
    repeat' ((fail_if_success with_reducible refine Stop.mk ?_);(conv=>whnf);with_reducible first|refine br_t ?_|refine br_f ?_|refine br_nn ?_|refine br_ns ?_|refine br_not ?_|refine br_d (fun h=>?_) fun h=>?_|refine br_e (fun h=>?_) fun h=>?_|refine br_n (fun h=>?_) fun h=>?_|refine drw (by kernel_rfl) ?_|refine chk (by kernel_rfl) ?_|refine stop ?_)
    all_goals refine Stop.mk ?_
    refine ⟨_, hGb 0 _ rfl, ?_⟩
    obtain ⟨ics, hI1, hI2⟩ := hS.cs
    have hcap2 := hI1.cap
    repeat' ((fail_if_success with_reducible refine Stop.mk ?_);(conv=>whnf);with_reducible first|refine br_t ?_|refine br_f ?_|refine br_nn ?_|refine br_ns ?_|refine br_not ?_|refine br_d (fun h=>?_) fun h=>?_|refine br_e (fun h=>?_) fun h=>?_|refine br_n (fun h=>?_) fun h=>?_|refine drw (by kernel_rfl) ?_|refine chk (by kernel_rfl) ?_|refine stop ?_)
    all_goals refine Stop.mk ?_
    obtain ⟨_, hs_, hat_⟩ := hlk.at (sz := 5) rfl
    refine ⟨⟨by omega, by omega⟩, _, hs_, fun ad had hadr => ?_⟩
    obtain ⟨b2, cells, hb2, hRb2, hGb2⟩ := hat_ k (by omega) ad (by first | exact had | (rw [Int.toNat_natCast] at had; exact had))
    clear had hat_ hs_
    obtain rfl : b2 = b := by rw [hb] at hb2; cases hb2; rfl
    obtain ⟨A2, c2, rfl, hS2, hbt2⟩ := kBlk_R hRb2
    repeat' ((fail_if_success with_reducible refine Stop.mk ?_);(conv=>whnf);with_reducible first|refine br_t ?_|refine br_f ?_|refine br_nn ?_|refine br_ns ?_|refine br_not ?_|refine br_d (fun h=>?_) fun h=>?_|refine br_e (fun h=>?_) fun h=>?_|refine br_n (fun h=>?_) fun h=>?_|refine drw (by kernel_rfl) ?_|refine chk (by kernel_rfl) ?_|refine stop ?_)
    all_goals refine Stop.mk ?_
    refine ⟨i64s b2.term.l, rfl, hGb2.drop_ 1 (by show 1 < 5; decide), ?_⟩
    repeat' ((fail_if_success with_reducible refine Stop.mk ?_);(conv=>whnf);with_reducible first|refine br_t ?_|refine br_f ?_|refine br_nn ?_|refine br_ns ?_|refine br_not ?_|refine br_d (fun h=>?_) fun h=>?_|refine br_e (fun h=>?_) fun h=>?_|refine br_n (fun h=>?_) fun h=>?_|refine drw (by kernel_rfl) ?_|refine chk (by kernel_rfl) ?_|refine stop ?_)
    all_goals refine Stop.mk ?_
    refine ⟨ics, hI1, by show (0 + b2.code.length) * 40 ≤ _; omega, ?_⟩
    simp only [Nat.zero_add, List.nil_append]
    repeat' ((fail_if_success with_reducible refine Stop.mk ?_);(conv=>whnf);with_reducible first|refine br_t ?_|refine br_f ?_|refine br_nn ?_|refine br_ns ?_|refine br_not ?_|refine br_d (fun h=>?_) fun h=>?_|refine br_e (fun h=>?_) fun h=>?_|refine br_n (fun h=>?_) fun h=>?_|refine drw (by kernel_rfl) ?_|refine chk (by kernel_rfl) ?_|refine stop ?_)
    all_goals refine Stop.mk ?_
    refine And.intro hI2.ones ?_
    intro Ax cx Gx hgx hsx hkx
    (conv => whnf)
    refine And.intro (by show (k + 1) * 56 ≤ _; omega) ?_
    have hSx : kIns.S Gx Ax cx b2.code := Kd.S.of hsx rfl rfl (hI2.to hgx)
    repeat' ((fail_if_success with_reducible refine Stop.mk ?_);(conv=>whnf);with_reducible first|refine br_t ?_|refine br_f ?_|refine br_nn ?_|refine br_ns ?_|refine br_not ?_|refine br_d (fun h=>?_) fun h=>?_|refine br_e (fun h=>?_) fun h=>?_|refine br_n (fun h=>?_) fun h=>?_|refine drw (by kernel_rfl) ?_|refine chk (by kernel_rfl) ?_|refine stop ?_)
    all_goals refine Stop.mk ?_
    rw [hw2]
    refine tell_gc hE [0, 1, 2, 3] rfl rfl ?_
    (conv => whnf)
    refine tell_here ⟨(k + 1, vals ++ (.slice Ax b2.code.length cx :: i64s b2.term.l), Gx), ⟨by show k + 1 ≤ _; omega, fun b o hb => hgx b o (hgk b o hb), ?_⟩, by show f.blocks.length - (k + 1) < f.blocks.length - k; omega, rfl, rfl, ?_⟩
    · show CpyC G Gx (f.blocks.take (k + 1)) _
      rw [List.take_add_one, hb]
      exact hvals.snoc hgx hkx.fresh ⟨⟨Ax, cx, rfl, hSx, hbt2⟩, Ax, cx, ics, _, rfl, fresh_of hgk hkx.fresh, hkx.whl, hsx⟩
    ·
      refine ⟨?_⟩
      (conv => whnf)
      (repeat' (first | exact trivial | exact .inl rfl | exact .inr rfl | refine And.intro ?_ ?_))
  · have hkl : k = f.blocks.length := by omega
    subst hkl
    rw [List.take_length] at hvals
    refine fin_fzW 3 rfl hvals.ones fun Ax cx Gx hgx hfx hwx hsx => ?_
    (conv => whnf)
    obtain ⟨css, hc1, rfl, hc3⟩ := hvals
    exact fin_id hE 0 rfl rfl rfl rfl ⟨⟨Ax, cx, rfl, ⟨css, Gk, hc1, hsx, hgk, hgx, hfx, hc3⟩⟩, rfl⟩
/-- The blocks in which the codes lie. -/
def CodeB (css : List (List Value)) (b : Nat) : Prop := ∃ r ∈ css, ∃ (a : Addr) (n c : Nat) (rest : List Value), r = .slice (some a) n c :: rest ∧ b = a.block
end Go.Proofs.YtchebkpcgglllaaGreat.Cu
